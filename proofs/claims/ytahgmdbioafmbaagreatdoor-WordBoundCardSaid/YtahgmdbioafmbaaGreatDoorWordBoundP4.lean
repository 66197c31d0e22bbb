/-
  The texts that the law's proof needs, part 4.
-/
import Derived.Laws.StructEq
import Derived.Laws.Tables
import Derived.Lib.SlBytesConst
import Derived.Shelf.SlLaysF
import Derived.Shelf.SlSortCmp.Whole1
import Derived.Test.YtahgmdbioafmbaaGreatDoorWordBoundP3

namespace Go.Proofs.YtahgmdbioafmbaaGreatDoor.V
open Go
set_option linter.unusedVariables false
theorem zh2 {d:List SNode} {a:Int} (h:∃m,at? d a=some m):ze9 d (1,a,0,0)=true:=by
 obtain ⟨m,hm⟩:=h;unfold ze9;simp [hm]
theorem ze2 {d:List SNode} {i a:Int} {n:SNode} (hn:at? d i=some n) (h0:0≤a) (h1:a<i):∃m,at? d a=some m:=by
 obtain ⟨j,rfl,hj⟩:=znt hn;have:=(List.getElem?_eq_some_iff.1 hj).1;obtain ⟨m,hm,_⟩:=zoq (xs:=d) h0 (by omega);exact ⟨m,hm⟩
theorem zb3 {α:Type} {d:List α} {i:Int} {n:α} (hn:at? d i=some n):0≤i∧i<(d.length:Int):=by
 obtain ⟨j,rfl,hj⟩:=znt hn;have:=(List.getElem?_eq_some_iff.1 hj).1;omega
theorem opn_cases {d:List SNode} (hd:ROk d) {x:SItem} {rest:List SItem} (hf:zej d (x::rest)=true) (hr:rdy d (x::rest)=false) {t:List SItem} (ht:t∈opn d (x::rest)):
  t=rest∨∃n,at? d x.2.1=some n∧x.1≠5∧((∃a,0≤a∧a<x.2.1∧t=(1,a,0,0)::rest)∨(∃a b,0≤a∧a<x.2.1∧0≤b∧b<x.2.1∧t=(1,a,0,0)::(1,b,0,0)::rest)∨(∃a lo hi k,0≤a∧a<x.2.1∧t=(1,a,0,0)::(k,x.2.1,lo,hi)::rest∧ze9 d (k,x.2.1,lo,hi)=true)∨∃k lo hi,t=(k,x.2.1,lo,hi)::rest∧ze9 d (k,x.2.1,lo,hi)=true):=by
 have hx:=(zdx hf).1
 by_cases h5:x.1=5
 ·simp only [opn] at ht;rw [if_pos h5] at ht;split at ht
  ·exact .inl (List.mem_singleton.1 ht)
  ·cases ht
 ·obtain ⟨n,hn,hk⟩:=zf2 hx h5;simp only [opn,hn] at ht;rw [if_neg h5] at ht
  by_cases h2:x.1=2
  ·rw [if_pos h2] at ht;have hx':=hx;unfold ze9 at hx';rw [if_neg h5,hn] at hx';simp [h2] at hx';obtain ⟨a0,a1⟩:=hd.one _ n hn (.inr (.inl hx'.1.1.1));rcases List.mem_append.1 ht with ht | ht
   ·split at ht
    ·exact .inl (List.mem_singleton.1 ht)
    ·cases ht
   ·split at ht
    ·rename_i hpos
     refine .inr ⟨n,hn,h5,.inr (.inr (.inl ⟨n.2.1,_,_,2,a0,a1,List.mem_singleton.1 ht, ?_⟩))⟩;unfold ze9;simp [hn,hx'.1.1.1];omega
    ·cases ht
  ·rw [if_neg h2] at ht;have e1:x.1=1:=by
    rcases hk with h | ⟨h,_⟩ | ⟨h,_⟩ | ⟨h,_⟩
    ·exact h
    ·exact absurd h h2
    ·simp [rdy,h] at hr
    ·simp [rdy,h] at hr
   have h289:n.1≠2∧n.1≠8∧n.1≠9:=by
    simp only [rdy,hn,e1] at hr;simp at hr;omega
   by_cases k1:n.1=1
   ·rw [if_pos k1] at ht;exact .inl (List.mem_singleton.1 ht)
   ·rw [if_neg k1] at ht
    by_cases k3:n.1=3
    ·rw [if_pos k3] at ht;refine .inr ⟨n,hn,h5,.inr (.inr (.inr ⟨3,0,0,List.mem_singleton.1 ht, ?_⟩))⟩;have:=hd.ntx _ n hn k3;unfold ze9;simp [hn,k3];exact List.length_pos_iff.2 this
    ·rw [if_neg k3] at ht
     by_cases k4:n.1=4
     ·rw [if_pos k4] at ht;obtain ⟨⟨a,b⟩,c,e⟩:=hd.two _ n hn (.inl k4);exact .inr ⟨n,hn,h5,.inr (.inl ⟨_,_,a,b,c,e,List.mem_singleton.1 ht⟩)⟩
     ·rw [if_neg k4] at ht
      by_cases k5:n.1=5
      ·rw [if_pos k5] at ht;obtain ⟨⟨a,b⟩,c,e⟩:=hd.two _ n hn (.inr k5);simp only [List.mem_cons,List.not_mem_nil,or_false] at ht;rcases ht with ht | ht
       ·exact .inr ⟨n,hn,h5,.inl ⟨_,a,b,ht⟩⟩
       ·exact .inr ⟨n,hn,h5,.inl ⟨_,c,e,ht⟩⟩
      ·rw [if_neg k5] at ht
       by_cases k6:n.1=6
       ·rw [if_pos k6] at ht;obtain ⟨a,b⟩:=hd.one _ n hn (.inl k6);simp only [List.mem_cons,List.not_mem_nil,or_false] at ht;rcases ht with ht | ht
        ·exact .inl ht
        ·obtain ⟨xk,xi,xl,xh⟩:=x;exact .inr ⟨n,hn,h5,.inr (.inr (.inl ⟨_,xl,xh,xk,a,b,ht,hx⟩))⟩
       ·rw [if_neg k6] at ht;have k7:n.1=7:=by have:=hd.kind _ n hn;omega
        refine .inr ⟨n,hn,h5,.inr (.inr (.inr ⟨2,_,_,List.mem_singleton.1 ht, ?_⟩))⟩;obtain ⟨b0,b1,b2⟩:=hd.rep _ n hn k7;unfold ze9;simp [hn,k7,b0,b1]
theorem zfu {d:List SNode} {x:SItem} {s:List SItem} (h:ze9 d x=true) (k:zej d s=true):zej d (x::s)=true:=by
 simp only [zej,List.all_cons,Bool.and_eq_true];exact ⟨h,k⟩
theorem form_opn {d:List SNode} (hd:ROk d) {s:List SItem} (hf:zej d s=true) (hr:rdy d s=false):∀t∈opn d s,zej d t=true:=by
 intro t ht;cases s with
 | nil=>simp [opn] at ht
 | cons x rest=>
  have hrest:=(zdx hf).2;rcases opn_cases hd hf hr ht with rfl | ⟨n,hn,h5,h⟩
  ·exact hrest
  ·rcases h with ⟨a,h0,h1,rfl⟩ | ⟨a,b,h0,h1,h2,h3,rfl⟩ | ⟨a,lo,hi,k,h0,h1,rfl,h2⟩ | ⟨k,lo,hi,rfl,h2⟩
   ·exact zfu (zh2 (ze2 hn h0 h1)) hrest
   ·exact zfu (zh2 (ze2 hn h0 h1)) (zfu (zh2 (ze2 hn h2 h3)) hrest)
   ·exact zfu (zh2 (ze2 hn h0 h1)) (zfu h2 hrest)
   ·exact zfu h2 hrest
def SufI (D:Nat):List SItem→Prop
 | []=>True
 | x::u=>(u.length:Int)+1+x.2.1≤(D:Int)∧0≤x.2.1∧SufI D u
theorem SufI.len {D:Nat}:∀{u:List SItem},SufI D u→u.length≤D
 | [],_=>Nat.zero_le _
 | x::u,h=>by
  have h1:=h.1;have h2:=h.2.1;simp only [List.length_cons];omega
structure Vs (d:List SNode) (n0:Nat) (t:List SItem):Prop where
 form:zej d t=true
 cut:∃u v,t=u++v∧SufI d.length u∧v.length≤n0
theorem Vs.len {d:List SNode} {n0:Nat} {t:List SItem} (h:Vs d n0 t):t.length≤n0+d.length:=by
 obtain ⟨u,v,rfl,h1,h2⟩:=h.cut;have:=h1.len;simp;omega
theorem Vs.start {d:List SNode} {s:List SItem} {n0:Nat} (hf:zej d s=true) (h:s.length≤n0):Vs d n0 s:=⟨hf,[],s,rfl,trivial,h⟩
theorem Vs.opn {d:List SNode} (hd:ROk d) {n0:Nat} {s:List SItem} (h:Vs d n0 s) (hr:rdy d s=false):∀t∈opn d s,Vs d n0 t:=by
 intro t ht;refine ⟨form_opn hd h.form hr t ht, ?_⟩;obtain ⟨u,v,hs,h1,h2⟩:=h.cut;cases s with
 | nil=>simp [V.opn] at ht
 | cons x rest=>
  have key:∃u' v',rest=u'++v'∧SufI d.length u'∧v'.length≤n0∧(x.1≠5→(u'.length:Int)+1+x.2.1≤(d.length:Int)∧0≤x.2.1):=by
   cases u with
   | nil=>
    simp at hs;refine ⟨[],rest,rfl,trivial,by rw [← hs] at h2;simp at h2;omega,fun h5=>?_⟩;obtain ⟨n,hn,_⟩:=zf2 (zdx h.form).1 h5;have:=zb3 hn;simp;omega
   | cons y u'=>
    simp at hs;obtain ⟨e1,e2⟩:=hs;subst e1;exact ⟨u',v,e2,h1.2.2,h2,fun _=>⟨h1.1,h1.2.1⟩⟩
  obtain ⟨u',v',rfl,k1,k2,k3⟩:=key;rcases opn_cases hd h.form hr ht with rfl | ⟨n,hn,h5,hc⟩
  ·exact ⟨u',v',rfl,k1,k2⟩
  ·obtain ⟨k4,k5⟩:=k3 h5;rcases hc with ⟨a,h0,h1,rfl⟩ | ⟨a,b,h0,h1,h2,h3,rfl⟩ | ⟨a,lo,hi,k,h0,h1,rfl,h2⟩ | ⟨k,lo,hi,rfl,h2⟩
   ·exact ⟨(1,a,0,0)::u',v',rfl,⟨by simp only;omega,h0,k1⟩,k2⟩
   ·exact ⟨(1,a,0,0)::(1,b,0,0)::u',v',rfl,⟨by simp only [List.length_cons];omega,h0,by simp only;omega,h2,k1⟩,k2⟩
   ·exact ⟨(1,a,0,0)::(k,x.2.1,lo,hi)::u',v',rfl,⟨by simp only [List.length_cons];omega,h0,by simp only;omega,k5,k1⟩,k2⟩
   ·exact ⟨(k,x.2.1,lo,hi)::u',v',rfl,⟨by simp only;omega,k5,k1⟩,k2⟩
section
variable {κ ν : Type} [DecidableEq κ]
theorem zqi {xs:List (κ × ν)} {k:κ} {v:ν} {p:κ × ν}:p∈zfa xs k v↔p=(k,v)∨(p.1≠k∧p∈xs):=by
 unfold zfa;cases h:zhr xs k
 ·rw [cond_false,List.mem_append,List.mem_singleton];constructor
  ·rintro (hp | hp)
   ·exact .inr ⟨fun e=>(by have:=zfh.2 ⟨p,hp,e⟩;rw [h] at this;cases this),hp⟩
   ·exact .inl hp
  ·rintro (hp | hp)
   ·exact .inr hp
   ·exact .inl hp.2
 ·rw [cond_true,List.mem_map];constructor
  ·rintro ⟨q,hq,e⟩
   by_cases hk:q.1=k
   ·simp [hk] at e;exact .inl e.symm
   ·have:(q.1==k)=false:=by simpa using hk
    rw [this] at e;simp at e;subst e;exact .inr ⟨hk,hq⟩
  ·rintro (hp | ⟨hk,hp⟩)
   ·obtain ⟨q,hq,e⟩:=zfh.1 h;exact ⟨q,hq,by simp [e,hp]⟩
   ·have:(p.1==k)=false:=by simpa using hk
    exact ⟨p,hp,by simp [this]⟩
theorem mput_kn {xs:List (κ × ν)} (hn:KN xs) (k:κ) (v:ν):KN (zfa xs k v):=by
 unfold zfa KN;cases h:zhr xs k
 ·rw [cond_false,List.map_append,List.nodup_append];refine ⟨hn,by simp,fun a ha b hb=>?_⟩;simp at hb;subst hb;intro e;subst e;obtain ⟨p,hp,e⟩:=List.mem_map.1 ha;have:=zfh.2 ⟨p,hp,e⟩;rw [h] at this;cases this
 ·rw [cond_true,List.map_map];have:(xs.map ((fun x=>x.1) ∘ fun p=>bif p.1==k then (k,v) else p))=xs.map (·.1):=by
   apply List.map_congr_left;intro p _;simp only [Function.comp]
   by_cases hk:p.1=k
   ·simp [hk]
   ·have:(p.1==k)=false:=by simpa using hk
    rw [this];rfl
  rw [this];exact hn
theorem mget_in {xs:List (κ × ν)} {k:κ} (h:zhr xs k=true) (z:ν):(k,zea xs k z)∈xs:=by
 unfold zea;cases hf:xs.find? (fun p=>p.1==k) with
 | none=>
  obtain ⟨p,hp,e⟩:=zfh.1 h;have:=List.find?_eq_none.1 hf p hp;simp [e] at this
 | some q=>
  have h1:=List.find?_some hf;have h2:=List.mem_of_find?_eq_some hf;have e:q.1=k:=by simpa using h1
  rw [← e];exact h2
end
structure zk0 (f:List SItem→Nat) (m:List (Str × SBranch)):Prop where
 kn:KN m
 mem:∀k b,(k,b)∈m↔k=keyS b.1∧f b.1≠0∧b.2=sat (f b.1)
theorem zk0.nil:zk0 (fun _=>0) []:=⟨List.nodup_nil,by simp⟩
theorem zk0.congr {f g:List SItem→Nat} {m} (h:zk0 f m) (e:∀t,sat (f t)=sat (g t)):zk0 g m:=⟨h.kn,fun k b=>by rw [h.mem,sat_ne (e b.1),e b.1]⟩
theorem zk0.get {f:List SItem→Nat} {m} (h:zk0 f m) (u:List SItem):(zea m (keyS u) (([],0):SBranch)).2=sat (f u):=by
 by_cases hu:f u=0
 ·rw [zhm fun p hp e=>?_]
  ·rw [hu];rfl
  ·obtain ⟨k,b⟩:=p;obtain ⟨h1,h2,_⟩:=(h.mem k b).1 hp;simp only at e;rw [e] at h1;rw [zgc.1 h1] at hu;exact h2 hu
 ·have hm:=(h.mem (keyS u) (u,sat (f u))).2 ⟨rfl,hu,rfl⟩;have:=zmb h.kn hm (([],0):SBranch);simp only at this;rw [this]
theorem zk0.put {f:List SItem→Nat} {m} (h:zk0 f m) (u:List SItem) {n:Nat} (hn:n≠0):zk0 (fun t=>f t+if t=u then n else 0) (zfa m (keyS u) (u,min ((zea m (keyS u) (([],0):SBranch)).2+sat n) 2)):=by
 refine ⟨mput_kn h.kn _ _,fun k b=>?_⟩;rw [zqi,h.get,h.mem];have e:min (sat (f u)+sat n) 2=sat (f u+n):=by unfold sat;omega
 rw [e]
 by_cases hb:b.1=u
 ·subst hb;simp only [if_true,Prod.mk.injEq];constructor
  ·rintro (⟨h1,h2⟩ | ⟨h1,h2,_⟩)
   ·exact ⟨h1,by omega,by rw [h2]⟩
   ·exact absurd h2 h1
  ·rintro ⟨h1,_,h2⟩;exact .inl ⟨h1,by rw [← h2]⟩
 ·simp only [if_neg hb,Nat.add_zero,Prod.mk.injEq];constructor
  ·rintro (⟨h1,h2⟩ | ⟨h1,h2⟩)
   ·rw [h2] at hb;exact absurd rfl hb
   ·exact h2
  ·rintro ⟨h1,h2⟩;exact .inr ⟨fun e=>hb (zgc.1 (h1.symm.trans e)),h1,h2⟩
theorem zk0.one (s:List SItem):zk0 (fun t=>[s].count t) (zfa [] (keyS s) (s,1)):=by
 have:=zk0.nil.put s (n:=1) (by omega);have e:(zfa ([]:List (Str × SBranch)) (keyS s) (s,min ((zea [] (keyS s) (([],0):SBranch)).2+sat 1) 2))=zfa [] (keyS s) (s,1):=rfl;rw [e] at this;refine this.congr fun t=>?_;simp only [List.count_singleton,Nat.zero_add,beq_iff_eq]
 by_cases ht:t=s
 ·subst ht;simp
 ·simp [ht,Ne.symm ht]
theorem znm (b:SBranch):∀l:List SBranch,(insB b l).Perm (b::l)
 | []=>.refl _
 | c::l=>by
  unfold insB;split
  ·exact .refl _
  ·exact ((znm b l).cons c).trans (List.Perm.swap _ _ _)
theorem zgg:∀l:List SBranch,(srtB l).Perm l
 | []=>.refl _
 | b::l=>(znm b _).trans ((zgg l).cons b)
theorem insB_srt {b:SBranch}:∀{l:List SBranch},(∀c∈l,c.1≠b.1)→l.Pairwise (fun a b=>ze1 a.1 b.1<0)→(insB b l).Pairwise (fun a b=>ze1 a.1 b.1<0)
 | [],_,_=>by simp [insB]
 | c::l,hn,h=>by
  rw [List.pairwise_cons] at h;unfold insB;split
  ·rename_i hlt
   refine List.pairwise_cons.2 ⟨fun x hx=>?_,List.pairwise_cons.2 h⟩;rcases List.mem_cons.1 hx with rfl | hx
   ·exact hlt
   ·exact zge hlt (h.1 x hx)
  ·rename_i hge
   refine List.pairwise_cons.2 ⟨fun x hx=>?_,insB_srt (fun x hx=>hn x (by simp [hx])) h.2⟩;rcases List.mem_cons.1 ((znm b l).mem_iff.1 hx) with rfl | hx
   ·have h1:=zf3 x.1 c.1;have h2:ze1 x.1 c.1≠0:=fun e=>hn c (by simp) (zem.1 e).symm;omega
   ·exact h.1 x hx
theorem zl9:∀{l:List SBranch},(l.map (·.1)).Nodup→(srtB l).Pairwise (fun a b=>ze1 a.1 b.1<0)
 | [],_=>List.Pairwise.nil
 | b::l,h=>by
  rw [List.map_cons,List.nodup_cons] at h;refine insB_srt (fun c hc e=>h.1 ?_) (zl9 h.2);rw [← e];exact List.mem_map.2 ⟨c,(zgg l).mem_iff.1 hc,rfl⟩
theorem zk0.can {f:List SItem→Nat} {m:List (Str × SBranch)} (h:zk0 f m) {out:List SBranch} (hp:out.Perm (m.map (·.2))):(out.map (·.1)).Nodup∧Can f (srtB out):=by
 have hk:m.map (·.1)=(m.map (·.2)).map (fun b=>keyS b.1):=by
  rw [List.map_map];apply List.map_congr_left;rintro ⟨k,b⟩ hm;exact ((h.mem k b).1 hm).1
 have hn:((m.map (·.2)).map (·.1)).Nodup:=by
  have h1:=h.kn;unfold KN at h1;rw [hk] at h1;have e:(m.map (·.2)).map (fun b=>keyS b.1)=((m.map (·.2)).map (·.1)).map keyS:=by rw [List.map_map (f:=fun b:SBranch=>b.1)];rfl
  rw [e] at h1;exact List.Pairwise.imp (fun {a b} hab he=>hab (by rw [he])) (List.pairwise_map.1 h1)
 have hn2:(out.map (·.1)).Nodup:=(hp.map (·.1)).nodup_iff.2 hn;refine ⟨hn2,zl9 hn2,fun t c=>?_⟩;rw [(zgg out).mem_iff,hp.mem_iff,List.mem_map];constructor
 ·rintro ⟨⟨k,b⟩,hm,e⟩;simp only at e;subst e;exact ((h.mem k _).1 hm).2
 ·rintro h1;exact ⟨(keyS t,(t,c)),(h.mem _ _).2 ⟨rfl,h1⟩,rfl⟩
end Go.Proofs.YtahgmdbioafmbaaGreatDoor.V
namespace Go.Proofs.YtahgmdbioafmbaaGreatDoor.VD
open Go
set_option linter.unusedVariables false
def En.cat {α β:Type} (E:En α) (F:En β):En (α × β) where
 sz:=E.sz+F.sz
 agg:=true
 R:=fun w S cs x=>∃a b,cs=a++b∧E.R w S a x.1∧F.R w S b x.2
 sc:=fun h=>by cases h
 pos:=Nat.add_pos_left E.pos _
 len:=by rintro _ _ _ _ ⟨a,b,rfl,h1,h2⟩;rw [List.length_append,E.len h1,F.len h2]
 one:=by
  rintro _ _ _ _ ⟨a,b,rfl,h1,h2⟩ u hu
  rcases List.mem_append.1 hu with h | h
  ·exact E.one h1 u h
  ·exact F.one h2 u h
 mono:=by rintro w S S' cs x h ⟨a,b,rfl,h1,h2⟩;exact ⟨a,b,rfl,E.mono h h1,F.mono h h2⟩
 move:=by rintro w w' S cs x h ⟨a,b,rfl,h1,h2⟩;exact ⟨a,b,rfl,E.move h h1,F.move h h2⟩
structure Prt {α β:Type} (E:En α) (off:Nat) (E':En β) (x:α) (y:β):Prop where
 le:off+E'.sz≤E.sz
 get:∀w S cs,E.R w S cs x→E'.R w S ((cs.drop off).take E'.sz) y
section
variable {α β γ : Type} {E : En α} {E' : En β} {F : En γ} {off off' : Nat} {y : β}
theorem zh (E:En α) (x:α):Prt E 0 E x x:=⟨by simp,fun w S cs h=>by rw [List.drop_zero,List.take_of_length_le (by rw [E.len h];exact Nat.le_refl _)];exact h⟩
theorem zm {x:α × γ} (h:Prt E off E' x.1 y):Prt (E.cat F) off E' x y:=
 ⟨Nat.le_trans h.le (Nat.le_add_right _ _),fun w S cs ⟨a,b,e,h1,h2⟩=>by
  subst e;have hl:=E.len h1;have:=h.le;have e:((a++b).drop off).take E'.sz=(a.drop off).take E'.sz:=by
   rw [List.drop_append_of_le_length (by omega),List.take_append_of_le_length (by simp;omega)]
  rw [e];exact h.get w S a h1⟩
theorem ze {x:γ × α} (h:Prt E off E' x.2 y) (ho:off'=F.sz+off):Prt (F.cat E) off' E' x y:=
 ⟨by rw [ho,Nat.add_assoc];exact Nat.add_le_add_left h.le _,fun w S cs ⟨a,b,e,h1,h2⟩=>by
  subst e;rw [ho,← F.len h1,List.drop_length_add_append];exact h.get w S b h2⟩
end
theorem zcy.sub {w:World} {b o:Nat} {cs:List Value} (h:zcy w b o cs) (off n:Nat):zcy w b (o+off) ((cs.drop off).take n):=fun j u hu=>by
 rw [Nat.add_assoc];refine h (off+j) u ?_;rw [List.getElem?_take] at hu;split at hu
 ·rwa [List.getElem?_drop] at hu
 ·cases hu
section
variable {P : Program} {ops : Array Oper} {o : Oper} {L : Lst}
theorem zgj {β:Type} {E':En β} {t:TypeId} {fs:Array Field} {f:Nat} {fd:Field} (ht:P.underlying t=some (.struct fs)) (hf:fs[f]?=some fd) (hE:Ty P fd.type E') (b o:Nat) (w:World):
  (Instr.fieldAt t (.pointer (some ⟨b,o,none⟩)) f).run P w = .ok (.pointer (some ⟨b,o+fd.offset,none⟩)) w:=by
 unfold Instr.fieldAt;simp only [Sem.run_bind,run_underlying ht,Result.andThen_ok,hf,Instr.sureAddr,Sem.run_pure,fieldPlace,zbq hE];rw [if_neg (by have:=E'.pos;omega)];simp [zey]
theorem zc0 {α β:Type} {E:En α} {E':En β} {a:α} {y:β} {x:Operand} {t:TypeId} {fs:Array Field} {f off:Nat} {fd:Field} (hx:Opn L x (Pd.ptr E a)) (ht:P.underlying t=some (.struct fs)) (hf:fs[f]?=some fd) (hp:Prt E off E' a y) (hq:fd.offset=off) (hE:Ty P fd.type E')
  (ho:o.op = .fieldAddr t x f) (hg:o.guard=none):T P ops o L (Pd.ptr E' y):=
 T.pure hg fun M n s0 ac s hL=>by
  obtain ⟨b,o',cs,hv,hb,hc,hR⟩:=hx M n s0 ac s hL;refine ⟨.pointer (some ⟨b,o'+fd.offset,none⟩), ?_,b,o'+fd.offset,_,rfl,hb,hq ▸ hc.sub off E'.sz,hp.get _ _ _ hR⟩;unfold execOp;rw [ho];simp only [hv,Sem.run_bind,zgj ht hf hE,Result.andThen_ok,Sem.run_pure]
end
section
variable {P : Program} {ops : Array Oper} {o : Oper} {L : Lst}
end
end Go.Proofs.YtahgmdbioafmbaaGreatDoor.VD
namespace Go.Proofs.YtahgmdbioafmbaaGreatDoor.VD
open Go Go.Proofs.YtahgmdbioafmbaaGreatDoor.V
set_option linter.unusedVariables false
set_option maxRecDepth 100000
noncomputable abbrev En.SItem:En SItem:=(En.cat (En.int .i64) (En.cat (En.int .i64) (En.cat (En.int .i64) (En.int .i64))))
noncomputable abbrev EnF137:En (SItem × SItem × Int→Prop):=En.fun Tryz.prog (fun q=>[Pd.rep En.SItem q.1,Pd.rep En.SItem q.2.1]) (fun q=>Rq (Pd.rep (En.int .i64) q.2.2))
noncomputable abbrev En.SBranch:En SBranch:=(En.cat (En.slice En.SItem) (En.int .i64))
theorem ty3:Ty Tryz.prog 3 (En.int .i64):=⟨⟨_,_,rfl,rfl,rfl,rfl,by decide⟩,_,rfl,rfl⟩
theorem zfv:Ty Tryz.prog 47 (En.slice En.SItem):=⟨⟨_,_,rfl,rfl,rfl,rfl,by decide⟩,_,rfl,rfl⟩
theorem zfk:Ty Tryz.prog 77 En.SItem:=⟨⟨_,_,rfl,rfl,rfl,rfl,by decide⟩,_,rfl,rfl⟩
theorem zic:TyZ Tryz.prog 77 En.SItem ((0,0,0,0):SItem):=⟨_,_,([.int .i64 0]++([.int .i64 0]++([.int .i64 0]++[.int .i64 0]))),rfl,rfl,by rfl,fun _ _=>⟨_,_,rfl,⟨rfl,by decide⟩,⟨_,_,rfl,⟨rfl,by decide⟩,⟨_,_,rfl,⟨rfl,by decide⟩,⟨rfl,by decide⟩⟩⟩⟩⟩
end Go.Proofs.YtahgmdbioafmbaaGreatDoor.VD
namespace Go.Proofs.YtahgmdbioafmbaaGreatDoor.V
open Go
set_option linter.unusedVariables false
def zjb (nv_:SNode) (ahead_:Int) (r_:(List SItem)):Prop:=r_=[(1,nv_.2.1,0,0),(5,0,ahead_,0)]
def zg7 (s_:Sstep_next) (r_:((List SItem) × Bool)):Prop:=(((s_.1.1==8))=true→∃r6:(List SItem),zjb s_.1 s_.2.2 r6∧r_=(r6,true))∧(((s_.1.1==8))=false→(((s_.1.1==9))=true→r_=([(4,s_.2.1.2.1,s_.2.2,0)],true))∧(((s_.1.1==9))=false→∃r13:Bool,zf4 s_.1.2.2.2.2.2.1 s_.2.2 r13∧r_=(([]:(List SItem)),r13)))
def zg6 (s_:Sstep_next) (r_:((List SItem) × Bool)):Prop:=(InR .i64 (s_.2.1.2.2.1+1))∧∃b8:Bool,b8=((s_.2.1.2.2.1+1)==(s_.1.2.2.2.2.2.2.length:Int))∧((b8)=true→∃c11:Int,zen s_.1.2.2.2.2.2.2 s_.2.1.2.2.1=some c11∧r_=(([]:(List SItem)),(c11==s_.2.2)))∧((b8)=false→∃c16:Int,zen s_.1.2.2.2.2.2.2 s_.2.1.2.2.1=some c16∧r_=([(s_.2.1.1,s_.2.1.2.1,s_.2.1.2.2.1+1,s_.2.1.2.2.2)],(c16==s_.2.2)))
def zg8 (s_:Sstep_next) (r_:((List SItem) × Bool)):Prop:=(InR .i64 (256*s_.2.1.2.2.1))∧(InR .i64 ((256*s_.2.1.2.2.1)+s_.2.2))∧∃r5:(List SItem),zjb s_.1 ((256*s_.2.1.2.2.1)+s_.2.2) r5∧r_=(r5,true)
def next_On_1 (a_:SBranch) (b_:SBranch) (r_:Int):Prop:=∃r3:Int,zf1 a_.1 b_.1 r3∧r_=r3
def dyn0 (f_:Option Nat) (x0_:Sstep_next) (r_:((List SItem) × Bool)):Prop:=(f_=some 209∧zg7 x0_ r_)∨(f_=some 210∧zg6 x0_ r_)∨(f_=some 207∧zg8 x0_ r_)
def zkl (d_:SDesc) (s_:(List SItem)) (cv_:Int) (r_:((List SItem) × Bool)):Prop:=((((s_.length:Int)==0))=true→r_=(([]:(List SItem)),false))∧((((s_.length:Int)==0))=false→((0:Int)≤1∧1≤(s_.length:Int))∧∃r7:((List SItem) × Bool),zcr (s_.drop (1:Int).toNat) r7∧∃e10:SItem,at? s_ 0=some e10∧((((!r7.2)||(!(zhr gfm0 e10.1))))=true→r_=(([]:(List SItem)),false))∧((((!r7.2)||(!(zhr gfm0 e10.1))))=false→∃e16:SItem,at? s_ 0=some e16∧∃e18:SNode,at? d_ e16.2.1=some e18∧∃e20:SItem,at? s_ 0=some e20∧∃r22:((List SItem) × Bool),dyn0 (zea gfm0 e10.1 none) (e18,e20,cv_) r22∧(((!r22.2))=true→r_=(([]:(List SItem)),false))∧(((!r22.2))=false→∃r28:(List SItem),zk [r22.1,r7.1] r28∧r_=(r28,true))))
def zbu.j1 (r_:(List SBranch)) (out17:(List SBranch)):Prop:=∃r21:(List SBranch),zjm out17 r21∧r_=r21
def zbu.l1 (many9:(List (Str × Int))) (out11:(List SBranch)) (X1:(List SBranch)→Prop):Nat→(List SBranch)→Int→Prop
 | 0,_,_=>False
 | k_0+1,out24,v26=>((decide (v26<(out11.length:Int)))=true→∃e35:SBranch,at? out24 v26=some e35∧∃r37:Str,zkq e35.1 r37∧∃e39:SBranch,at? out24 v26=some e39∧(InR .i64 (v26+1))∧zbu.l1 many9 out11 X1 k_0 (out24.set (v26:Int).toNat (e39.1,(zea many9 r37 0))) (v26+1))∧((decide (v26<(out11.length:Int)))=false→X1 out24)
def zbu.j2 (r_:(List SBranch)) (many9:(List (Str × Int))) (out11:(List SBranch)):Prop:=∃k27,zbu.l1 many9 out11 (zbu.j1 r_) k27 out11 0
def zbu.j3 (L2_:(List (Str × Int))→(List SBranch)→Int→Prop) (many42:(List (Str × Int))) (v46:Int) (e55:SBranch) (r67:Str) (out71:(List SBranch)):Prop:=(InR .i64 ((zea many42 r67 0)+e55.2))∧(InR .i64 (v46+1))∧L2_ (zfa many42 r67 (min ((zea many42 r67 0)+e55.2) 2)) out71 (v46+1)
def zbu.l2 (d_:SDesc) (cv_:Int) (r7:(List SBranch)) (X2:(List (Str × Int))→(List SBranch)→Prop):Nat→(List (Str × Int))→(List SBranch)→Int→Prop
 | 0,_,_,_=>False
 | k_0+1,many42,out44,v46=>((decide (v46<(r7.length:Int)))=true→∃e55:SBranch,at? r7 v46=some e55∧∃r61:((List SItem) × Bool),zkl d_ e55.1 cv_ r61∧(((!r61.2))=true→(InR .i64 (v46+1))∧zbu.l2 d_ cv_ r7 X2 k_0 many42 out44 (v46+1))∧(((!r61.2))=false→∃r67:Str,zkq r61.1 r67∧((((zea many42 r67 0)==0))=true→(out44.length+[(r61.1,0)].length≤2147483648)∧(zbu.j3 (zbu.l2 d_ cv_ r7 X2 k_0) many42 v46 e55 r67) (out44++[(r61.1,0)]))∧((((zea many42 r67 0)==0))=false→(zbu.j3 (zbu.l2 d_ cv_ r7 X2 k_0) many42 v46 e55 r67) out44)))∧((decide (v46<(r7.length:Int)))=false→X2 many42 out44)
def zbu (d_:SDesc) (s_:(List SItem)) (cv_:Int) (r_:(List SBranch)):Prop:=∃r7:(List SBranch),zft d_ s_ r7∧∃k47,zbu.l2 d_ cv_ r7 (zbu.j2 r_) k47 ([]:(List (Str × Int))) ([]:(List SBranch)) 0
def zc4.j1 (r_:Int):Prop:=r_=0
def zc4.l1 (r4:(List SBranch)) (r_:Int) (X1:Prop):Nat→Int→Prop
 | 0,_=>False
 | k_0+1,v8=>((decide (v8<(r4.length:Int)))=true→∃e16:SBranch,at? r4 v8=some e16∧((((e16.1.length:Int)==0))=true→r_=e16.2)∧((((e16.1.length:Int)==0))=false→(InR .i64 (v8+1))∧zc4.l1 r4 r_ X1 k_0 (v8+1)))∧((decide (v8<(r4.length:Int)))=false→X1)
def zc4 (d_:SDesc) (s_:(List SItem)) (r_:Int):Prop:=∃r4:(List SBranch),zft d_ s_ r4∧∃k9,zc4.l1 r4 r_ (zc4.j1 r_) k9 0
def zb0.j1 (r_:(List Cl)) (out5:(List Cl)):Prop:=r_=out5
def zb0.l1 (X1:(List Cl)→Prop):Nat→(List Cl)→Int→Prop
 | 0,_,_=>False
 | k_0+1,out9,v11=>((decide (v11<256))=true→∃r19:Cl,zdt (v11 % 256) (v11 % 256) r19∧(out9.length+[r19].length≤2147483648)∧(InR .i64 (v11+1))∧zb0.l1 X1 k_0 (out9++[r19]) (v11+1))∧((decide (v11<256))=false→X1 out9)
def zb0  (r_:(List Cl)):Prop:=∃k12,zb0.l1 (zb0.j1 r_) k12 ([]:(List Cl)) 0
def zbl.j1 (r_:(List Cl)) (out7:(List Cl)):Prop:=r_=out7
def zbl.l1 (d_:SDesc) (r5:(List SBranch)) (X1:(List Cl)→Prop):Nat→(List Cl)→Int→Prop
 | 0,_,_=>False
 | k_0+1,out11,v13=>((decide (v13<(r5.length:Int)))=true→∃e21:SBranch,at? r5 v13=some e21∧((((e21.1.length:Int)==0))=true→(InR .i64 (v13+1))∧zbl.l1 d_ r5 X1 k_0 out11 (v13+1))∧((((e21.1.length:Int)==0))=false→∃e29:SItem,at? e21.1 0=some e29∧∃e35:SNode,at? d_ e29.2.1=some e35∧(((e29.1==3))=true→∃c41:Int,zen e35.2.2.2.2.2.2 e29.2.2.1=some c41∧∃c43:Int,zen e35.2.2.2.2.2.2 e29.2.2.1=some c43∧∃r45:Cl,zdt c41 c43 r45∧(out11.length+[r45].length≤2147483648)∧(InR .i64 (v13+1))∧zbl.l1 d_ r5 X1 k_0 (out11++[r45]) (v13+1))∧(((e29.1==3))=false→(((e35.1==2))=true→(out11.length+[e35.2.2.2.2.2.1].length≤2147483648)∧(InR .i64 (v13+1))∧zbl.l1 d_ r5 X1 k_0 (out11++[e35.2.2.2.2.2.1]) (v13+1))∧(((e35.1==2))=false→∃r54:(List Cl),zb0  r54∧(out11.length+r54.length≤2147483648)∧(InR .i64 (v13+1))∧zbl.l1 d_ r5 X1 k_0 (out11++r54) (v13+1)))))∧((decide (v13<(r5.length:Int)))=false→X1 out11)
def zbl (d_:SDesc) (s_:(List SItem)) (r_:(List Cl)):Prop:=∃r5:(List SBranch),zft d_ s_ r5∧∃k14,zbl.l1 d_ r5 (zbl.j1 r_) k14 ([]:(List Cl)) 0
def zo7 (d_:SDesc) (s_:(List SItem)) (cv_:Int) (r_:((List SItem) × Bool)):Prop:=((((s_.length:Int)==0))=true→r_=(([]:(List SItem)),false))∧((((s_.length:Int)==0))=false→((0:Int)≤1∧1≤(s_.length:Int))∧∃r7:((List SItem) × Bool),zb5 (s_.drop (1:Int).toNat) r7∧(((!r7.2))=true→r_=(([]:(List SItem)),false))∧(((!r7.2))=false→∃e13:SItem,at? s_ 0=some e13∧∃e17:SNode,at? d_ e13.2.1=some e17∧(((e13.1==3))=true→∃c30:Int,zen e17.2.2.2.2.2.2 e13.2.2.1=some c30∧(((c30 != cv_))=true→r_=(([]:(List SItem)),false))∧(((c30 != cv_))=false→(InR .i64 (e13.2.2.1+1))∧∃b35:Bool,b35=(decide (e13.2.2.1+1<(e17.2.2.2.2.2.2.length:Int)))∧((b35)=true→(InR .i64 (e13.2.2.1+1))∧([(3,e13.2.1,e13.2.2.1+1,0)].length+r7.1.length≤2147483648)∧r_=([(3,e13.2.1,e13.2.2.1+1,0)]++r7.1,true))∧((b35)=false→(([]:(List SItem)).length+r7.1.length≤2147483648)∧r_=(([]:(List SItem))++r7.1,true))))∧(((e13.1==3))=false→(((e13.1==4))=true→(InR .i64 (256*e13.2.2.1))∧(InR .i64 ((256*e13.2.2.1)+cv_))∧([(1,e17.2.1,0,0),(5,0,(256*e13.2.2.1)+cv_,0)].length+r7.1.length≤2147483648)∧r_=([(1,e17.2.1,0,0),(5,0,(256*e13.2.2.1)+cv_,0)]++r7.1,true))∧(((e13.1==4))=false→(((e17.1==8))=true→([(1,e17.2.1,0,0),(5,0,cv_,0)].length+r7.1.length≤2147483648)∧r_=([(1,e17.2.1,0,0),(5,0,cv_,0)]++r7.1,true))∧(((e17.1==8))=false→(((e17.1==9))=true→([(4,e13.2.1,cv_,0)].length+r7.1.length≤2147483648)∧r_=([(4,e13.2.1,cv_,0)]++r7.1,true))∧(((e17.1==9))=false→∃r75:Bool,zfg e17.2.2.2.2.2.1 cv_ r75∧(((!r75))=true→r_=(([]:(List SItem)),false))∧(((!r75))=false→(([]:(List SItem)).length+r7.1.length≤2147483648)∧r_=(([]:(List SItem))++r7.1,true))))))))
def ze3.j1 (r_:(List SBranch)) (out8:(List SBranch)):Prop:=r_=out8
def ze3.l1 (d_:SDesc) (cv_:Int) (r3:(List SBranch)) (X1:(List SBranch)→Prop):Nat→(List SBranch)→Int→Prop
 | 0,_,_=>False
 | k_0+1,out12,i14=>((decide (i14<(r3.length:Int)))=true→∃e22:SBranch,at? r3 i14=some e22∧∃r24:((List SItem) × Bool),zo7 d_ e22.1 cv_ r24∧((r24.2)=true→∃e29:SBranch,at? r3 i14=some e29∧∃r31:(List SBranch),zdr out12 r24.1 e29.2 r31∧(InR .i64 (i14+1))∧ze3.l1 d_ cv_ r3 X1 k_0 r31 (i14+1))∧((r24.2)=false→(InR .i64 (i14+1))∧ze3.l1 d_ cv_ r3 X1 k_0 out12 (i14+1)))∧((decide (i14<(r3.length:Int)))=false→X1 out12)
def ze3 (d_:SDesc) (s_:(List SItem)) (cv_:Int) (r_:(List SBranch)):Prop:=∃r3:(List SBranch),zhw d_ s_ r3∧∃k15,ze3.l1 d_ cv_ r3 (ze3.j1 r_) k15 ([]:(List SBranch)) 0
def zer.j1 (r_:Int):Prop:=r_=0
def zer.l1 (r3:(List SBranch)) (r_:Int) (X1:Prop):Nat→Int→Prop
 | 0,_=>False
 | k_0+1,i9=>((decide (i9<(r3.length:Int)))=true→∃e17:SBranch,at? r3 i9=some e17∧((((e17.1.length:Int)==0))=true→∃e20:SBranch,at? r3 i9=some e20∧r_=e20.2)∧((((e17.1.length:Int)==0))=false→(InR .i64 (i9+1))∧zer.l1 r3 r_ X1 k_0 (i9+1)))∧((decide (i9<(r3.length:Int)))=false→X1)
def zer (d_:SDesc) (s_:(List SItem)) (r_:Int):Prop:=∃r3:(List SBranch),zhw d_ s_ r3∧∃k10,zer.l1 r3 r_ (zer.j1 r_) k10 0
def zbh.j1 (r_:(List Cl)) (out8:(List Cl)):Prop:=r_=out8
def zbh.j2 (L1_:(List Cl)→Int→Prop) (i14:Int) (out54:(List Cl)):Prop:=(InR .i64 (i14+1))∧L1_ out54 (i14+1)
def zbh.l2 (X2:(List Cl)→Prop):Nat→(List Cl)→Int→Prop
 | 0,_,_=>False
 | k_0+1,out58,c60=>((decide (c60<256))=true→∃r67:Cl,zc3 (c60 % 256) (c60 % 256) r67∧(out58.length+[r67].length≤2147483648)∧(InR .i64 (c60+1))∧zbh.l2 X2 k_0 (out58++[r67]) (c60+1))∧((decide (c60<256))=false→X2 out58)
def zbh.l1 (d_:SDesc) (r3:(List SBranch)) (X1:(List Cl)→Prop):Nat→(List Cl)→Int→Prop
 | 0,_,_=>False
 | k_0+1,out12,i14=>((decide (i14<(r3.length:Int)))=true→∃e23:SBranch,at? r3 i14=some e23∧((((e23.1.length:Int)==0))=true→(InR .i64 (i14+1))∧zbh.l1 d_ r3 X1 k_0 out12 (i14+1))∧((((e23.1.length:Int)==0))=false→∃e27:SBranch,at? r3 i14=some e27∧∃e29:SItem,at? e27.1 0=some e29∧∃e34:SNode,at? d_ e29.2.1=some e34∧(((e29.1==3))=true→∃c40:Int,zen e34.2.2.2.2.2.2 e29.2.2.1=some c40∧∃c42:Int,zen e34.2.2.2.2.2.2 e29.2.2.1=some c42∧∃r44:Cl,zc3 c40 c42 r44∧(out12.length+[r44].length≤2147483648)∧(InR .i64 (i14+1))∧zbh.l1 d_ r3 X1 k_0 (out12++[r44]) (i14+1))∧(((e29.1==3))=false→((((e29.1==1)&&(e34.1==2)))=true→(out12.length+[e34.2.2.2.2.2.1].length≤2147483648)∧(InR .i64 (i14+1))∧zbh.l1 d_ r3 X1 k_0 (out12++[e34.2.2.2.2.2.1]) (i14+1))∧((((e29.1==1)&&(e34.1==2)))=false→∃k61,zbh.l2 (zbh.j2 (zbh.l1 d_ r3 X1 k_0) i14) k61 out12 0))))∧((decide (i14<(r3.length:Int)))=false→X1 out12)
def zbh (d_:SDesc) (s_:(List SItem)) (r_:(List Cl)):Prop:=∃r3:(List SBranch),zhw d_ s_ r3∧∃k15,zbh.l1 d_ r3 (zbh.j1 r_) k15 ([]:(List Cl)) 0
end Go.Proofs.YtahgmdbioafmbaaGreatDoor.V
namespace Go.Proofs.YtahgmdbioafmbaaGreatDoor.VD
open Go Go.Proofs.YtahgmdbioafmbaaGreatDoor.V
set_option linter.unusedVariables false
set_option maxRecDepth 100000
theorem zh8 {x_:Int} {r_:Bool} (h:zeu x_ r_):Fn Tryz.prog 132 [(Pd.rep (En.int .i64) x_)] (Rq (Pd.rep En.bool r_)):=by
 unfold zeu at h;refine zbx Tryz.func132 J Tryz.ntmps132 (by rfl) (by simp) fun s0 a L=>?_;refine wp_seq_k fun K1 H1=>rg (sw 2 (zb o_b J J) L fun a s L=>?_);refine en' (H1 _ _ ?_);refine wp_seq_k fun K2 H2=>rg (sw 3 (zd (O 0 J) J J) L fun a s L=>?_);refine sw 4 (zd (O 0 J) J J) L fun a s L=>sw 5 (zl1 (O 3 J) (O 4 J) J J) L fun a s L=>sw 2 (zb (O 5 J) J J) L fun a s L=>en' (H2 _ _ ?_);subst h;exact wp_ret (zdu J L J)
theorem zds {x_:Int} {y_:Int} {r_:Int} (h:zc5 x_ y_ r_):Fn Tryz.prog 96 [(Pd.rep (En.int .i64) x_),(Pd.rep (En.int .i64) y_)] (Rq (Pd.rep (En.int .i64) r_)):=by
 unfold zc5 at h;refine zbx Tryz.func96 J Tryz.ntmps96 (by rfl) (by simp) fun s0 a L=>?_;refine wp_seq_k fun K1 H1=>rg (sw 4 (zb oI J J) L fun a s L=>?_);refine en' (H1 _ _ ?_);refine wp_seq_k fun K2 H2=>?_;obtain ⟨r3,h4,h⟩:=h;refine rg (sw 7 (zd (O 0 J) J J) L fun a s L=>?_);refine sw 8 (zy (zh8 h4) (xs:=[.tmp 7]) (.cons (O 7 J) .nil) J J) L fun a s L=>sw 5 (zb (O 8 J) J J) L fun a s L=>en' (H2 _ _ ?_);refine wp_seq_k fun K5 H5=>?_;obtain ⟨r6,h7,h⟩:=h;refine rg (sw 9 (zd (O 1 J) J J) L fun a s L=>?_);refine sw 10 (zy (zh8 h7) (xs:=[.tmp 9]) (.cons (O 9 J) .nil) J J) L fun a s L=>sw 6 (zb (O 10 J) J J) L fun a s L=>en' (H5 _ _ ?_);refine wp_seq_k fun K8 H8=>wp_seq_k fun K9 H9=>rg (sw 11 (zd (O 5 J) J J) L fun a s L=>?_);refine en' (H9 _ _ ?_);refine cnd L J (fun hb_=>?_) (fun hb_=>?_)
 ·replace h:=h.1 hb_;refine wp_seq_k fun K10 H10=>wp_seq_k fun K11 H11=>rg (sw 12 (zd (O 6 J) J J) L fun a s L=>?_);refine en' (H11 _ _ ?_);refine cnd L J (fun hb_=>?_) (fun hb_=>?_)
  ·replace h:=h.1 hb_;refine wp_seq_k fun K12 H12=>rg (sw 4 (zb oI J J) L fun a s L=>?_);refine en' (H12 _ _ ?_);subst h;exact wp_ret (zdu J L J)
  ·replace h:=h.2 hb_;refine wp_skip ?_;show K10 a s.w;refine H10 _ _ (wp_seq_k fun K13 H13=>?_);refine rg (sw 4 (zb oI J J) L fun a s L=>?_);refine en' (H13 _ _ ?_);subst h;exact wp_ret (zdu J L J)
 ·replace h:=h.2 hb_;refine wp_skip ?_;show K8 a s.w;refine H8 _ _ (wp_seq_k fun K14 H14=>?_);refine wp_seq_k fun K15 H15=>rg (sw 13 (zd (O 6 J) J J) L fun a s L=>?_);refine en' (H15 _ _ ?_);refine cnd L J (fun hb_=>?_) (fun hb_=>?_)
  ·replace h:=h.1 hb_;refine wp_seq_k fun K16 H16=>rg (sw 4 (zb oI J J) L fun a s L=>?_);refine en' (H16 _ _ ?_);subst h;exact wp_ret (zdu J L J)
  ·replace h:=h.2 hb_;refine wp_skip ?_;show K14 a s.w;refine H14 _ _ (wp_seq_k fun K17 H17=>?_);refine wp_seq_k fun K18 H18=>rg (sw 14 (zd (O 0 J) J J) L fun a s L=>?_);refine sw 15 (zd (O 1 J) J J) L fun a s L=>sw 16 (zbz (O 14 J) (O 15 J) J J) L fun a s L=>en' (H18 _ _ ?_);refine cnd L J (fun hb_=>?_) (fun hb_=>?_)
   ·replace h:=h.1 hb_;refine wp_seq_k fun K19 H19=>rg (sw 4 (zb oI J J) L fun a s L=>?_);refine en' (H19 _ _ ?_);subst h;exact wp_ret (zdu J L J)
   ·replace h:=h.2 hb_;refine wp_skip ?_;show K17 a s.w;refine H17 _ _ (wp_seq_k fun K20 H20=>?_);refine wp_seq_k fun K21 H21=>rg (sw 17 (zd (O 0 J) J J) L fun a s L=>?_);refine sw 18 (zd (O 1 J) J J) L fun a s L=>sw 19 (zhd (O 17 J) (O 18 J) J J) L fun a s L=>en' (H21 _ _ ?_);refine cnd L J (fun hb_=>?_) (fun hb_=>?_)
    ·replace h:=h.1 hb_;refine wp_seq_k fun K22 H22=>rg (sw 4 (zb oI J J) L fun a s L=>?_);refine en' (H22 _ _ ?_);subst h;exact wp_ret (zdu J L J)
    ·replace h:=h.2 hb_;refine wp_skip ?_;show K20 a s.w;refine H20 _ _ (wp_seq_k fun K23 H23=>?_);refine rg (sw 4 (zb oI J J) L fun a s L=>?_);refine en' (H23 _ _ ?_);subst h;exact wp_ret (zdu J L J)
theorem zcv {s1_:(List SItem)} {s2_:(List SItem)} {cmp_:(SItem × SItem × Int→Prop)} {r_:Int} (h:zi s1_ s2_ cmp_ r_):Fn Tryz.prog 97 [(Pd.rep (En.slice En.SItem) s1_),(Pd.rep (En.slice En.SItem) s2_),(Pd.rep EnF137 cmp_)] (Rq (Pd.rep (En.int .i64) r_)):=by
 unfold zi at h;refine zbx Tryz.func97 J Tryz.ntmps97 (by rfl) (by simp) fun s0 a L=>?_;refine wp_seq_k fun K1 H1=>rg (sw 6 (zb oI J J) L fun a s L=>?_);refine en' (H1 _ _ ?_);refine wp_seq_k fun K2 H2=>wp_seq_k fun K3 H3=>rg (sw 11 (zd (O 0 J) J J) L fun a s L=>?_);refine sw 12 (zc8 (O 11 J) U47 J J) L fun a s L=>sw 13 (zd oI J J) L fun a s L=>en' (H3 _ _ ?_);refine wp_block ?_;have J4:∀(a:Act) (s:St),Has N0 39 s0 a s [(0,(Pd.rep (En.slice En.SItem) s1_)),(1,(Pd.rep (En.slice En.SItem) s2_))]→((zi.j1 s1_ s2_ r_))→K2 a s.w:=by
  intro a s L h;unfold zi.j1 at h;show K2 a s.w;refine H2 _ _ (wp_seq_k fun K5 H5=>?_);refine wp_seq_k fun K6 H6=>rg (sw 34 (zd (O 0 J) J J) L fun a s L=>?_);refine sw 35 (zc8 (O 34 J) U47 J J) L fun a s L=>sw 36 (zd (O 1 J) J J) L fun a s L=>sw 37 (zc8 (O 36 J) U47 J J) L fun a s L=>sw 38 (zbz (O 35 J) (O 37 J) J J) L fun a s L=>en' (H6 _ _ ?_);refine cnd L J (fun hb_=>?_) (fun hb_=>?_)
  ·replace h:=h.1 hb_;refine wp_seq_k fun K7 H7=>rg (sw 6 (zb oI J J) L fun a s L=>?_);refine en' (H7 _ _ ?_);subst h;exact wp_ret (zdu J L J)
  ·replace h:=h.2 hb_;refine wp_skip ?_;show K5 a s.w;refine H5 _ _ (wp_seq_k fun K8 H8=>?_);refine rg (sw 6 (zb oI J J) L fun a s L=>?_);refine en' (H8 _ _ ?_);subst h;exact wp_ret (zdu J L J)
 obtain ⟨k10,h⟩:=h;refine lpg (fun k11 a s=>∃(v9:Int),Has N0 39 s0 a s [(0,(Pd.rep (En.slice En.SItem) s1_)),(1,(Pd.rep (En.slice En.SItem) s2_)),(2,(Pd.rep EnF137 cmp_)),(11,(Pd.rep (En.slice En.SItem) s1_)),(12,(Pd.rep (En.int .i64) (s1_.length:Int))),(13,(Pd.rep (En.int .i64) v9))]∧zi.l1 s1_ s2_ cmp_ r_ (zi.j1 s1_ s2_ r_) k11 v9) k10 ⟨0,L.keep (.k 0 (.k 1 (.k 2 (.k 11 (.k 12 (.k 13 .nil)))))),h⟩ ?_;rintro k11 a s ⟨v9,L,h⟩ KL12 hKL12;cases k11 with
 | zero=>exact h.elim
 | succ k11=>
 unfold zi.l1 at h;refine wp_seq_k fun K13 H13=>rg (sw 14 (zbz (O 13 J) (O 12 J) J J) L fun a s L=>?_);refine en' (H13 _ _ ?_);refine wp_seq_k fun K14 H14=>cnd L J (fun hb_=>?_) (fun hb_=>?_)
 ·replace h:=h.1 hb_;refine wp_skip ?_;show K14 a s.w;refine H14 _ _ (wp_seq_k fun K15 H15=>?_);refine wp_block (wp_seq_k fun K16 H16=>?_);obtain ⟨e17,h18,h⟩:=h;refine rg (sw 15 (zd (O 13 J) J J) L fun a s L=>?_);refine sw 16 (zde (O 11 J) (O 13 J) h18 U47 zfk J J) L fun a s L=>sw 17 (zt zfk (O 16 J) J J) L fun a s L=>zbf En.SItem (z:=(0,0,0,0)) 8 L zic J J J J fun a s g19 hg_ L=>?_;refine sw 7 (zb (O 15 J) J J) L fun a s L=>zby (L':=[(0,(Pd.rep (En.slice En.SItem) s1_)),(1,(Pd.rep (En.slice En.SItem) s2_)),(2,(Pd.rep EnF137 cmp_)),(7,(Pd.rep (En.int .i64) v9)),(11,(Pd.rep (En.slice En.SItem) s1_)),(12,(Pd.rep (En.int .i64) (s1_.length:Int))),(13,(Pd.rep (En.int .i64) v9))]) 8 L J (O 17 J) zfk J J J (.k 0 (.k 1 (.k 2 (.k 7 (.k 11 (.k 12 (.k 13 .nil))))))) fun s L=>?_;refine en' (H16 _ _ ?_);refine wp_seq_k fun K20 H20=>wp_seq_k fun K21 H21=>rg (sw 18 (zd (O 7 J) J J) L fun a s L=>?_);refine sw 19 (zd (O 1 J) J J) L fun a s L=>sw 20 (zc8 (O 19 J) U47 J J) L fun a s L=>sw 21 (zj5 (O 18 J) (O 20 J) J J) L fun a s L=>en' (H21 _ _ ?_);refine cnd L J (fun hb_=>?_) (fun hb_=>?_)
  ·replace h:=h.1 hb_;refine wp_seq_k fun K22 H22=>rg (sw 6 (zb oI J J) L fun a s L=>?_);refine en' (H22 _ _ ?_);subst h;exact wp_ret (zdu J L J)
  ·replace h:=h.2 hb_;refine wp_skip ?_;show K20 a s.w;refine H20 _ _ (wp_seq_k fun K23 H23=>?_);obtain ⟨e24,h25,h⟩:=h;refine rg (sw 22 (zd (O 1 J) J J) L fun a s L=>?_);refine sw 23 (zd (O 7 J) J J) L fun a s L=>sw 24 (zde (O 22 J) (O 23 J) h25 U47 zfk J J) L fun a s L=>sw 25 (zt zfk (O 24 J) J J) L fun a s L=>?_;have lt_d27:=L.blt 8 rfl;refine zbf En.SItem (z:=(0,0,0,0)) 9 L zic J J J J fun a s g26 hg_ L=>?_;have d27:Dis (some g26) (some g19):=Dis.newg hg_ lt_d27;refine zby (L':=[(0,(Pd.rep (En.slice En.SItem) s1_)),(1,(Pd.rep (En.slice En.SItem) s2_)),(2,(Pd.rep EnF137 cmp_)),(8,(Pd.box En.SItem s0.w.heap.size g19 e17)),(11,(Pd.rep (En.slice En.SItem) s1_)),(12,(Pd.rep (En.int .i64) (s1_.length:Int))),(13,(Pd.rep (En.int .i64) v9))]) 9 L J (O 25 J) zfk J J J (.k 0 (.k 1 (.k 2 (.cons (t:=8) J (Dis.bx (Dis.symm d27)) (.k 11 (.k 12 (.k 13 .nil))))))) fun s L=>?_;refine en' (H23 _ _ ?_);refine wp_seq_k fun K28 H28=>?_;obtain ⟨r29,h30,h⟩:=h;refine rg (sw 26 (zd (O 2 J) J J) L fun a s L=>?_);refine sw 27 (zbr zfk (O 8 J) J J) L fun a s L=>sw 28 (zbr zfk (O 9 J) J J) L fun a s L=>sw 29 (zfo (q:=(e17,e24,r29)) (O 26 J) h30 (xs:=[.tmp 27,.tmp 28]) (.cons (O 27 J) (.cons (O 28 J) .nil)) (fun _ _ _ h_=>h_) J J) L fun a s L=>sw 10 (zb (O 29 J) J J) L fun a s L=>en' (H28 _ _ ?_);refine wp_seq_k fun K31 H31=>rg (sw 30 (zd (O 10 J) J J) L fun a s L=>?_);refine sw 31 (zl1 (O 30 J) oI J J) L fun a s L=>en' (H31 _ _ ?_);refine cnd L J (fun hb_=>?_) (fun hb_=>?_)
   ·replace h:=h.1 hb_;refine wp_seq_k fun K32 H32=>rg (sw 32 (zd (O 10 J) J J) L fun a s L=>?_);refine sw 6 (zb (O 32 J) J J) L fun a s L=>en' (H32 _ _ ?_);subst h;exact wp_ret (zdu J L J)
   ·replace h:=h.2 hb_;refine wp_skip ?_;show K15 a s.w;refine H15 _ _ ?_;obtain ⟨h33,h⟩:=h;refine rg (sw 33 (zbk (O 13 J) oI h33 J J) L fun a s L=>?_);refine sw 13 (zd (O 33 J) J J) L fun a s L=>en' ?_;exact hKL12 k11 a s (Nat.lt_succ_self _) ⟨(v9+1),L.keep (.k 0 (.k 1 (.k 2 (.k 11 (.k 12 (.k 13 .nil)))))),h⟩
 ·replace h:=h.2 hb_;refine wp_exit ?_;exact J4 a s (L.keep (.k 0 (.k 1 .nil))) h
theorem zq2 {vals_:(List Int)} {r_:Int} (h:zcx vals_ r_):Fn Tryz.prog 99 [(Pd.rep (En.slice (En.int .i64)) vals_)] (Rq (Pd.rep (En.int .i64) r_)):=by
 unfold zcx at h;refine zbx Tryz.func99 J Tryz.ntmps99 (by rfl) (by simp) fun s0 a L=>?_;refine wp_seq_k fun K1 H1=>rg (sw 2 (zb oI J J) L fun a s L=>?_);refine en' (H1 _ _ ?_);refine wp_seq_k fun K2 H2=>rg (sw 3 (zb oI J J) L fun a s L=>?_);refine en' (H2 _ _ ?_);refine wp_seq_k fun K3 H3=>wp_seq_k fun K4 H4=>rg (sw 6 (zd (O 0 J) J J) L fun a s L=>?_);refine sw 7 (zc8 (O 6 J) U91 J J) L fun a s L=>sw 8 (zd oI J J) L fun a s L=>en' (H4 _ _ ?_);refine wp_block ?_;have J5:∀(a:Act) (s:St),Has N0 18 s0 a s [(3,(Pd.rep (En.int .i64) 0))]→((zcx.j1 r_))→K3 a s.w:=by
  intro a s L h;unfold zcx.j1 at h;show K3 a s.w;refine H3 _ _ (wp_seq_k fun K6 H6=>?_);refine rg (sw 17 (zd (O 3 J) J J) L fun a s L=>?_);refine sw 2 (zb (O 17 J) J J) L fun a s L=>en' (H6 _ _ ?_);subst h;exact wp_ret (zdu J L J)
 obtain ⟨k8,h⟩:=h;refine lpg (fun k9 a s=>∃(v7:Int),Has N0 18 s0 a s [(3,(Pd.rep (En.int .i64) 0)),(6,(Pd.rep (En.slice (En.int .i64)) vals_)),(7,(Pd.rep (En.int .i64) (vals_.length:Int))),(8,(Pd.rep (En.int .i64) v7))]∧zcx.l1 vals_ r_ (zcx.j1 r_) k9 v7) k8 ⟨0,L.keep (.k 3 (.k 6 (.k 7 (.k 8 .nil)))),h⟩ ?_;rintro k9 a s ⟨v7,L,h⟩ KL10 hKL10;cases k9 with
 | zero=>exact h.elim
 | succ k9=>
 unfold zcx.l1 at h;refine wp_seq_k fun K11 H11=>rg (sw 9 (zbz (O 8 J) (O 7 J) J J) L fun a s L=>?_);refine en' (H11 _ _ ?_);refine wp_seq_k fun K12 H12=>cnd L J (fun hb_=>?_) (fun hb_=>?_)
 ·replace h:=h.1 hb_;refine wp_skip ?_;show K12 a s.w;refine H12 _ _ (wp_seq_k fun K13 H13=>?_);refine wp_block (wp_seq_k fun K14 H14=>?_);obtain ⟨e15,h16,h⟩:=h;refine rg (sw 10 (zde (O 6 J) (O 8 J) h16 U91 ty3 J J) L fun a s L=>?_);refine sw 11 (zt ty3 (O 10 J) J J) L fun a s L=>sw 5 (zb (O 11 J) J J) L fun a s L=>en' (H14 _ _ ?_);refine wp_seq_k fun K17 H17=>rg (sw 12 (zd (O 5 J) J J) L fun a s L=>?_);refine sw 13 (zd (O 3 J) J J) L fun a s L=>sw 14 (zl1 (O 12 J) (O 13 J) J J) L fun a s L=>en' (H17 _ _ ?_);refine cnd L J (fun hb_=>?_) (fun hb_=>?_)
  ·replace h:=h.1 hb_;refine wp_seq_k fun K18 H18=>rg (sw 15 (zd (O 5 J) J J) L fun a s L=>?_);refine sw 2 (zb (O 15 J) J J) L fun a s L=>en' (H18 _ _ ?_);subst h;exact wp_ret (zdu J L J)
  ·replace h:=h.2 hb_;refine wp_skip ?_;show K13 a s.w;refine H13 _ _ ?_;obtain ⟨h19,h⟩:=h;refine rg (sw 16 (zbk (O 8 J) oI h19 J J) L fun a s L=>?_);refine sw 8 (zd (O 16 J) J J) L fun a s L=>en' ?_;exact hKL10 k9 a s (Nat.lt_succ_self _) ⟨(v7+1),L.keep (.k 3 (.k 6 (.k 7 (.k 8 .nil)))),h⟩
 ·replace h:=h.2 hb_;refine wp_exit ?_;exact J5 a s (L.keep (.k 3 .nil)) h
theorem zlg {x_:SItem} {y_:SItem} {r_:Int} (h:zdv x_ y_ r_):Fn Tryz.prog 98 [(Pd.rep En.SItem x_),(Pd.rep En.SItem y_)] (Rq (Pd.rep (En.int .i64) r_)):=by
 unfold zdv at h;refine zbx Tryz.func98 J Tryz.ntmps98 (by rfl) (by simp) fun s0 a L=>?_;refine wp_seq_k fun K1 H1=>rg (sw 2 (zcu (O 0 J) J J) L fun a s L=>?_);refine sw 3 (zcu (O 1 J) J J) L fun a s L=>sw 4 (zb oI J J) L fun a s L=>en' (H1 _ _ ?_);refine wp_seq_k fun K2 H2=>?_;obtain ⟨r3,h4,r5,h6,r7,h8,r9,h10,r11,h12,h⟩:=h;refine rda zcm 22 [(Pd.ptr (En.int .i64) x_.1),(Pd.rep (En.int .i64) x_.1),(Pd.ptr (En.int .i64) y_.1),(Pd.rep (En.int .i64) y_.1),(Pd.rep (En.int .i64) r3),(Pd.ptr (En.int .i64) x_.2.1),(Pd.rep (En.int .i64) x_.2.1),(Pd.ptr (En.int .i64) y_.2.1),(Pd.rep (En.int .i64) y_.2.1),(Pd.rep (En.int .i64) r5),(Pd.ptr (En.int .i64) x_.2.2.1),(Pd.rep (En.int .i64) x_.2.2.1),(Pd.ptr (En.int .i64) y_.2.2.1),(Pd.rep (En.int .i64) y_.2.2.1),(Pd.rep (En.int .i64) r7),(Pd.ptr (En.int .i64) x_.2.2.2),(Pd.rep (En.int .i64) x_.2.2.2),(Pd.ptr (En.int .i64) y_.2.2.2),(Pd.rep (En.int .i64) y_.2.2.2),(Pd.rep (En.int .i64) r9),(Pd.rep (En.slice (En.int .i64)) [r3,r5,r7,r9]),(Pd.rep (En.int .i64) r11)] L (by kernel_rfl) J J ?_ ?_
 ·refine z8.cons (zc0 (off:=0) (O 2 J) U77 J (zm (zh _ _)) J ty3 J J) ?_;refine z8.cons (zt ty3 (O 5 J) J J) (z8.cons (zc0 (off:=0) (O 3 J) U77 J (zm (zh _ _)) J ty3 J J) ?_);refine z8.cons (zt ty3 (O 7 J) J J) (z8.cons (zy (zds h4) (xs:=[.tmp 6,.tmp 8]) (.cons (O 6 J) (.cons (O 8 J) .nil)) J J) ?_);refine z8.cons (zc0 (off:=1) (O 2 J) U77 J (ze (zm (zh _ _)) J) J ty3 J J) (z8.cons (zt ty3 (O 10 J) J J) ?_);refine z8.cons (zc0 (off:=1) (O 3 J) U77 J (ze (zm (zh _ _)) J) J ty3 J J) (z8.cons (zt ty3 (O 12 J) J J) ?_);refine z8.cons (zy (zds h6) (xs:=[.tmp 11,.tmp 13]) (.cons (O 11 J) (.cons (O 13 J) .nil)) J J) (z8.cons (zc0 (off:=2) (O 2 J) U77 J (ze (ze (zm (zh _ _)) J) J) J ty3 J J) ?_);refine z8.cons (zt ty3 (O 15 J) J J) (z8.cons (zc0 (off:=2) (O 3 J) U77 J (ze (ze (zm (zh _ _)) J) J) J ty3 J J) ?_);refine z8.cons (zt ty3 (O 17 J) J J) (z8.cons (zy (zds h8) (xs:=[.tmp 16,.tmp 18]) (.cons (O 16 J) (.cons (O 18 J) .nil)) J J) ?_);refine z8.cons (zc0 (off:=3) (O 2 J) U77 J (ze (ze (ze (zh _ _) J) J) J) J ty3 J J) (z8.cons (zt ty3 (O 20 J) J J) ?_);refine z8.cons (zc0 (off:=3) (O 3 J) U77 J (ze (ze (ze (zh _ _) J) J) J) J ty3 J J) (z8.cons (zt ty3 (O 22 J) J J) ?_);refine z8.cons (zy (zds h10) (xs:=[.tmp 21,.tmp 23]) (.cons (O 21 J) (.cons (O 23 J) .nil)) J J) (z8.cons (zec (xs:=[.tmp 9,.tmp 14,.tmp 19,.tmp 24]) (.cons (O 9 J) (.cons (O 14 J) (.cons (O 19 J) (.cons (O 24 J) .nil)))) U91 ty3 J J (by decide) J J) ?_);refine z8.cons (zy (zq2 h12) (xs:=[.tmp 25]) (.cons (O 25 J) .nil) J J) ?_
  exact z8.nil
 intro a s _ L;refine sw 4 (zb (O 26 J) J J) L fun a s L=>en' (H2 _ _ ?_);subst h;exact wp_ret (zdu J L J)
theorem zio {a_:(List SItem)} {b_:(List SItem)} {r_:Int} (h:zf1 a_ b_ r_):Fn Tryz.prog 58 [(Pd.rep (En.slice En.SItem) a_),(Pd.rep (En.slice En.SItem) b_)] (Rq (Pd.rep (En.int .i64) r_)):=by
 unfold zf1 at h;refine zbx Tryz.func58 J Tryz.ntmps58 (by rfl) (by simp) fun s0 a L=>?_;refine wp_seq_k fun K1 H1=>rg (sw 4 (zb oI J J) L fun a s L=>?_);refine en' (H1 _ _ ?_);refine wp_seq_k fun K2 H2=>wp_seq_k fun K3 H3=>?_;obtain ⟨r4,h5,h⟩:=h;refine rg (sw 6 (zd (O 0 J) J J) L fun a s L=>?_);refine sw 7 (zc8 (O 6 J) U47 J J) L fun a s L=>sw 8 (zd (O 1 J) J J) L fun a s L=>sw 9 (zc8 (O 8 J) U47 J J) L fun a s L=>sw 10 (zy (zds h5) (xs:=[.tmp 7,.tmp 9]) (.cons (O 7 J) (.cons (O 9 J) .nil)) J J) L fun a s L=>sw 5 (zb (O 10 J) J J) L fun a s L=>en' (H3 _ _ ?_);refine wp_seq_k fun K6 H6=>rg (sw 11 (zd (O 5 J) J J) L fun a s L=>?_);refine sw 12 (zl1 (O 11 J) oI J J) L fun a s L=>en' (H6 _ _ ?_);refine cnd L J (fun hb_=>?_) (fun hb_=>?_)
 ·replace h:=h.1 hb_;refine wp_seq_k fun K7 H7=>rg (sw 13 (zd (O 5 J) J J) L fun a s L=>?_);refine sw 4 (zb (O 13 J) J J) L fun a s L=>en' (H7 _ _ ?_);subst h;exact wp_ret (zdu J L J)
 ·replace h:=h.2 hb_;refine wp_skip ?_;show K2 a s.w;refine H2 _ _ (wp_seq_k fun K8 H8=>?_);obtain ⟨r9,h10,h⟩:=h;refine rg (sw 14 (zd (O 0 J) J J) L fun a s L=>?_);refine sw 15 (zd (O 1 J) J J) L fun a s L=>sw 16 (zy (zcv h10) (xs:=[.tmp 14,.tmp 15,.func 98]) (.cons (O 14 J) (.cons (O 15 J) (.cons (o_q (Pd.rep EnF137 (fun q_=>zdv q_.1 q_.2.1 q_.2.2)) (o_fun (ze6 Tryz.func98 J (by rfl)) (fun q_ h_=>zlg h_))) .nil))) J J) L fun a s L=>sw 4 (zb (O 16 J) J J) L fun a s L=>en' (H8 _ _ ?_);subst h;exact wp_ret (zdu J L J)
theorem heads_Heads_1_ok {a_:SBranch} {b_:SBranch} {r_:Int} (h:zkr a_ b_ r_):Fn Tryz.prog 117 [(Pd.rep En.SBranch a_),(Pd.rep En.SBranch b_)] (Rq (Pd.rep (En.int .i64) r_)):=by
 unfold zkr at h;refine zbx Tryz.func117 J Tryz.ntmps117 (by rfl) (by simp) fun s0 a L=>?_;refine wp_seq_k fun K1 H1=>rg (sw 2 (zcu (O 0 J) J J) L fun a s L=>?_);refine sw 3 (zcu (O 1 J) J J) L fun a s L=>sw 4 (zb oI J J) L fun a s L=>en' (H1 _ _ ?_);refine wp_seq_k fun K2 H2=>?_;obtain ⟨r3,h4,h⟩:=h;refine rg (sw 5 (zc0 (off:=0) (O 2 J) U82 J (zm (zh _ _)) J zfv J J) L fun a s L=>?_);refine sw 6 (zt zfv (O 5 J) J J) L fun a s L=>sw 7 (zc0 (off:=0) (O 3 J) U82 J (zm (zh _ _)) J zfv J J) L fun a s L=>sw 8 (zt zfv (O 7 J) J J) L fun a s L=>sw 9 (zy (zio h4) (xs:=[.tmp 6,.tmp 8]) (.cons (O 6 J) (.cons (O 8 J) .nil)) J J) L fun a s L=>sw 4 (zb (O 9 J) J J) L fun a s L=>en' (H2 _ _ ?_);subst h;exact wp_ret (zdu J L J)
theorem next_On_1_ok {a_:SBranch} {b_:SBranch} {r_:Int} (h:next_On_1 a_ b_ r_):Fn Tryz.prog 92 [(Pd.rep En.SBranch a_),(Pd.rep En.SBranch b_)] (Rq (Pd.rep (En.int .i64) r_)):=by
 unfold next_On_1 at h;refine zbx Tryz.func92 J Tryz.ntmps92 (by rfl) (by simp) fun s0 a L=>?_;refine wp_seq_k fun K1 H1=>rg (sw 2 (zcu (O 0 J) J J) L fun a s L=>?_);refine sw 3 (zcu (O 1 J) J J) L fun a s L=>sw 4 (zb oI J J) L fun a s L=>en' (H1 _ _ ?_);refine wp_seq_k fun K2 H2=>?_;obtain ⟨r3,h4,h⟩:=h;refine rg (sw 5 (zc0 (off:=0) (O 2 J) U82 J (zm (zh _ _)) J zfv J J) L fun a s L=>?_);refine sw 6 (zt zfv (O 5 J) J J) L fun a s L=>sw 7 (zc0 (off:=0) (O 3 J) U82 J (zm (zh _ _)) J zfv J J) L fun a s L=>sw 8 (zt zfv (O 7 J) J J) L fun a s L=>sw 9 (zy (zio h4) (xs:=[.tmp 6,.tmp 8]) (.cons (O 6 J) (.cons (O 8 J) .nil)) J J) L fun a s L=>sw 4 (zb (O 9 J) J J) L fun a s L=>en' (H2 _ _ ?_);subst h;exact wp_ret (zdu J L J)
end Go.Proofs.YtahgmdbioafmbaaGreatDoor.VD
namespace Go.Proofs.YtahgmdbioafmbaaGreatDoor.V
open Go Go.Shelf Go.Sort
set_option linter.unusedVariables false
theorem cmpS_le {x y z:List SItem} (h1:ze1 x y≤0) (h2:ze1 y z≤0):ze1 x z≤0:=by
 rcases Int.lt_or_le (ze1 x y) 0 with a | a
 ·rcases Int.lt_or_le (ze1 y z) 0 with b | b
  ·have:=zge a b;omega
  ·have e:ze1 y z=0:=by omega
   rw [← zem.1 e];exact h1
 ·have e:ze1 x y=0:=by omega
  rw [zem.1 e];exact h2
theorem swo_branch:SWO (Go.Proofs.ltOf fun x y:SBranch=>ze1 x.1 y.1):=swo_cmp (fun x=>zis _) (fun x y=>zf3 _ _) fun x y z h1 h2=>cmpS_le h1 h2
theorem srtB_uniq {x y:List SBranch} (hn:(x.map (·.1)).Nodup) (hp:y.Perm x) (hs:y.Pairwise (fun a b=>¬ ze1 b.1 a.1<0)):y=srtB x:=by
 have hny:(y.map (·.1)).Nodup:=(hp.map (·.1)).nodup_iff.2 hn;refine zj9 ?_ (zl9 hn) fun b=>by rw [hp.mem_iff,(zgg x).mem_iff]
 have h2:y.Pairwise (fun a b=>a.1≠b.1):=List.pairwise_map.1 hny;refine (hs.and h2).imp fun {a b} h=>?_;have h3:=zf3 b.1 a.1;have h4:ze1 a.1 b.1≠0:=fun e=>h.2 (zem.1 e);omega
theorem fm_branch {g:FuncId} (eg:∀(args:Array Value) (w:World),(callFunc g args).run Tryz.prog w = .ok (.enter g args) w) {x r:List SBranch} (hn:(x.map (·.1)).Nodup) (hl:x.length≤2147483648) (hr:r=srtB x)
  (hc:∀a∈x,∀b∈x,VD.Fn Tryz.prog g [VD.Pd.rep VD.En.SBranch a,VD.Pd.rep VD.En.SBranch b] (VD.Rq (VD.Pd.rep (VD.En.int .i64) (ze1 a.1 b.1)))) (v0:Value):
  Fm Tryz.prog 91 (fun b=>v0.ownBlock=some b) [Pd.prow En.SBranch 82 v0 x,Pd.is (.func (.func g) #[] #[])] (fun _ s' _=>(Pd.prow En.SBranch 82 v0 r).p s' v0):=by
 have h:=fm_sort slsort (E:=En.SBranch) (E':=VD.En.SBranch) (te:=82) (g:=g) (cf:=fun a b:SBranch=>ze1 a.1 b.1) rfl zmm rfl rfl (fun h=>h) (ze6 Tryz.func91 rfl (by rfl)) eg swo_branch hl hc v0;refine ⟨h.call,fun s vs hg hM hv=>(h.run s vs hg hM hv).mono fun e w' ⟨v,s',he,hw,hfr,ys,hp,hs,hrow⟩=>⟨v,s',he,hw,hfr, ?_⟩⟩;rw [hr,← srtB_uniq hn hp hs];exact hrow
theorem zig (v0:Value) {x r:List SBranch} (h:zgu x r):Fm Tryz.prog 91 (fun b=>v0.ownBlock=some b) [Pd.prow En.SBranch 82 v0 x,Pd.is (.func (.func 117) #[] #[])] (fun _ s' _=>(Pd.prow En.SBranch 82 v0 r).p s' v0):=fm_branch (ze6 Tryz.func117 rfl (by rfl)) h.1 h.2.2.1 h.2.2.2 (fun a ha b hb=>VD.heads_Heads_1_ok ⟨_,zgo (h.2.1 a ha),rfl⟩) v0
theorem o_isf {L:Lst} {f:FuncId}:Opn L (.func f) (Pd.is (.func (.func f) #[] #[])):=fun _ _ _ _ _ _=>rfl
end Go.Proofs.YtahgmdbioafmbaaGreatDoor.V
namespace Go.Proofs.YtahgmdbioafmbaaGreatDoor.V
open Go
set_option linter.unusedVariables false
set_option maxRecDepth 100000
noncomputable abbrev Efmp:En (List (Str × SBranch)):=En.fmap En.str kvStr En.SBranch
noncomputable abbrev Efinder:En (SDesc × Option Nat):=En.cat En.SDesc En.mref
theorem tyzFinder:TyZ Tryz.prog 161 Efinder (([],none):SDesc × Option Nat):=⟨_,_,([.slice none 0 0]++[.map none]),rfl,rfl,by rfl,fun _ _=>⟨[.slice none 0 0],[.map none],rfl,⟨_,rfl,zex _ _ _⟩,rfl⟩⟩
theorem sttFinder:Stt Tryz.prog 161 [(0,1),(1,1)]:=⟨_,Tryz.underlying161,by kernel_rfl⟩
theorem tyMap:Ty Tryz.prog 159 En.mref:=⟨⟨_,_,rfl,rfl,rfl,rfl,by decide⟩,_,rfl,rfl⟩
theorem tyvMap:TyV Tryz.prog 162 Efmp []:=⟨_,[.map none],rfl,by rfl,fun _ _=>⟨_,rfl,.inl ⟨rfl,rfl⟩⟩⟩
theorem tyvBranch:TyV Tryz.prog 82 En.SBranch (([],0):SBranch):=⟨_,[.slice none 0 0]++[.int .i64 0],rfl,by rfl,fun _ _=>⟨_,_,rfl,⟨_,rfl,zex _ _ _⟩,⟨rfl,by decide⟩⟩⟩
def GoodM (d:List SNode) (t:List SItem) (m:List (Str × SBranch)):Prop:=∃h l,lv d h t=some l∧zk0 (fun u=>l.count u) m
def InvS (d:List SNode) (xs:List (Str × List (Str × SBranch))):Prop:=∀k m,(k,m)∈xs→∃t,k=keyS t∧GoodM d t m
theorem InvS.get {d:List SNode} {xs} (h:InvS d xs) {t:List SItem} (hm:zhr xs (keyS t)=true):GoodM d t (zea xs (keyS t) []):=by
 obtain ⟨t',e,hg⟩:=h _ _ (mget_in hm []);have:=zgc.1 e;subst this;exact hg
theorem InvS.put {d:List SNode} {xs} (h:InvS d xs) {t:List SItem} {m} (hg:GoodM d t m):InvS d (zfa xs (keyS t) m):=by
 intro k m' hm;rcases zqi.1 hm with e | ⟨_,hm⟩
 ·cases e;exact ⟨t,rfl,hg⟩
 ·exact h k m' hm
theorem InvS.nil (d:List SNode):InvS d []:=fun k m h=>by cases h
abbrev FndOk (d:List SNode) (g:Nat) (t:List SItem) (xs:List (Str × List (Str × SBranch))):Prop:=
 Fc Tryz.prog 116 En.str kvStr Efmp g xs [Pd.ptr Efinder (d,some g),Pd.rep (En.slice En.SItem) t] (fun i:List (Str × SBranch) × List (Str × List (Str × SBranch))=>GoodM d t i.1∧InvS d i.2) (fun i=>Pd.rep Efmp i.1) (fun i=>i.2)
theorem no_g {og:Option Nat} {g N:Nat} (hg:g<N) (h:∀b,og=some b→N≤b):∀b,og=some b→¬ some g=some b:=fun b hb e=>by cases e;have:=h g hb;omega
theorem no_o {og:Option Nat} {g N:Nat} (hg:g<N) (h:∀b,og=some b→N≤b):∀b,some g=some b→¬ og=some b:=fun b e hb=>by cases e;have:=h g hb;omega
structure Left (c:List SItem→Nat) (rem:List (Str × SBranch)):Prop where
 kn:KN rem
 ent:∀p∈rem,p.1=keyS p.2.1∧c p.2.1≠0∧p.2.2=sat (c p.2.1)
theorem zk0.left {c:List SItem→Nat} {m:List (Str × SBranch)} (h:zk0 c m):Left c m:=⟨h.kn,fun p hp=>(h.mem p.1 p.2).1 hp⟩
theorem Left.perm {c:List SItem→Nat} {l m:List (Str × SBranch)} (h:Left c l) (hp:l.Perm m):Left c m:=⟨h.kn.perm hp,fun p hm=>h.ent p (hp.mem_iff.2 hm)⟩
theorem Left.tail {c:List SItem→Nat} {p:Str × SBranch} {l:List (Str × SBranch)} (h:Left c (p::l)):Left c l∧keyS p.2.1 ∉ l.map (·.1):=by
 have hk:=h.kn;unfold KN at hk;rw [List.map_cons,List.nodup_cons] at hk;exact ⟨⟨hk.2,fun q hq=>h.ent q (by simp [hq])⟩,by rw [← (h.ent p (by simp)).1];exact hk.1⟩
def cnt (f c:List SItem→Nat) (rem:List (Str × SBranch)) (u:List SItem):Nat:=f u+if keyS u∈rem.map (·.1) then 0 else c u
theorem cnt_start {f c:List SItem→Nat} {m rem:List (Str × SBranch)} (h:zk0 c m) (hp:m.Perm rem) (u:List SItem):cnt f c rem u=f u:=by
 unfold cnt
 by_cases hc:c u=0
 ·simp [hc]
 ·rw [if_pos];· rfl
  exact List.mem_map.2 ⟨(keyS u,(u,sat (c u))),hp.mem_iff.1 ((h.mem _ _).2 ⟨rfl,hc,rfl⟩),rfl⟩
theorem cnt_perm {f c:List SItem→Nat} {l m:List (Str × SBranch)} (hp:l.Perm m) (u:List SItem):cnt f c l u=cnt f c m u:=by
 unfold cnt;have h:=(hp.map (·.1)).mem_iff (a:=keyS u)
 by_cases hu:keyS u∈l.map (·.1)
 ·rw [if_pos hu,if_pos (h.1 hu)]
 ·rw [if_neg hu,if_neg (fun k=>hu (h.2 k))]
theorem cnt_nil {f c:List SItem→Nat} (u:List SItem):cnt f c [] u=f u+c u:=by simp [cnt]
theorem cnt_step {f c:List SItem→Nat} {p:Str × SBranch} {l:List (Str × SBranch)} (h:Left c (p::l)) {out:List (Str × SBranch)} (ho:zk0 (cnt f c (p::l)) out):
  zk0 (cnt f c l) (zfa out p.1 (p.2.1,min ((zea out p.1 (([],0):SBranch)).2+p.2.2) 2)):=by
 obtain ⟨h1,h2⟩:=h.tail;obtain ⟨e1,e2,e3⟩:=h.ent p (by simp);rw [e1,e3];refine (ho.put p.2.1 e2).congr fun t=>?_;unfold cnt;simp only [List.map_cons,List.mem_cons,e1,zgc]
 by_cases ht:t=p.2.1
 ·subst ht;rw [if_pos (.inl rfl),if_neg h2,if_pos rfl];rfl
 ·simp only [ht,false_or,if_false,Nat.add_zero]
theorem zmc {α β:Type} {f:α→Option β}:∀{l:List α} {r:List β},l.mapM f=some r→r.length=l.length
 | [],r,h=>by simp at h;subst h;rfl
 | a::l,r,h=>by
  rw [List.mapM_cons] at h;cases ha:f a with
  | none=>rw [ha] at h;simp at h
  | some b=>
   rw [ha] at h;cases hl:l.mapM f with
   | none=>rw [hl] at h;simp at h
   | some bs=>
    rw [hl] at h;have e:b::bs=r:=by simpa using h
    rw [← e];simp [zmc hl]
theorem zqk {α β:Type} {f:α→Option β}:∀{l:List α} {r:List β},l.mapM f=some r→∀{i:Nat} (hi:i<l.length),∃b,f l[i]=some b∧r[i]?=some b
 | [],r,_,i,hi=>by simp at hi
 | a::l,r,h,i,hi=>by
  rw [List.mapM_cons] at h;cases ha:f a with
  | none=>rw [ha] at h;simp at h
  | some b=>
   rw [ha] at h;cases hl:l.mapM f with
   | none=>rw [hl] at h;simp at h
   | some bs=>
    rw [hl] at h;have e:b::bs=r:=by simpa using h
    subst e;cases i with
    | zero=>exact ⟨b,ha,rfl⟩
    | succ i=>
     obtain ⟨b',h1,h2⟩:=zqk hl (i:=i) (by simpa using hi);exact ⟨b',by simpa using h1,by simpa using h2⟩
theorem take_flat {α:Type} {ls:List (List α)} {i:Nat} {l:List α} (h:ls[i]?=some l):(ls.take (i+1)).flatten=(ls.take i).flatten++l:=by
 have hi:=(List.getElem?_eq_some_iff.1 h).1;have e:=(List.getElem?_eq_some_iff.1 h).2;rw [List.take_succ_eq_append_getElem hi,e,List.flatten_append];simp
theorem find_step {d:List SNode} (hd:ROk d) (hk:DOk d) (hl4:d.length≤400) (g:Nat) {h:Nat} (ih:∀(t:List SItem) (l:List (List SItem)),lv d h t=some l→Vs d 400 t→∀xs,InvS d xs→FndOk d g t xs) (hd0:∃n,at? d 0=some n)
  {t:List SItem} {l:List (List SItem)} (hl:lv d (h+1) t=some l) (hv:Vs d 400 t) {xs:List (Str × List (Str × SBranch))} (hxs:InvS d xs):FndOk d g t xs:=by
 have htl:=hv.len;refine fc_of Tryz.func116 rfl Tryz.ntmps116 (by rfl) (by simp) fun s0 a hL=>?_;have hgs:g<s0.w.heap.size:=by
  obtain ⟨hX,_⟩:=hL.get 999902 rfl;exact s0.lt g hX
 refine wp_seq_k fun K0 hK0=>?_;refine rg ?_;refine st 4 (zb (q:=Pd.any) (fun _ _ _ _ _ _=>trivial) rfl rfl) rfl rfl hL fun a s e_ hL=>?_;refine en' ?_;show K0 a s.w;refine hK0 _ _ ?_;refine wp_seq_k fun K1 hK1=>?_;refine rg ?_;refine st 14 (zd (o_t 1 rfl) rfl rfl) rfl rfl hL fun a s e_ hL=>?_;refine st 15 (zy (zh0 (znl (s:=t) (by omega))) (xs:=[.tmp 14]) (.cons (o_t 14 rfl) .nil) rfl rfl) rfl rfl hL fun a s e_ hL=>?_;refine st 5 (zb (o_t 15 rfl) rfl rfl) rfl rfl hL fun a s e_ hL=>?_;refine en' ?_;show K1 a s.w;refine hK1 _ _ ?_;refine wp_seq_k fun K2 hK2=>?_;refine wp_seq_k fun K3 hK3=>?_;refine rg ?_;refine st 17 (zd (o_t 0 rfl) rfl rfl) rfl rfl hL fun a s e_ hL=>?_;refine st 18 (t_nc (o_t 17 rfl) zki rfl rfl) rfl rfl hL fun a s e_ hL=>?_;refine st 19 (zc0 (off:=1) (o_t 18 rfl) Tryz.underlying161 rfl (ze (zh _ _) rfl) rfl tyMap rfl rfl) rfl rfl hL fun a s e_ hL=>?_;refine st 20 (zt tyMap (o_t 19 rfl) rfl rfl) rfl rfl hL fun a s e_ hL=>?_;refine st 21 (zd (o_t 5 rfl) rfl rfl) rfl rfl hL fun a s e_ hL=>?_;refine st 22 (t_mgetcok (m:=999902) rfl (o_t 20 rfl) (o_t 21 rfl) Tryz.underlying159 (zei Tryz.underlying9) tyvMap rfl rfl) rfl rfl hL fun a s e_ hL=>?_;refine st 16 (zd (o_t 22 rfl) rfl rfl) rfl rfl hL fun a s e_ hL=>?_;refine st 23 (zj6 (o_t 16 rfl) rfl rfl) rfl rfl hL fun a s e_ hL=>?_;refine st 24 (zie (o_t 16 rfl) rfl rfl) rfl rfl hL fun a s e_ hL=>?_;refine st 6 (zb (o_t 23 rfl) rfl rfl) rfl rfl hL fun a s e_ hL=>?_;refine st 7 (zb (o_t 24 rfl) rfl rfl) rfl rfl hL fun a s e_ hL=>?_
 refine en' ?_;show K3 a s.w;refine hK3 _ _ ?_;refine wp_seq_k fun K4 hK4=>?_;refine rg ?_;refine st 25 (zd (o_t 7 rfl) rfl rfl) rfl rfl hL fun a s e_ hL=>?_;refine en' ?_;show K4 a s.w;refine hK4 _ _ ?_;refine cnd hL rfl (fun hb_=>?_) (fun hb_=>?_)
 ·refine wp_seq_k fun K5 hK5=>?_;refine rg ?_;refine st 26 (zd (o_t 6 rfl) rfl rfl) rfl rfl hL fun a s e_ hL=>?_;refine st 4 (zb (o_t 26 rfl) rfl rfl) rfl rfl hL fun a s e_ hL=>?_;refine en' ?_;show K5 a s.w;refine hK5 _ _ ?_;exact wp_ret (retc (zea xs (keyS t) [],xs) ⟨hxs.get hb_,hxs⟩ rfl hL rfl rfl)
 refine wp_skip ?_;show K2 a s.w;refine hK2 _ _ ?_;refine wp_seq_k fun K6 hK6=>?_;refine rg ?_;refine zi1 27 En.str kvStr En.SBranch hL rfl rfl rfl rfl fun a s g8 hg8 hL=>?_;have hng:∀b,some g8=some b→s0.w.heap.size≤b:=fun b hb=>(zls (hL.get 27 rfl) b hb).1;refine st 8 (zb (o_t 27 rfl) rfl rfl) rfl rfl hL fun a s e_ hL=>?_;refine en' ?_;show K6 a s.w;refine hK6 _ _ ?_;refine wp_seq_k fun K7 hK7=>?_;refine wp_seq_k fun K8 hK8=>?_;refine rg ?_;refine st 28 (zd (o_t 0 rfl) rfl rfl) rfl rfl hL fun a s e_ hL=>?_;refine st 29 (t_nc (o_t 28 rfl) zki rfl rfl) rfl rfl hL fun a s e_ hL=>?_;refine st 30 (zc0 (off:=0) (o_t 29 rfl) Tryz.underlying161 rfl (zm (zh _ _)) rfl zfl rfl rfl) rfl rfl hL fun a s e_ hL=>?_;refine st 31 (zt zfl (o_t 30 rfl) rfl rfl) rfl rfl hL fun a s e_ hL=>?_;refine st 32 (zd (o_t 1 rfl) rfl rfl) rfl rfl hL fun a s e_ hL=>?_;refine st 33 (zy (zok (zol hd hv.form)) (xs:=[.tmp 31,.tmp 32]) (.cons (o_t 31 rfl) (.cons (o_t 32 rfl) .nil)) rfl rfl) rfl rfl hL fun a s e_ hL=>?_;refine en' ?_;show K8 a s.w;refine hK8 _ _ ?_;refine cnd hL rfl (fun hb_=>?_) (fun hb_=>?_)
 ·have hgood:GoodM d t (zfa [] (keyS t) (t,1)):=⟨1,[t],by simp [lv,hb_],zk0.one t⟩;refine wp_seq_k fun K9 hK9=>?_;refine rg ?_;refine st 34 (zd (o_t 8 rfl) rfl rfl) rfl rfl hL fun a s e_ hL=>?_;refine st 35 (zd (o_t 5 rfl) rfl rfl) rfl rfl hL fun a s e_ hL=>?_;refine st 36 (zd (o_t 1 rfl) rfl rfl) rfl rfl hL fun a s e_ hL=>?_;refine st 37 (zy (zdo (clone_in (s:=t) (by omega))).frz (xs:=[.tmp 36]) (.cons (o_t 36 rfl) .nil) rfl rfl) rfl rfl hL fun a s e_ hL=>?_;refine st 38 (zcb (x:=((t,1):SBranch)) (ps:=[(0,.tmp 37),(1,.const (.int .i64 1))]) zn2 rfl stt82 (.cons (i:=0) (o_t 37 rfl) rfl (zbi (zz _ _ _)) (.cons (i:=1) (o_i (k:=.i64) (by decide)) rfl (zx (zz _ _ _) rfl) .nil)) rfl rfl) rfl rfl hL fun a s e_ hL=>?_;refine zgs (L':=[(0,Pd.ptr Efinder (d,some g)),(5,Pd.rep En.str (keyS t)),(8,Pd.map En.str kvStr En.SBranch s0.w.heap.size (some g8) (zfa [] (keyS t) (t,1))),(999902,Pd.mapc En.str kvStr Efmp g xs)]) hL (o_t 34 rfl) (o_t 35 rfl) (o_t 38 rfl) Tryz.underlying162 (zei Tryz.underlying9) (.inl rfl) rfl rfl
   (.cons (t:=0) rfl (fun _ h_=>h_.elim) (.cons (t:=5) rfl (fun _ h_=>h_.elim) (.turn (t:=8) rfl (.cons (t:=999902) rfl (no_o hgs hng) .nil)))) fun s hL=>?_
  refine en' ?_;show K9 a s.w;refine hK9 _ _ ?_;refine wp_seq_k fun K10 hK10=>?_;refine rg ?_;obtain ⟨s2,hw2,hL⟩:=hL.freezem (L':=[(0,Pd.ptr Efinder (d,some g)),(5,Pd.rep En.str (keyS t)),(999902,Pd.mapc En.str kvStr Efmp g xs)]) 8 rfl (.cons (t:=0) rfl (fun _ h_=>h_.elim) (.cons (t:=5) rfl (fun _ h_=>h_.elim) (.cons (t:=999902) rfl (no_o hgs hng) .nil)));rw [← hw2];clear hw2;generalize s2=s at *;refine st 39 (zd (o_t 0 rfl) rfl rfl) rfl rfl hL fun a s e_ hL=>?_;refine st 40 (t_nc (o_t 39 rfl) zki rfl rfl) rfl rfl hL fun a s e_ hL=>?_;refine st 41 (zc0 (off:=1) (o_t 40 rfl) Tryz.underlying161 rfl (ze (zh _ _) rfl) rfl tyMap rfl rfl) rfl rfl hL fun a s e_ hL=>?_;refine st 42 (zt tyMap (o_t 41 rfl) rfl rfl) rfl rfl hL fun a s e_ hL=>?_;refine st 43 (zd (o_t 5 rfl) rfl rfl) rfl rfl hL fun a s e_ hL=>?_;refine st 44 (zd (o_t 8 rfl) rfl rfl) rfl rfl hL fun a s e_ hL=>?_;refine st_mputc (m:=999902) (L':=[(8,Pd.rep Efmp (zfa [] (keyS t) (t,1)))]) hL rfl (.inl rfl) (o_t 42 rfl) (o_t 43 rfl) (o_t 44 rfl) Tryz.underlying159 (zei Tryz.underlying9) (.inl rfl) rfl rfl (.cons (t:=8) rfl (fun _ h_=>h_.elim) .nil) fun s hL=>?_;refine en' ?_;show K10 a s.w;refine hK10 _ _ ?_;refine wp_seq_k fun K11 hK11=>?_;refine rg ?_;refine st 45 (zd (o_t 8 rfl) rfl rfl) rfl rfl hL fun a s e_ hL=>?_;refine st 4 (zb (o_t 45 rfl) rfl rfl) rfl rfl hL fun a s e_ hL=>?_;refine en' ?_;show K11 a s.w;refine hK11 _ _ ?_;exact wp_ret (retc (zfa [] (keyS t) (t,1),zfa xs (keyS t) (zfa [] (keyS t) (t,1))) ⟨hgood,hxs.put hgood⟩ rfl hL rfl rfl)
 refine wp_skip ?_;show K7 a s.w;refine hK7 _ _ ?_;have hrd:rdy d t=false:=hb_;have hopn:=hv.opn hd hrd;obtain ⟨ls,hls,hlf⟩:∃ls,(opn d t).mapM (lv d h)=some ls∧ls.flatten=l:=by
  unfold lv at hl;rw [if_neg (by rw [hrd];simp)] at hl;exact Option.map_eq_some_iff.1 hl
 have hlen2:=opn_len (d:=d) t;have hlsl:ls.length=(opn d t).length:=zmc hls;refine wp_seq_k fun K12 hK12=>?_;refine wp_seq_k fun K13 hK13=>?_;refine rg ?_;refine st 46 (zd (o_t 0 rfl) rfl rfl) rfl rfl hL fun a s e_ hL=>?_;refine st 47 (t_nc (o_t 46 rfl) zki rfl rfl) rfl rfl hL fun a s e_ hL=>?_;refine st 48 (zc0 (off:=0) (o_t 47 rfl) Tryz.underlying161 rfl (zm (zh _ _)) rfl zfl rfl rfl) rfl rfl hL fun a s e_ hL=>?_;refine st 49 (zt zfl (o_t 48 rfl) rfl rfl) rfl rfl hL fun a s e_ hL=>?_;refine st 50 (zd (o_t 1 rfl) rfl rfl) rfl rfl hL fun a s e_ hL=>?_;refine st 51 (zy (zqw (zqx hd hv.form hrd (by omega) hd0)).frz (xs:=[.tmp 49,.tmp 50]) (.cons (o_t 49 rfl) (.cons (o_t 50 rfl) .nil)) rfl rfl) rfl rfl hL fun a s e_ hL=>?_;refine st 52 (zc8 (o_t 51 rfl) Tryz.underlying25 rfl rfl) rfl rfl hL fun a s e_ hL=>?_;refine st 53 (zd (o_i (k:=.i64) (by decide)) rfl rfl) rfl rfl hL fun a s e_ hL=>?_;refine en' ?_;show K13 a s.w;refine hK13 _ _ ?_;refine wp_block ?_;have hg8s:=hng g8 rfl;have J:∀(a:Act) (s:St) (out:List (Str × SBranch)) (ys:List (Str × List (Str × SBranch))),Has (fun b=>some g=some b) 88 s0 a s [(0,Pd.ptr Efinder (d,some g)),(5,Pd.rep En.str (keyS t)),(8,Pd.map En.str kvStr En.SBranch s0.w.heap.size (some g8) out),(999902,Pd.mapc En.str kvStr Efmp g ys)] →
   zk0 (fun u=>l.count u) out→InvS d ys→K12 a s.w:=by
  intro a s out ys hL hout hys;have hgood:GoodM d t out:=⟨h+1,l,hl,hout⟩;refine hK12 _ _ ?_;refine wp_seq_k fun K19 hK19=>?_;refine rg ?_;obtain ⟨s2,hw2,hL⟩:=hL.freezem (L':=[(0,Pd.ptr Efinder (d,some g)),(5,Pd.rep En.str (keyS t)),(999902,Pd.mapc En.str kvStr Efmp g ys)]) 8 rfl (.cons (t:=0) rfl (fun _ h_=>h_.elim) (.cons (t:=5) rfl (fun _ h_=>h_.elim) (.cons (t:=999902) rfl (no_o hgs hng) .nil)));rw [← hw2];clear hw2;generalize s2=s at *;refine st 81 (zd (o_t 0 rfl) rfl rfl) rfl rfl hL fun a s e_ hL=>?_;refine st 82 (t_nc (o_t 81 rfl) zki rfl rfl) rfl rfl hL fun a s e_ hL=>?_;refine st 83 (zc0 (off:=1) (o_t 82 rfl) Tryz.underlying161 rfl (ze (zh _ _) rfl) rfl tyMap rfl rfl) rfl rfl hL fun a s e_ hL=>?_;refine st 84 (zt tyMap (o_t 83 rfl) rfl rfl) rfl rfl hL fun a s e_ hL=>?_;refine st 85 (zd (o_t 5 rfl) rfl rfl) rfl rfl hL fun a s e_ hL=>?_;refine st 86 (zd (o_t 8 rfl) rfl rfl) rfl rfl hL fun a s e_ hL=>?_;refine st_mputc (m:=999902) (L':=[(8,Pd.rep Efmp out)]) hL rfl (.inl rfl) (o_t 84 rfl) (o_t 85 rfl) (o_t 86 rfl) Tryz.underlying159 (zei Tryz.underlying9) (.inl rfl) rfl rfl (.cons (t:=8) rfl (fun _ h_=>h_.elim) .nil) fun s hL=>?_;refine en' ?_;show K19 a s.w;refine hK19 _ _ ?_;refine wp_seq_k fun K20 hK20=>?_;refine rg ?_;refine st 87 (zd (o_t 8 rfl) rfl rfl) rfl rfl hL fun a s e_ hL=>?_;refine st 4 (zb (o_t 87 rfl) rfl rfl) rfl rfl hL fun a s e_ hL=>?_;refine en' ?_;show K20 a s.w;refine hK20 _ _ ?_;exact wp_ret (retc (out,zfa ys (keyS t) out) ⟨hgood,hys.put hgood⟩ rfl hL rfl rfl)
 refine lpg (fun k a s=>∃(i:Nat) (out:List (Str × SBranch)) (ys:List (Str × List (Str × SBranch))),i+k=(opn d t).length+1∧Has (fun b=>some g=some b) 88 s0 a s [(0,Pd.ptr Efinder (d,some g)),(5,Pd.rep En.str (keyS t)),(8,Pd.map En.str kvStr En.SBranch s0.w.heap.size (some g8) out),(51,Pd.rep (En.slice (En.slice En.SItem)) (opn d t)),(52,Pd.rep (En.int .i64) ((opn d t).length:Int)),(53,Pd.rep (En.int .i64) (i:Int)),(999902,Pd.mapc En.str kvStr Efmp g ys)] ∧
   zk0 (fun u=>(ls.take i).flatten.count u) out∧InvS d ys) ((opn d t).length+1) ⟨0,[],xs,by omega,hL.keep (.cons (t:=0) rfl (fun _ h_=>h_.elim) (.cons (t:=5) rfl (fun _ h_=>h_.elim) (.cons (t:=8) rfl (fun _ _ h_=>h_) (.cons (t:=51) rfl (fun _ h_=>h_.elim) (.cons (t:=52) rfl (fun _ h_=>h_.elim) (.cons (t:=53) rfl (fun _ h_=>h_.elim) (.cons (t:=999902) rfl (fun _ _ h_=>h_) .nil))))))),zk0.nil,hxs⟩ ?_
 rintro k a s ⟨i,out,ys,hik,hL,hout,hys⟩ KL hKL;refine wp_seq_k fun K14 hK14=>?_;refine rg ?_;refine st 54 (zbz (o_t 53 rfl) (o_t 52 rfl) rfl rfl) rfl rfl hL fun a s e_ hL=>?_;refine en' ?_;show K14 a s.w;refine hK14 _ _ ?_;refine wp_seq_k fun K15 hK15=>?_;refine cnd hL rfl (fun hb2_=>?_) (fun hb2_=>?_)
 case refine_2=>
  refine wp_exit ?_;have hi:(opn d t).length≤i:=by have:=df hb2_;omega
  refine J a s out ys (hL.keep (.cons (t:=0) rfl (fun _ h_=>h_.elim) (.cons (t:=5) rfl (fun _ h_=>h_.elim) (.cons (t:=8) rfl (fun _ _ h_=>h_) (.cons (t:=999902) rfl (fun _ _ h_=>h_) .nil))))) ?_ hys;rw [List.take_of_length_le (by omega),hlf] at hout;exact hout
 refine wp_skip ?_;show K15 a s.w;refine hK15 _ _ ?_;have hi:i<(opn d t).length:=by have:=dt hb2_;omega
 have hti:at? (opn d t) (i:Int)=some (opn d t)[i]:=by rw [zb2];simp [hi]
 have hmem:(opn d t)[i]∈opn d t:=List.getElem_mem hi;obtain ⟨li,hli,hlsi⟩:=zqk hls hi;refine wp_seq_k fun K18 hK18=>?_;refine wp_block ?_;refine wp_seq_k fun K21 hK21=>?_;refine rg ?_;refine st 55 (zde (o_t 51 rfl) (o_t 53 rfl) hti Tryz.underlying25 zfv rfl rfl) rfl rfl hL fun a s e_ hL=>?_;refine st 56 (zt zfv (o_t 55 rfl) rfl rfl) rfl rfl hL fun a s e_ hL=>?_;refine st 10 (zb (o_t 56 rfl) rfl rfl) rfl rfl hL fun a s e_ hL=>?_;refine en' ?_;show K21 a s.w;refine hK21 _ _ ?_;refine wp_seq_k fun K22 hK22=>?_;refine rg ?_;refine st 57 (zd (o_t 0 rfl) rfl rfl) rfl rfl hL fun a s e_ hL=>?_;refine st 58 (zd (o_t 10 rfl) rfl rfl) rfl rfl hL fun a s e_ hL=>?_;refine st_callc (L':=[(0,Pd.ptr Efinder (d,some g)),(5,Pd.rep En.str (keyS t)),(8,Pd.map En.str kvStr En.SBranch s0.w.heap.size (some g8) out),(51,Pd.rep (En.slice (En.slice En.SItem)) (opn d t)),(52,Pd.rep (En.int .i64) ((opn d t).length:Int)),(53,Pd.rep (En.int .i64) (i:Int))]) 59 999902 hL (ih _ li hli (hopn _ hmem) ys hys) rfl (.inl rfl) (zs:=[.tmp 57,.tmp 58]) (.cons (o_t 57 rfl) (.cons (o_t 58 rfl) .nil)) rfl rfl rfl rfl
  (.cons (t:=0) rfl (fun _ h_=>h_.elim) (.cons (t:=5) rfl (fun _ h_=>h_.elim) (.cons (t:=8) rfl (no_g hgs hng) (.cons (t:=51) rfl (fun _ h_=>h_.elim) (.cons (t:=52) rfl (fun _ h_=>h_.elim) (.cons (t:=53) rfl (fun _ h_=>h_.elim) .nil)))))) fun a s im him hL=>?_
 obtain ⟨m,ys2⟩:=im;obtain ⟨⟨hh,l2,hl2,hm⟩,hys2⟩:=him;simp only at hl2 hm hys2;have hl2e:l2=li:=by
  have h1:=zik (Nat.le_max_left hh h) hl2;have h2:=zik (Nat.le_max_right hh h) hli;rw [h1] at h2;exact Option.some.inj h2
 subst hl2e;have hg8lt:=(zls (hL.get 8 rfl) g8 rfl).2;refine zpp 60 hL (o_t 59 rfl) Tryz.underlying162 rfl rfl rfl rfl fun a s r hr hL=>?_;have hr8:g8<r:=Nat.lt_of_lt_of_le hg8lt hr;refine en' ?_;show K22 a s.w;refine hK22 _ _ ?_;refine wp_block ?_
 let f:=fun u=>(ls.take i).flatten.count u
 let c:=fun u=>l2.count u
 have J2:∀(a:Act) (s:St) (out:List (Str × SBranch)),Has (fun b=>some g=some b) 88 s0 a s [(0,Pd.ptr Efinder (d,some g)),(5,Pd.rep En.str (keyS t)),(8,Pd.map En.str kvStr En.SBranch s0.w.heap.size (some g8) out),(51,Pd.rep (En.slice (En.slice En.SItem)) (opn d t)),(52,Pd.rep (En.int .i64) ((opn d t).length:Int)),(53,Pd.rep (En.int .i64) (i:Int)),(999902,Pd.mapc En.str kvStr Efmp g ys2)] →
   zk0 (fun u=>f u+c u) out→K18 a s.w:=by
  intro a s out hL hout;refine hK18 _ _ ?_;refine rg ?_;refine st 80 (zbk (o_t 53 rfl) (o_i (k:=.i64) (by decide)) (zl (by omega) (by omega)) rfl rfl) rfl rfl hL fun a s e_ hL=>?_;refine st 53 (zd (o_t 80 rfl) rfl rfl) rfl rfl hL fun a s e_ hL=>?_;refine en' ?_;refine hKL (k-1) a s (by omega) ⟨i+1,out,ys2,by omega,hL.keep (.cons (t:=0) rfl (fun _ h_=>h_.elim) (.cons (t:=5) rfl (fun _ h_=>h_.elim) (.cons (t:=8) rfl (fun _ _ h_=>h_) (.cons (t:=51) rfl (fun _ h_=>h_.elim) (.cons (t:=52) rfl (fun _ h_=>h_.elim) (.cons (t:=53) rfl (fun _ h_=>h_.elim) (.cons (t:=999902) rfl (fun _ _ h_=>h_) .nil))))))), ?_,hys2⟩;refine hout.congr fun u=>?_;rw [take_flat hlsi,List.count_append]
 refine lpg (fun k a s=>∃(rem:List (Str × SBranch)) (cur:Option (Str × SBranch)) (out:List (Str × SBranch)),rem.length+1=k∧Has (fun b=>some g=some b) 88 s0 a s [(0,Pd.ptr Efinder (d,some g)),(5,Pd.rep En.str (keyS t)),(8,Pd.map En.str kvStr En.SBranch s0.w.heap.size (some g8) out),(51,Pd.rep (En.slice (En.slice En.SItem)) (opn d t)),(52,Pd.rep (En.int .i64) ((opn d t).length:Int)),(53,Pd.rep (En.int .i64) (i:Int)),(60,Pd.iter En.str kvStr En.SBranch s0.w.heap.size r rem cur),(999902,Pd.mapc En.str kvStr Efmp g ys2)] ∧
   Left c rem∧zk0 (cnt f c rem) out) (m.length+1) ⟨m,none,out,rfl,hL.keep (.cons (t:=0) rfl (fun _ h_=>h_.elim) (.cons (t:=5) rfl (fun _ h_=>h_.elim) (.cons (t:=8) rfl (fun _ _ h_=>h_) (.cons (t:=51) rfl (fun _ h_=>h_.elim) (.cons (t:=52) rfl (fun _ h_=>h_.elim) (.cons (t:=53) rfl (fun _ h_=>h_.elim) (.cons (t:=60) rfl (fun _ _ h_=>h_) (.cons (t:=999902) rfl (fun _ _ h_=>h_) .nil)))))))),hm.left,hout.congr fun u=>by rw [cnt_start hm (.refl _)]⟩ ?_
 rintro k2 a s ⟨rem,cur,out,hrk,hL,hleft,hout⟩ KM hKM;refine wp_seq_k fun K23 hK23=>?_;refine rg ?_;have hrs0:s0.w.heap.size≤r:=(hL.get 60 rfl).2.1;refine st_next (L':=[(0,Pd.ptr Efinder (d,some g)),(5,Pd.rep En.str (keyS t)),(8,Pd.map En.str kvStr En.SBranch s0.w.heap.size (some g8) out),(51,Pd.rep (En.slice (En.slice En.SItem)) (opn d t)),(52,Pd.rep (En.int .i64) ((opn d t).length:Int)),(53,Pd.rep (En.int .i64) (i:Int)),(999902,Pd.mapc En.str kvStr Efmp g ys2)]) 61 hL (x:=60) rfl rfl rfl rfl rfl (by decide)
  (.cons (t:=0) rfl (fun _ h_=>h_.elim) (.cons (t:=5) rfl (fun _ h_=>h_.elim) (.cons (t:=8) rfl (fun b hb e=>by cases hb;cases e;omega) (.cons (t:=51) rfl (fun _ h_=>h_.elim) (.cons (t:=52) rfl (fun _ h_=>h_.elim) (.cons (t:=53) rfl (fun _ h_=>h_.elim) (.cons (t:=999902) rfl (fun b hb e=>by cases hb;cases e;omega) .nil))))))) (fun a hrem hL=>?_) (fun a s p rem' hp hL=>?_)
 ·subst hrem;refine st 62 (t_nx (o_t 61 rfl) rfl rfl) rfl rfl hL fun a s e_ hL=>?_;refine en' ?_;show K23 a s.w;refine hK23 _ _ ?_;refine wp_seq_k fun K24 hK24=>?_;refine cnd hL rfl (fun hb3_=>by cases hb3_) (fun _=>?_);refine wp_exit ?_;refine J2 a s out (hL.keep (.cons (t:=0) rfl (fun _ h_=>h_.elim) (.cons (t:=5) rfl (fun _ h_=>h_.elim) (.cons (t:=8) rfl (fun _ _ h_=>h_) (.cons (t:=51) rfl (fun _ h_=>h_.elim) (.cons (t:=52) rfl (fun _ h_=>h_.elim) (.cons (t:=53) rfl (fun _ h_=>h_.elim) (.cons (t:=999902) rfl (fun _ _ h_=>h_) .nil)))))))) (hout.congr fun u=>by rw [cnt_nil])
 have hleft2:=hleft.perm hp;have hout2:zk0 (cnt f c (p::rem')) out:=hout.congr fun u=>by rw [cnt_perm hp]
 obtain ⟨e1,e2,e3⟩:=hleft2.ent p (by simp);have hp2:1≤p.2.2∧p.2.2≤2:=by rw [e3];unfold sat;omega
 have hmg:0≤(zea out p.1 (([],0):SBranch)).2∧(zea out p.1 (([],0):SBranch)).2≤2:=by rw [e1,hout2.get];unfold sat;omega
 refine st 62 (t_nx (o_t 61 rfl) rfl rfl) rfl rfl hL fun a s e_ hL=>?_;refine en' ?_;show K23 a s.w;refine hK23 _ _ ?_;refine wp_seq_k fun K24 hK24=>?_;refine cnd hL rfl (fun _=>?_) (fun hb3_=>by cases hb3_);refine wp_skip ?_;show K24 a s.w;refine hK24 _ _ ?_;refine wp_block ?_;refine wp_seq_k fun K25 hK25=>?_;refine rg ?_;refine st 63 (t_entry (o_t 60 rfl) (zei Tryz.underlying9) rfl rfl) rfl rfl hL fun a s e_ hL=>?_;refine st 64 (zj6 (o_t 63 rfl) rfl rfl) rfl rfl hL fun a s e_ hL=>?_;refine st 65 (zie (o_t 63 rfl) rfl rfl) rfl rfl hL fun a s e_ hL=>?_;have l8:=(zls (hL.get 8 rfl) g8 rfl).2;have lr:=hL.ilt 60 rfl r rfl;have lg:g<s.w.heap.size:=Nat.lt_of_lt_of_le hgs hL.ent.mv.size;refine zbf En.SBranch (z:=(([],0):SBranch)) 12 hL zn2 rfl rfl rfl rfl fun a s g12 hg12 hL=>?_;refine st 11 (zb (o_t 64 rfl) rfl rfl) rfl rfl hL fun a s e_ hL=>?_;refine zby (L':=[(0,Pd.ptr Efinder (d,some g)),(5,Pd.rep En.str (keyS t)),(8,Pd.map En.str kvStr En.SBranch s0.w.heap.size (some g8) out),(11,Pd.rep En.str p.1),(51,Pd.rep (En.slice (En.slice En.SItem)) (opn d t)),(52,Pd.rep (En.int .i64) ((opn d t).length:Int)),(53,Pd.rep (En.int .i64) (i:Int)),(60,Pd.iter En.str kvStr En.SBranch s0.w.heap.size r rem' (some p)),(999902,Pd.mapc En.str kvStr Efmp g ys2)]) 12 hL rfl (o_t 65 rfl) zmm rfl rfl rfl
  (.cons (t:=0) rfl (fun _ h_=>h_.elim) (.cons (t:=5) rfl (fun _ h_=>h_.elim) (.cons (t:=8) rfl (fun b hb e=>by cases hb;cases e;omega) (.cons (t:=11) rfl (fun _ h_=>h_.elim) (.cons (t:=51) rfl (fun _ h_=>h_.elim) (.cons (t:=52) rfl (fun _ h_=>h_.elim) (.cons (t:=53) rfl (fun _ h_=>h_.elim) (.cons (t:=60) rfl (fun b hb e=>by cases hb;cases e;omega) (.cons (t:=999902) rfl (fun b hb e=>by cases hb;cases e;omega) .nil))))))))) fun s hL=>?_
 refine en' ?_;show K25 a s.w;refine hK25 _ _ ?_;refine wp_seq_k fun K26 hK26=>?_;refine rg ?_;refine st 66 (zd (o_t 8 rfl) rfl rfl) rfl rfl hL fun a s e_ hL=>?_;refine st 67 (zd (o_t 11 rfl) rfl rfl) rfl rfl hL fun a s e_ hL=>?_;refine st 68 (zoy (z:=(([],0):SBranch)) (o_t 66 rfl) (o_t 67 rfl) Tryz.underlying162 (zei Tryz.underlying9) tyvBranch rfl rfl) rfl rfl hL fun a s e_ hL=>?_;have l8:=(zls (hL.get 8 rfl) g8 rfl).2;have lr:=hL.ilt 60 rfl r rfl;have lg:g<s.w.heap.size:=Nat.lt_of_lt_of_le hgs hL.ent.mv.size;have l12:=hL.blt 12 rfl g12 rfl;refine zbf En.SBranch (z:=(([],0):SBranch)) 13 hL zn2 rfl rfl rfl rfl fun a s g13 hg13 hL=>?_;refine zby (L':=[(0,Pd.ptr Efinder (d,some g)),(5,Pd.rep En.str (keyS t)),(8,Pd.map En.str kvStr En.SBranch s0.w.heap.size (some g8) out),(11,Pd.rep En.str p.1),(12,Pd.box En.SBranch s0.w.heap.size g12 p.2),(51,Pd.rep (En.slice (En.slice En.SItem)) (opn d t)),(52,Pd.rep (En.int .i64) ((opn d t).length:Int)),(53,Pd.rep (En.int .i64) (i:Int)),(60,Pd.iter En.str kvStr En.SBranch s0.w.heap.size r rem' (some p)),(999902,Pd.mapc En.str kvStr Efmp g ys2)]) 13 hL rfl (o_t 68 rfl) zmm rfl rfl rfl
  (.cons (t:=0) rfl (fun _ h_=>h_.elim) (.cons (t:=5) rfl (fun _ h_=>h_.elim) (.cons (t:=8) rfl (fun b hb e=>by cases hb;cases e;omega) (.cons (t:=11) rfl (fun _ h_=>h_.elim) (.cons (t:=12) rfl (fun b hb e=>by cases hb;cases e;omega) (.cons (t:=51) rfl (fun _ h_=>h_.elim) (.cons (t:=52) rfl (fun _ h_=>h_.elim) (.cons (t:=53) rfl (fun _ h_=>h_.elim) (.cons (t:=60) rfl (fun b hb e=>by cases hb;cases e;omega) (.cons (t:=999902) rfl (fun b hb e=>by cases hb;cases e;omega) .nil)))))))))) fun s hL=>?_
 refine en' ?_;show K26 a s.w;refine hK26 _ _ ?_;refine rg ?_;refine st 69 (zd (o_t 8 rfl) rfl rfl) rfl rfl hL fun a s e_ hL=>?_;refine st 70 (zd (o_t 11 rfl) rfl rfl) rfl rfl hL fun a s e_ hL=>?_;refine st 71 (zbj (off:=0) (o_t 12 rfl) Tryz.underlying82 rfl (zm (zh _ _)) rfl zfv rfl rfl) rfl rfl hL fun a s e_ hL=>?_;refine st 72 (zp zfv (o_t 71 rfl) rfl rfl) rfl rfl hL fun a s e_ hL=>?_;refine st 73 (zbj (off:=1) (o_t 13 rfl) Tryz.underlying82 rfl (ze (zh _ _) rfl) rfl ty3 rfl rfl) rfl rfl hL fun a s e_ hL=>?_;refine st 74 (zp ty3 (o_t 73 rfl) rfl rfl) rfl rfl hL fun a s e_ hL=>?_;refine st 75 (zbj (off:=1) (o_t 12 rfl) Tryz.underlying82 rfl (ze (zh _ _) rfl) rfl ty3 rfl rfl) rfl rfl hL fun a s e_ hL=>?_;refine st 76 (zp ty3 (o_t 75 rfl) rfl rfl) rfl rfl hL fun a s e_ hL=>?_;refine st 77 (zbk (o_t 74 rfl) (o_t 76 rfl) (zl (by omega) (by omega)) rfl rfl) rfl rfl hL fun a s e_ hL=>?_;refine st 78 (zpn (o_t 77 rfl) (o_i (k:=.i64) (by decide)) rfl rfl) rfl rfl hL fun a s e_ hL=>?_;refine st 79 (zcb (x:=((p.2.1,min ((zea out p.1 (([],0):SBranch)).2+p.2.2) 2):SBranch)) (ps:=[(0,.tmp 72),(1,.tmp 78)]) zn2 rfl stt82 (.cons (i:=0) (o_t 72 rfl) rfl (zbi (zz _ _ _)) (.cons (i:=1) (o_t 78 rfl) rfl (zx (zz _ _ _) rfl) .nil)) rfl rfl) rfl rfl hL fun a s e_ hL=>?_;refine zgs (L':=[(0,Pd.ptr Efinder (d,some g)),(5,Pd.rep En.str (keyS t)),(8,Pd.map En.str kvStr En.SBranch s0.w.heap.size (some g8) (zfa out p.1 (p.2.1,min ((zea out p.1 (([],0):SBranch)).2+p.2.2) 2))),(51,Pd.rep (En.slice (En.slice En.SItem)) (opn d t)),(52,Pd.rep (En.int .i64) ((opn d t).length:Int)),(53,Pd.rep (En.int .i64) (i:Int)),(60,Pd.iter En.str kvStr En.SBranch s0.w.heap.size r rem' (some p)),(999902,Pd.mapc En.str kvStr Efmp g ys2)]) hL (o_t 69 rfl) (o_t 70 rfl) (o_t 79 rfl) Tryz.underlying162 (zei Tryz.underlying9) (.inl rfl) rfl rfl
  (.cons (t:=0) rfl (fun _ h_=>h_.elim) (.cons (t:=5) rfl (fun _ h_=>h_.elim) (.turn (t:=8) rfl (.cons (t:=51) rfl (fun _ h_=>h_.elim) (.cons (t:=52) rfl (fun _ h_=>h_.elim) (.cons (t:=53) rfl (fun _ h_=>h_.elim) (.cons (t:=60) rfl (fun b hb e=>by cases hb;cases e;omega) (.cons (t:=999902) rfl (fun b hb e=>by cases hb;cases e;omega) .nil)))))))) fun s hL=>?_
 refine en' ?_;have hpl:=hp.length_eq;simp only [List.length_cons] at hpl;exact hKM (k2-1) a s (by omega) ⟨rem',some p,_,by omega,hL,hleft2.tail.1,cnt_step hleft2 hout2⟩
theorem find_ok {d:List SNode} (hd:ROk d) (hk:DOk d) (hl4:d.length≤400) (g:Nat) (hd0:∃n,at? d 0=some n):∀(h:Nat) (t:List SItem) (l:List (List SItem)),lv d h t=some l→Vs d 400 t→∀xs,InvS d xs→FndOk d g t xs
 | 0,t,l,hl,_,_,_=>by simp [lv] at hl
 | h+1,t,l,hl,hv,xs,hxs=>find_step hd hk hl4 g (find_ok hd hk hl4 g hd0 h) hd0 hl hv hxs
theorem lv_vs {d:List SNode} (hd:ROk d) {n0:Nat}:∀(h:Nat) (t:List SItem) (l:List (List SItem)),lv d h t=some l→Vs d n0 t→∀u∈l,Vs d n0 u∧rdy d u=true
 | 0,t,l,hl,_=>by simp [lv] at hl
 | h+1,t,l,hl,hv=>by
  intro u hu;unfold lv at hl
  by_cases hr:rdy d t=true
  ·rw [if_pos hr] at hl;cases hl;rw [List.mem_singleton.1 hu];exact ⟨hv,hr⟩
  ·rw [if_neg hr] at hl;obtain ⟨ls,h1,h2⟩:=Option.map_eq_some_iff.1 hl;subst h2;obtain ⟨l',hl',hu'⟩:=List.mem_flatten.1 hu;obtain ⟨i,hi⟩:=List.getElem?_of_mem hl';have hil:i<(opn d t).length:=by rw [← zmc h1];exact (List.getElem?_eq_some_iff.1 hi).1
   obtain ⟨b,hb1,hb2⟩:=zqk h1 hil;rw [hi] at hb2;cases hb2;exact lv_vs hd h _ _ hb1 (hv.opn hd (by simpa using hr) _ (List.getElem_mem hil)) u hu'
theorem zha {d_:SDesc} {s_:List SItem} {r_:List SBranch} (hh:zft d_ s_ r_):Fn Tryz.prog 89 [Pd.rep En.SDesc d_,Pd.rep (En.slice En.SItem) s_] (Ro En.SBranch 82 r_):=by
 obtain ⟨hd,hk,hl4,hne,hf,hs4,hr31,h,l,hl,hcan⟩:=hh;have hv:Vs d_ 400 s_:=Vs.start hf hs4;refine zbx Tryz.func89 rfl Tryz.ntmps89 (by rfl) (by simp) fun s0 a hL=>?_;refine wp_seq_k fun K0 hK0=>?_;refine rg ?_;refine st 2 (zcu (o_t 0 rfl) rfl rfl) rfl rfl hL fun a s e_ hL=>?_;refine st 4 (zb (q:=Pd.any) (fun _ _ _ _ _ _=>trivial) rfl rfl) rfl rfl hL fun a s e_ hL=>?_;refine en' ?_;show K0 a s.w;refine hK0 _ _ ?_;refine wp_seq_k fun K1 hK1=>?_;refine rg ?_;refine st 9 (zt zfl (o_t 2 rfl) rfl rfl) rfl rfl hL fun a s e_ hL=>?_;refine zi1 10 En.str kvStr Efmp hL rfl rfl rfl rfl fun a s g hg hL=>?_;have hgN:s0.w.heap.size≤g:=(zls (hL.get 10 rfl) g rfl).1;have hL:=hL.mapc 10 999902 rfl;refine st 11 (zcb (x:=((d_,some g):SDesc × Option Nat)) (ps:=[(0,.tmp 9),(1,.tmp 10)]) tyzFinder rfl sttFinder (.cons (i:=0) (o_t 9 rfl) rfl (zbi (zz _ _ _)) (.cons (i:=1) (o_t 10 rfl) rfl (zx (zz _ _ _) rfl) .nil)) rfl rfl) rfl rfl hL fun a s e_ hL=>?_;refine st 12 (zcu (o_t 11 rfl) rfl rfl) rfl rfl hL fun a s e_ hL=>?_;refine st 5 (zb (o_t 12 rfl) rfl rfl) rfl rfl hL fun a s e_ hL=>?_;refine en' ?_;show K1 a s.w;refine hK1 _ _ ?_;refine wp_seq_k fun K2 hK2=>?_;refine rg ?_;refine st 6 (zb (zdg (E:=En.SBranch) (N:=s0.w.heap.size) (te:=82)) rfl rfl) rfl rfl hL fun a s e_ hL=>?_;refine en' ?_;show K2 a s.w;refine hK2 _ _ ?_;refine wp_seq_k fun K3 hK3=>?_;refine wp_seq_k fun K4 hK4=>?_;refine rg ?_;refine st 13 (zd (o_t 5 rfl) rfl rfl) rfl rfl hL fun a s e_ hL=>?_;refine st 14 (zd (o_t 1 rfl) rfl rfl) rfl rfl hL fun a s e_ hL=>?_
 have hd0:∃n,at? d_ 0=some n:=by
  cases d_ with
  | nil=>exact absurd rfl hne
  | cons n d=>exact ⟨n,rfl⟩
 refine st_callc (L':=[(6,Pd.row En.SBranch s0.w.heap.size 82 none [])]) 15 999902 hL (find_ok hd hk hl4 g hd0 h s_ l hl hv [] (InvS.nil _)) rfl (.inr hgN) (zs:=[.tmp 13,.tmp 14]) (.cons (o_t 13 rfl) (.cons (o_t 14 rfl) .nil)) rfl rfl rfl rfl
  (.cons (t:=6) rfl no_own .nil) fun a s im him hL=>?_
 obtain ⟨m,ys2⟩:=im;obtain ⟨⟨h2,l2,hl2,hm⟩,hys2⟩:=him;simp only at hl2 hm hys2;have hl2e:l2=l:=by
  have h3:=zik (Nat.le_max_left h2 h) hl2;have h4:=zik (Nat.le_max_right h2 h) hl;rw [h3] at h4;exact Option.some.inj h4
 subst hl2e;refine zpp 16 hL (o_t 15 rfl) Tryz.underlying162 rfl rfl rfl rfl fun a s r hr hL=>?_;refine en' ?_;show K4 a s.w;refine hK4 _ _ ?_;refine wp_block ?_;have J:∀(a:Act) (s:St) (og:Option Nat) (out:List SBranch),Has N0 28 s0 a s [(6,Pd.row En.SBranch s0.w.heap.size 82 og out)]→out.Perm (m.map (·.2))→K3 a s.w:=by
  intro a s og out hL hp;obtain ⟨hnd,hc2⟩:=hm.can hp;have hrr:r_=srtB out:=hcan.uniq hc2;have hlen:out.length≤2147483648:=by
   have:=(zgg out).length_eq;rw [hrr] at hr31;omega
  have hsrt:zgu out r_:=by
   refine ⟨hnd,fun b hb=>?_,hlen,hrr⟩;obtain ⟨p,hp1,hp2⟩:=List.mem_map.1 (hp.mem_iff.1 hb);obtain ⟨k,b'⟩:=p;simp only at hp2;subst hp2;have hc:=((hm.mem k _).1 hp1).2.1;have hmem:b'.1∈l2:=by
    rcases Nat.eq_zero_or_pos (l2.count b'.1) with h0 | h0
    ·exact absurd h0 hc
    ·exact List.count_pos_iff.1 h0
   have:=(lv_vs hd h s_ l2 hl hv _ hmem).1.len;omega
  refine hK3 _ _ ?_;refine wp_seq_k fun K7 hK7=>?_;refine rg ?_;refine st 25 (zd (o_t 6 rfl) rfl rfl) rfl rfl hL fun a s e_ hL=>?_;refine zj8 (L':=[(6,Pd.row En.SBranch s0.w.heap.size 82 og r_)]) 26 (fun v0=>zig v0 hsrt) hL (o_t 25 rfl) (zs:=[.func 117]) (.cons o_isf .nil) rfl rfl rfl rfl (.turn (t:=6) rfl .nil) fun a s hL=>?_;refine en' ?_;show K7 a s.w;refine hK7 _ _ ?_;refine wp_seq_k fun K8 hK8=>?_;refine rg ?_;refine st 27 (zd (o_t 6 rfl) rfl rfl) rfl rfl hL fun a s e_ hL=>?_;refine st 4 (zb (o_t 27 rfl) rfl rfl) rfl rfl hL fun a s e_ hL=>?_;refine en' ?_;show K8 a s.w;refine hK8 _ _ ?_;exact wp_ret (zjn rfl hL rfl)
 have hmlen:m.length≤2147483648:=by
  have hp:=(hm.can (List.Perm.refl (m.map (·.2)))).2;have e:=hcan.uniq hp;have:=(zgg (m.map (·.2))).length_eq;rw [e] at hr31;rw [List.length_map] at this;omega
 refine lpg (fun k a s=>∃(rem:List (Str × SBranch)) (cur:Option (Str × SBranch)) (og:Option Nat) (out:List SBranch),rem.length+1=k∧Has N0 28 s0 a s [(6,Pd.row En.SBranch s0.w.heap.size 82 og out),(16,Pd.iter En.str kvStr En.SBranch s0.w.heap.size r rem cur)]∧(∀b,og=some b→¬ some r=some b)∧(out++rem.map (·.2)).Perm (m.map (·.2)))
  (m.length+1) ⟨m,none,none,[],rfl,hL.keep (.cons (t:=6) rfl (fun _ _ h_=>h_) (.cons (t:=16) rfl (fun _ _ h_=>h_) .nil)),(fun b hb=>by cases hb),by simp⟩ ?_
 rintro k a s ⟨rem,cur,og,out,hrk,hL,hdis,hperm⟩ KL hKL;refine wp_seq_k fun K5 hK5=>?_;refine rg ?_;refine st_next (L':=[(6,Pd.row En.SBranch s0.w.heap.size 82 og out)]) 17 hL (x:=16) rfl rfl rfl rfl rfl (by decide) (.cons (t:=6) rfl hdis .nil) (fun a hrem hL=>?_) (fun a s p rem' hp hL=>?_)
 ·subst hrem;refine st 18 (t_nx (o_t 17 rfl) rfl rfl) rfl rfl hL fun a s e_ hL=>?_;refine en' ?_;show K5 a s.w;refine hK5 _ _ ?_;refine wp_seq_k fun K6 hK6=>?_;refine cnd hL rfl (fun hb3_=>by cases hb3_) (fun _=>?_);refine wp_exit ?_;exact J a s og out (hL.keep (.cons (t:=6) rfl (fun _ _ h_=>h_) .nil)) (by simpa using hperm)
 refine st 18 (t_nx (o_t 17 rfl) rfl rfl) rfl rfl hL fun a s e_ hL=>?_;refine en' ?_;show K5 a s.w;refine hK5 _ _ ?_;refine wp_seq_k fun K6 hK6=>?_;refine cnd hL rfl (fun _=>?_) (fun hb3_=>by cases hb3_);refine wp_skip ?_;show K6 a s.w;refine hK6 _ _ ?_;refine wp_block ?_;refine wp_seq_k fun K9 hK9=>?_;refine rg ?_;refine st 19 (t_entry (o_t 16 rfl) (zei Tryz.underlying9) rfl rfl) rfl rfl hL fun a s e_ hL=>?_;refine st 20 (zie (o_t 19 rfl) rfl rfl) rfl rfl hL fun a s e_ hL=>?_;have l6:=hL.rlt 6 rfl;have lr:=hL.ilt 16 rfl r rfl;refine zbf En.SBranch (z:=(([],0):SBranch)) 8 hL zn2 rfl rfl rfl rfl fun a s g8 hg8 hL=>?_;have d6:∀b,og=some b→¬ some g8=some b:=fun b hb e=>by cases e;have:=l6 g8 hb;omega
 refine zby (L':=[(6,Pd.row En.SBranch s0.w.heap.size 82 og out),(16,Pd.iter En.str kvStr En.SBranch s0.w.heap.size r rem' (some p))]) 8 hL rfl (o_t 20 rfl) zmm rfl rfl rfl (.cons (t:=6) rfl d6 (.cons (t:=16) rfl (fun b hb e=>by cases hb;cases e;omega) .nil)) fun s hL=>?_;refine en' ?_;show K9 a s.w;refine hK9 _ _ ?_;refine rg ?_;have hpl:=hp.length_eq;simp only [List.length_cons] at hpl;have hol:out.length+(rem.length:Nat)=m.length:=by
  have:=hperm.length_eq;simpa using this
 refine st 21 (zd (o_t 6 rfl) rfl rfl) rfl rfl hL fun a s e_ hL=>?_;refine st 22 (zbr zmm (o_t 8 rfl) rfl rfl) rfl rfl hL fun a s e_ hL=>?_;refine st 23 (zec (xs:=[.tmp 22]) (.cons (o_t 22 rfl) .nil) Tryz.underlying79 zmm rfl rfl (by decide) rfl rfl) rfl rfl hL fun a s e_ hL=>?_;have lr:=hL.ilt 16 rfl r rfl;refine zev (L':=[(16,Pd.iter En.str kvStr En.SBranch s0.w.heap.size r rem' (some p))]) 24 hL (o_t 21 rfl) (o_t 23 rfl) Tryz.underlying79 zmm (by simp;omega) rfl rfl rfl rfl (.cons (t:=16) rfl (fun b hb e=>hdis b e hb) .nil) fun a s og' hg' hL=>?_;refine st 6 (zb (o_t 24 rfl) rfl rfl) rfl rfl hL fun a s e_ hL=>?_;refine en' ?_;refine hKL (k-1) a s (by omega) ⟨rem',some p,og',out++[p.2],by omega,hL.keep (.cons (t:=6) rfl (fun _ _ h_=>h_) (.cons (t:=16) rfl (fun _ _ h_=>h_) .nil)),fun b hb e=>?_, ?_⟩
 ·rcases hg' b hb with h3 | h3
  ·exact hdis b h3 e
  ·cases e;omega
 ·refine List.Perm.trans ?_ hperm;have h5:=hp.map (·.2);rw [List.map_cons] at h5;rw [List.append_assoc,List.singleton_append];exact (h5.symm.append_left out)
open Go.Shelf Go.Sort
theorem zk9 (v0:Value) {x r:List SBranch} (h:zjm x r):Fm Tryz.prog 91 (fun b=>v0.ownBlock=some b) [Pd.prow En.SBranch 82 v0 x,Pd.is (.func (.func 92) #[] #[])] (fun _ s' _=>(Pd.prow En.SBranch 82 v0 r).p s' v0):=fm_branch (ze6 Tryz.func92 rfl (by rfl)) h.1 h.2.2.1 h.2.2.2 (fun a ha b hb=>VD.next_On_1_ok ⟨_,zgo (h.2.1 a ha),rfl⟩) v0
end Go.Proofs.YtahgmdbioafmbaaGreatDoor.V
namespace Go.Proofs.YtahgmdbioafmbaaGreatDoor.V
open Go
set_option linter.unusedVariables false
set_option maxRecDepth 100000
theorem zkk {nv_:SNode} {ahead_:Int} {r_:(List SItem)} (h:zjb nv_ ahead_ r_):Fn Tryz.prog 211 [(Pd.rep En.SNode nv_),(Pi ahead_)] (Ro En.SItem 77 r_):=by
 unfold zjb at h;refine zbx Tryz.func211 J Tryz.ntmps211 (by rfl) (by simp) fun s0 a L=>?_;refine wp_seq_k fun K1 H1=>rg (sw 2 (zcu (O 0 J) J J) L fun a s L=>?_);refine sw 4 (zb (zdg (E:=En.SItem) (N:=s0.w.heap.size) (te:=77)) J J) L fun a s L=>en' (H1 _ _ ?_);refine wp_seq_k fun K2 H2=>rg (sw 5 (zc0 (off:=1) (O 2 J) U68 J (ze (zm (zh _ _)) J) J ty3 J J) L fun a s L=>?_);refine sw 6 (zt ty3 (O 5 J) J J) L fun a s L=>sw 7 (zcb (x:=(1,nv_.2.1,0,0)) (ps:=[(0,.const (.int .i64 1)),(1,.tmp 6)]) zic J stt77 (.cons (i:=0) oI J (zbi (zz _ _ _)) (.cons (i:=1) (O 6 J) J (zx (zbi (zz _ _ _)) J) .nil)) J J) L fun a s L=>sw 8 (zd (O 1 J) J J) L fun a s L=>sw 9 (zcb (x:=(5,0,ahead_,0)) (ps:=[(0,.const (.int .i64 5)),(2,.tmp 8)]) zic J stt77 (.cons (i:=0) oI J (zbi (zz _ _ _)) (.cons (i:=2) (O 8 J) J (zx (zx (zbi (zz _ _ _)) J) J) .nil)) J J) L fun a s L=>zfp (xs:=[.tmp 7,.tmp 9]) 10 L (.cons (O 7 J) (.cons (O 9 J) .nil)) U46 zfk J J (by decide) J J J J fun a s g3 hg_ L=>?_;refine sw 4 (zb (O 10 J) J J) L fun a s L=>en' (H2 _ _ ?_);subst h;exact wp_ret (zjn J L J)
theorem zle {s_:Sstep_next} {r_:((List SItem) × Bool)} (h:zg7 s_ r_):Fn Tryz.prog 209 [(Pd.rep En.Sstep_next s_)] (Ro2 En.SItem 77 r_.1 (Pd.rep En.bool r_.2)):=by
 unfold zg7 at h;refine zbx Tryz.func209 J Tryz.ntmps209 (by rfl) (by simp) fun s0 a L=>?_;refine wp_seq_k fun K1 H1=>rg (sw 1 (zcu (O 0 J) J J) L fun a s L=>?_);refine sw 2 (zb (zdg (E:=En.SItem) (N:=s0.w.heap.size) (te:=77)) J J) L fun a s L=>sw 3 (zb o_b J J) L fun a s L=>en' (H1 _ _ ?_);refine wp_seq_k fun K2 H2=>wp_seq_k fun K3 H3=>rg (sw 4 (zc0 (off:=0) (O 1 J) U170 J (zm (zh _ _)) J zfi J J) L fun a s L=>?_);refine sw 5 (zc0 (off:=0) (O 4 J) U68 J (zm (zh _ _)) J ty3 J J) L fun a s L=>sw 6 (zt ty3 (O 5 J) J J) L fun a s L=>en' (H3 _ _ ?_);refine wp_block (wp_seq_k fun K4 H4=>?_);refine rg (sw 8 (zbt (O 6 J) oI J J) L fun a s L=>?_);refine sw 7 (zb (O 8 J) J J) L fun a s L=>en' (H4 _ _ ?_);refine cnd L J (fun hb_=>?_) (fun hb_=>?_)
 ·replace h:=h.1 hb_;refine wp_seq_k fun K5 H5=>?_;obtain ⟨r6,h7,h⟩:=h;refine rg (sw 9 (zc0 (off:=0) (O 1 J) U170 J (zm (zh _ _)) J zfi J J) L fun a s L=>?_);refine sw 10 (zt zfi (O 9 J) J J) L fun a s L=>sw 11 (zc0 (off:=14) (O 1 J) U170 J (ze (ze (zh _ _) J) J) J ty5 J J) L fun a s L=>sw 12 (zt ty5 (O 11 J) J J) L fun a s L=>sw 13 (t_up (O 12 J) (by decide) U5 U3 J J) L fun a s L=>zfx 14 L (zkk h7) (xs:=[.tmp 10,.tmp 13]) (.cons (O 10 J) (.cons (O 13 J) .nil)) J J J J fun a s og8 hg_ L=>?_;refine sw 2 (zb (O 14 J) J J) L fun a s L=>sw 3 (zb o_b J J) L fun a s L=>en' (H5 _ _ ?_);subst h;exact wp_ret (zl2 J L J J)
 ·replace h:=h.2 hb_;refine wp_seq_k fun K9 H9=>rg (sw 16 (zbt (O 6 J) oI J J) L fun a s L=>?_);refine sw 15 (zb (O 16 J) J J) L fun a s L=>en' (H9 _ _ ?_);refine cnd L J (fun hb_=>?_) (fun hb_=>?_)
  ·replace h:=h.1 hb_;refine wp_seq_k fun K10 H10=>rg (sw 17 (zc0 (off:=10) (O 1 J) U170 J (ze (zm (zh _ _)) J) J zfk J J) L fun a s L=>?_);refine sw 18 (zc0 (off:=1) (O 17 J) U77 J (ze (zm (zh _ _)) J) J ty3 J J) L fun a s L=>sw 19 (zt ty3 (O 18 J) J J) L fun a s L=>sw 20 (zc0 (off:=14) (O 1 J) U170 J (ze (ze (zh _ _) J) J) J ty5 J J) L fun a s L=>sw 21 (zt ty5 (O 20 J) J J) L fun a s L=>sw 22 (t_up (O 21 J) (by decide) U5 U3 J J) L fun a s L=>sw 23 (zcb (x:=(4,s_.2.1.2.1,s_.2.2,0)) (ps:=[(0,.const (.int .i64 4)),(1,.tmp 19),(2,.tmp 22)]) zic J stt77 (.cons (i:=0) oI J (zbi (zz _ _ _)) (.cons (i:=1) (O 19 J) J (zx (zbi (zz _ _ _)) J) (.cons (i:=2) (O 22 J) J (zx (zx (zbi (zz _ _ _)) J) J) .nil))) J J) L fun a s L=>zfp (xs:=[.tmp 23]) 24 L (.cons (O 23 J) .nil) U46 zfk J J (by decide) J J J J fun a s g11 hg_ L=>?_;refine sw 2 (zb (O 24 J) J J) L fun a s L=>sw 3 (zb o_b J J) L fun a s L=>en' (H10 _ _ ?_);subst h;exact wp_ret (zl2 J L J J)
  ·replace h:=h.2 hb_;refine wp_skip ?_;show K2 a s.w;refine H2 _ _ (wp_seq_k fun K12 H12=>?_);obtain ⟨r13,h14,h⟩:=h;refine rg (sw 25 (zc0 (off:=0) (O 1 J) U170 J (zm (zh _ _)) J zfi J J) L fun a s L=>?_);refine sw 26 (zc0 (off:=5) (O 25 J) U68 J (ze (ze (ze (ze (ze (zm (zh _ _)) J) J) J) J) J) J zco J J) L fun a s L=>sw 27 (zt zco (O 26 J) J J) L fun a s L=>sw 28 (zc0 (off:=14) (O 1 J) U170 J (ze (ze (zh _ _) J) J) J ty5 J J) L fun a s L=>sw 29 (zt ty5 (O 28 J) J J) L fun a s L=>sw 30 (zy (zit h14) (xs:=[.tmp 27,.tmp 29]) (.cons (O 27 J) (.cons (O 29 J) .nil)) J J) L fun a s L=>sw 2 (zb (zdg (E:=En.SItem) (N:=s0.w.heap.size) (te:=77)) J J) L fun a s L=>sw 3 (zb (O 30 J) J J) L fun a s L=>en' (H12 _ _ ?_);subst h;exact wp_ret (zl2 J L J J)
theorem zld {s_:Sstep_next} {r_:((List SItem) × Bool)} (h:zg6 s_ r_):Fn Tryz.prog 210 [(Pd.rep En.Sstep_next s_)] (Ro2 En.SItem 77 r_.1 (Pd.rep En.bool r_.2)):=by
 unfold zg6 at h;refine zbx Tryz.func210 J Tryz.ntmps210 (by rfl) (by simp) fun s0 a L=>?_;refine wp_seq_k fun K1 H1=>rg (sw 1 (zcu (O 0 J) J J) L fun a s L=>?_);refine sw 2 (zb (zdg (E:=En.SItem) (N:=s0.w.heap.size) (te:=77)) J J) L fun a s L=>sw 3 (zb o_b J J) L fun a s L=>en' (H1 _ _ ?_);refine wp_seq_k fun K2 H2=>rg (sw 5 (zc0 (off:=10) (O 1 J) U170 J (ze (zm (zh _ _)) J) J zfk J J) L fun a s L=>?_);refine sw 6 (zt zfk (O 5 J) J J) L fun a s L=>zbf En.SItem (z:=(0,0,0,0)) 4 L zic J J J J fun a s g3 hg_ L=>?_;refine zby (L':=[(1,(Pd.ptr En.Sstep_next s_))]) 4 L J (O 6 J) zfk J J J (.k 1 .nil) fun s L=>?_;refine en' (H2 _ _ ?_);refine wp_seq_k fun K4 H4=>?_;obtain ⟨h5,h⟩:=h;refine rg (sw 7 (zbj (off:=2) (O 4 J) U77 J (ze (ze (zm (zh _ _)) J) J) J ty3 J J) L fun a s L=>?_);refine sw 8 (zp ty3 (O 7 J) J J) L fun a s L=>sw 9 (zbk (O 8 J) oI h5 J J) L fun a s L=>sw 10 (zbj (off:=2) (O 4 J) U77 J (ze (ze (zm (zh _ _)) J) J) J ty3 J J) L fun a s L=>zed (L':=[(1,(Pd.ptr En.Sstep_next s_))]) 4 L J (O 10 J) (O 9 J) (zx (zx (zbi (zz _ _ _)) J) J) ty3 J J J (.k 1 .nil) fun s L=>?_;refine en' (H4 _ _ ?_);refine wp_seq_k fun K6 H6=>wp_seq_k fun K7 H7=>?_;obtain ⟨b8,h9,h⟩:=h;refine rg (sw 11 (zbj (off:=2) (O 4 J) U77 J (ze (ze (zm (zh _ _)) J) J) J ty3 J J) L fun a s L=>?_);refine sw 12 (zp ty3 (O 11 J) J J) L fun a s L=>sw 13 (zc0 (off:=0) (O 1 J) U170 J (zm (zh _ _)) J zfi J J) L fun a s L=>sw 14 (zc0 (off:=9) (O 13 J) U68 J (ze (ze (ze (ze (ze (ze (zh _ _) J) J) J) J) J) J) J ty9 J J) L fun a s L=>sw 15 (zt ty9 (O 14 J) J J) L fun a s L=>sw 16 (zlm (O 15 J) U9 J J) L fun a s L=>sw 17 (h9 ▸ (zbt (O 12 J) (O 16 J) J J)) L fun a s L=>en' (H7 _ _ ?_)
 refine cnd L J (fun hb_=>?_) (fun hb_=>?_)
 ·replace h:=h.1 hb_;refine wp_seq_k fun K10 H10=>?_;obtain ⟨c11,h12,h⟩:=h;refine rda zcm 12 [(Pd.ptr En.SNode s_.1),(Pd.ptr En.str s_.1.2.2.2.2.2.2),(Pd.rep En.str s_.1.2.2.2.2.2.2),(Pd.ptr En.SItem s_.2.1),(Pd.ptr (En.int .i64) s_.2.1.2.2.1),(Pi s_.2.1.2.2.1),(Pd.rep (En.int .u8) c11),(Pd.ptr (En.int .u8) s_.2.2),(Pd.rep (En.int .u8) s_.2.2),(Pd.rep En.bool (c11==s_.2.2)),(Pd.row En.SItem s0.w.heap.size 77 none ([]:(List SItem))),(Pd.rep En.bool (c11==s_.2.2))] L (by kernel_rfl) J J ?_ ?_
  ·refine z8.cons (zc0 (off:=0) (O 1 J) U170 J (zm (zh _ _)) J zfi J J) ?_;refine z8.cons (zc0 (off:=9) (O 18 J) U68 J (ze (ze (ze (ze (ze (ze (zh _ _) J) J) J) J) J) J) J ty9 J J) (z8.cons (zt ty9 (O 19 J) J J) ?_);refine z8.cons (zc0 (off:=10) (O 1 J) U170 J (ze (zm (zh _ _)) J) J zfk J J) (z8.cons (zc0 (off:=2) (O 21 J) U77 J (ze (ze (zm (zh _ _)) J) J) J ty3 J J) ?_);refine z8.cons (zt ty3 (O 22 J) J J) (z8.cons (zln (O 20 J) (O 23 J) h12 U9 J J) ?_);refine z8.cons (zc0 (off:=14) (O 1 J) U170 J (ze (ze (zh _ _) J) J) J ty5 J J) (z8.cons (zt ty5 (O 25 J) J J) ?_);refine z8.cons (zbt (O 24 J) (O 26 J) J J) (z8.cons (zb (zdg (E:=En.SItem) (N:=s0.w.heap.size) (te:=77)) J J) ?_);refine z8.cons (zb (O 27 J) J J) ?_;exact z8.nil
  intro a s _ L;refine en' (H10 _ _ ?_);subst h;exact wp_ret (zl2 J L J J)
 ·replace h:=h.2 hb_;refine wp_skip ?_;show K6 a s.w;refine H6 _ _ (wp_seq_k fun K13 H13=>?_);obtain ⟨c16,h17,h⟩:=h;obtain ⟨K14,H14,nK14,L⟩:=L.mark 999983;have lt15:∀k,(some g3)=some k→k<K14:=by rw [H14];exact L.blt 4 rfl
  refine rda zcm 14 [(Pd.rep En.SItem (s_.2.1.1,s_.2.1.2.1,s_.2.1.2.2.1+1,s_.2.1.2.2.2)),(Pd.erow En.SItem s0.w.heap.size K14 77 [(s_.2.1.1,s_.2.1.2.1,s_.2.1.2.2.1+1,s_.2.1.2.2.2)]),(Pd.ptr En.SNode s_.1),(Pd.ptr En.str s_.1.2.2.2.2.2.2),(Pd.rep En.str s_.1.2.2.2.2.2.2),(Pd.ptr En.SItem s_.2.1),(Pd.ptr (En.int .i64) s_.2.1.2.2.1),(Pi s_.2.1.2.2.1),(Pd.rep (En.int .u8) c16),(Pd.ptr (En.int .u8) s_.2.2),(Pd.rep (En.int .u8) s_.2.2),(Pd.rep En.bool (c16==s_.2.2)),(Pd.erow En.SItem s0.w.heap.size K14 77 [(s_.2.1.1,s_.2.1.2.1,s_.2.1.2.2.1+1,s_.2.1.2.2.2)]),(Pd.rep En.bool (c16==s_.2.2))] L (by kernel_rfl) J J ?_ ?_
  ·refine z8.cons (zbr zfk (O 4 J) J J) ?_;refine z8.cons (t_litx (xs:=[.tmp 28]) (K:=K14) (m:=999983) J nK14 (.cons (O 28 J) .nil) U46 zfk J J (by decide) J J) (z8.cons (zc0 (off:=0) (O 1 J) U170 J (zm (zh _ _)) J zfi J J) ?_);refine z8.cons (zc0 (off:=9) (O 30 J) U68 J (ze (ze (ze (ze (ze (ze (zh _ _) J) J) J) J) J) J) J ty9 J J) (z8.cons (zt ty9 (O 31 J) J J) ?_);refine z8.cons (zc0 (off:=10) (O 1 J) U170 J (ze (zm (zh _ _)) J) J zfk J J) (z8.cons (zc0 (off:=2) (O 33 J) U77 J (ze (ze (zm (zh _ _)) J) J) J ty3 J J) ?_);refine z8.cons (zt ty3 (O 34 J) J J) (z8.cons (zln (O 32 J) (O 35 J) h17 U9 J J) ?_);refine z8.cons (zc0 (off:=14) (O 1 J) U170 J (ze (ze (zh _ _) J) J) J ty5 J J) (z8.cons (zt ty5 (O 37 J) J J) ?_);refine z8.cons (zbt (O 36 J) (O 38 J) J J) (z8.cons (zb (O 29 J) J J) ?_);refine z8.cons (zb (O 39 J) J J) ?_;exact z8.nil
  intro a s _ L;obtain ⟨og18,hg_,L⟩:=L.openr 2 rfl;have d19:Dis og18 (some g3):=Dis.new hg_ lt15;refine en' (H13 _ _ ?_);subst h;exact wp_ret (zl2 J L J J)
theorem zlf {s_:Sstep_next} {r_:((List SItem) × Bool)} (h:zg8 s_ r_):Fn Tryz.prog 207 [(Pd.rep En.Sstep_next s_)] (Ro2 En.SItem 77 r_.1 (Pd.rep En.bool r_.2)):=by
 unfold zg8 at h;refine zbx Tryz.func207 J Tryz.ntmps207 (by rfl) (by simp) fun s0 a L=>?_;refine wp_seq_k fun K1 H1=>rg (sw 1 (zcu (O 0 J) J J) L fun a s L=>?_);refine sw 2 (zb (zdg (E:=En.SItem) (N:=s0.w.heap.size) (te:=77)) J J) L fun a s L=>sw 3 (zb o_b J J) L fun a s L=>en' (H1 _ _ ?_);refine wp_seq_k fun K2 H2=>?_;obtain ⟨h3,h4,r5,h6,h⟩:=h;refine rg (sw 4 (zc0 (off:=0) (O 1 J) U170 J (zm (zh _ _)) J zfi J J) L fun a s L=>?_);refine sw 5 (zt zfi (O 4 J) J J) L fun a s L=>sw 6 (zc0 (off:=10) (O 1 J) U170 J (ze (zm (zh _ _)) J) J zfk J J) L fun a s L=>sw 7 (zc0 (off:=2) (O 6 J) U77 J (ze (ze (zm (zh _ _)) J) J) J ty3 J J) L fun a s L=>sw 8 (zt ty3 (O 7 J) J J) L fun a s L=>sw 9 (zk3 oI (O 8 J) h3 J J) L fun a s L=>sw 10 (zc0 (off:=14) (O 1 J) U170 J (ze (ze (zh _ _) J) J) J ty5 J J) L fun a s L=>sw 11 (zt ty5 (O 10 J) J J) L fun a s L=>sw 12 (t_up (O 11 J) (by decide) U5 U3 J J) L fun a s L=>sw 13 (zbk (O 9 J) (O 12 J) h4 J J) L fun a s L=>?_;refine zfx 14 L (zkk h6) (xs:=[.tmp 5,.tmp 13]) (.cons (O 5 J) (.cons (O 13 J) .nil)) J J J J fun a s og7 hg_ L=>?_;refine sw 2 (zb (O 14 J) J J) L fun a s L=>sw 3 (zb o_b J J) L fun a s L=>en' (H2 _ _ ?_);subst h;exact wp_ret (zl2 J L J J)
theorem dyn0_ok {f_:Option Nat} {x0_:Sstep_next} {r_:((List SItem) × Bool)} (h:dyn0 f_ x0_ r_):∃f,f_=some f∧Fn Tryz.prog f [Pd.rep En.Sstep_next x0_] (Rq (Pd.tup2 (Pd.rep (En.slice En.SItem) r_.1) (Pd.rep En.bool r_.2))):=by
 rcases h with ⟨e,h⟩ | ⟨e,h⟩ | ⟨e,h⟩
 ·exact ⟨209,e,((zle h).frz2 (Pd.rep_stable _ _)).tup⟩
 ·exact ⟨210,e,((zld h).frz2 (Pd.rep_stable _ _)).tup⟩
 ·exact ⟨207,e,((zlf h).frz2 (Pd.rep_stable _ _)).tup⟩
theorem next_Read_ok {d_:SDesc} {s_:(List SItem)} {cv_:Int} {r_:((List SItem) × Bool)} (h:zkl d_ s_ cv_ r_):Fn Tryz.prog 90 [(Pd.rep En.SDesc d_),(Pd.rep (En.slice En.SItem) s_),(Pd.rep (En.int .u8) cv_)] (Ro2 En.SItem 77 r_.1 (Pd.rep En.bool r_.2)):=by
 unfold zkl at h;refine zbx Tryz.func90 J Tryz.ntmps90 (by rfl) (by simp) fun s0 a L=>?_;refine wp_seq_k fun K1 H1=>rg (sw 3 (zcu (O 0 J) J J) L fun a s L=>?_);refine sw 6 (zb (zdg (E:=En.SItem) (N:=s0.w.heap.size) (te:=77)) J J) L fun a s L=>sw 7 (zb o_b J J) L fun a s L=>en' (H1 _ _ ?_);refine wp_seq_k fun K2 H2=>wp_seq_k fun K3 H3=>rg (sw 14 (zd (O 1 J) J J) L fun a s L=>?_);refine sw 15 (zc8 (O 14 J) U47 J J) L fun a s L=>sw 16 (zbt (O 15 J) oI J J) L fun a s L=>en' (H3 _ _ ?_);refine cnd L J (fun hb_=>?_) (fun hb_=>?_)
 ·replace h:=h.1 hb_;refine wp_seq_k fun K4 H4=>rg (sw 6 (zb (zdg (E:=En.SItem) (N:=s0.w.heap.size) (te:=77)) J J) L fun a s L=>?_);refine sw 7 (zb o_b J J) L fun a s L=>en' (H4 _ _ ?_);subst h;exact wp_ret (zl2 J L J J)
 ·replace h:=h.2 hb_;refine wp_skip ?_;show K2 a s.w;refine H2 _ _ (wp_seq_k fun K5 H5=>?_);obtain ⟨h6,r7,h8,h⟩:=h;refine rg (sw 18 (zd (O 1 J) J J) L fun a s L=>?_);refine sw 19 (t_from (O 18 J) oI h6 U47 zfk J J) L fun a s L=>sw 20 (zy (((zqt h8).frz2 (Pd.rep_stable _ _)).tup) (xs:=[.tmp 19]) (.cons (O 19 J) .nil) J J) L fun a s L=>sw 17 (zd (O 20 J) J J) L fun a s L=>sw 21 (zj6 (O 17 J) J J) L fun a s L=>sw 22 (zie (O 17 J) J J) L fun a s L=>sw 8 (zb (O 21 J) J J) L fun a s L=>sw 9 (zb (O 22 J) J J) L fun a s L=>en' (H5 _ _ ?_);refine wp_seq_k fun K9 H9=>?_;obtain ⟨e10,h11,h⟩:=h;refine rda zcm 11 [(Pd.rep (En.fmap (En.int .i64) kvI64 En.fid) gfm0),(Pd.rep (En.slice En.SItem) s_),(Pd.ptr En.SItem e10),(Pd.ptr (En.int .i64) e10.1),(Pi e10.1),(Pd.tup2 (Pd.rep En.fid (zea gfm0 e10.1 none)) (Pd.rep En.bool (zhr gfm0 e10.1))),(Pd.tup2 (Pd.rep En.fid (zea gfm0 e10.1 none)) (Pd.rep En.bool (zhr gfm0 e10.1))),(Pd.rep En.fid (zea gfm0 e10.1 none)),(Pd.rep En.bool (zhr gfm0 e10.1)),(Pd.rep En.fid (zea gfm0 e10.1 none)),(Pd.rep En.bool (zhr gfm0 e10.1))] L (by kernel_rfl) J J ?_ ?_
  ·refine z8.cons (zt (⟨⟨_,_,J,J,J,J,by decide⟩,_,J,J⟩:Ty Tryz.prog 167 (En.fmap (En.int .i64) kvI64 En.fid)) (o_gm (g:=0) (by simp [gmap])) J J) ?_;refine z8.cons (zd (O 1 J) J J) (z8.cons (zde (O 25 J) oI h11 U47 zfk J J) ?_);refine z8.cons (zc0 (off:=0) (O 26 J) U77 J (zm (zh _ _)) J ty3 J J) (z8.cons (zt ty3 (O 27 J) J J) ?_);refine z8.cons (t_mgetfok (z:=none) (O 24 J) (O 28 J) U167 (key_i64 U3) (⟨_,[.nilFunc],J,by rfl,fun _ _=>J⟩:TyV Tryz.prog 165 En.fid none) J J) (z8.cons (zd (O 29 J) J J) ?_);refine z8.cons (zj6 (O 23 J) J J) (z8.cons (zie (O 23 J) J J) ?_);refine z8.cons (zb (O 30 J) J J) (z8.cons (zb (O 31 J) J J) ?_);exact z8.nil
  intro a s _ L;refine en' (H9 _ _ ?_);refine wp_seq_k fun K12 H12=>wp_seq_k fun K13 H13=>rg (sw 32 (zd (O 9 J) J J) L fun a s L=>?_);refine sw 33 (zia (O 32 J) J J) L fun a s L=>sw 34 (zd (O 33 J) J J) L fun a s L=>sw 35 (zbg J J J (fun hc_=>zd (O 11 J) J J)) L fun a s L=>sw 36 (zbg J J J (fun hc_=>zia (o_w hc_ 35 J) J J)) L fun a s L=>sw 37 (zox (O 34 J) (fun hc2_=>(o_w hc2_ 36 J)) J J) L fun a s L=>en' (H13 _ _ ?_);refine cnd L J (fun hb_=>?_) (fun hb_=>?_)
  ·replace h:=h.1 hb_;refine wp_seq_k fun K14 H14=>rg (sw 6 (zb (zdg (E:=En.SItem) (N:=s0.w.heap.size) (te:=77)) J J) L fun a s L=>?_);refine sw 7 (zb o_b J J) L fun a s L=>en' (H14 _ _ ?_);subst h;exact wp_ret (zl2 J L J J)
  ·replace h:=h.2 hb_;refine wp_skip ?_;show K12 a s.w;refine H12 _ _ (wp_seq_k fun K15 H15=>?_);obtain ⟨e16,h17,e18,h19,e20,h21,r22,h23,h⟩:=h;refine rda zcm 20 [(Pd.rep En.fid (zea gfm0 e10.1 none)),(Pd.ptr (En.slice En.SNode) d_),(Pd.rep (En.slice En.SNode) d_),(Pd.rep (En.slice En.SItem) s_),(Pd.ptr En.SItem e16),(Pd.ptr (En.int .i64) e16.2.1),(Pi e16.2.1),(Pd.ptr En.SNode e18),(Pd.rep En.SNode e18),(Pd.rep (En.slice En.SItem) s_),(Pd.ptr En.SItem e20),(Pd.rep En.SItem e20),(Pd.rep (En.int .u8) cv_),(Pd.rep En.Sstep_next (e18,e20,cv_)),(Pd.tup2 (Pd.rep (En.slice En.SItem) r22.1) (Pd.rep En.bool r22.2)),(Pd.tup2 (Pd.rep (En.slice En.SItem) r22.1) (Pd.rep En.bool r22.2)),(Pd.rep (En.slice En.SItem) r22.1),(Pd.rep En.bool r22.2),(Pd.rep (En.slice En.SItem) r22.1),(Pd.rep En.bool r22.2)] L (by kernel_rfl) J J ?_ ?_
   ·refine z8.cons (zd (O 10 J) J J) ?_;refine z8.cons (zc0 (off:=0) (O 3 J) U24 J (zbw (zh _ _)) J zfj J J) (z8.cons (zt zfj (O 40 J) J J) ?_);refine z8.cons (zd (O 1 J) J J) (z8.cons (zde (O 42 J) oI h17 U47 zfk J J) ?_);refine z8.cons (zc0 (off:=1) (O 43 J) U77 J (ze (zm (zh _ _)) J) J ty3 J J) (z8.cons (zt ty3 (O 44 J) J J) ?_);refine z8.cons (zde (O 41 J) (O 45 J) h19 U22 zfi J J) (z8.cons (zt zfi (O 46 J) J J) ?_);refine z8.cons (zd (O 1 J) J J) (z8.cons (zde (O 48 J) oI h21 U47 zfk J J) ?_);refine z8.cons (zt zfk (O 49 J) J J) (z8.cons (zd (O 2 J) J J) ?_);refine z8.cons (zcb (x:=(e18,e20,cv_)) (ps:=[(0,.tmp 47),(1,.tmp 50),(2,.tmp 51)]) tyz170 J stt170 (.cons (i:=0) (O 47 J) J (zbi (zz _ _ _)) (.cons (i:=1) (O 50 J) J (zx (zbi (zz _ _ _)) J) (.cons (i:=2) (O 51 J) J (zx (zx (zz _ _ _) J) J) .nil))) J J) (z8.cons (t_callid (dyn0_ok h23) (O 39 J) (xs:=[.tmp 52]) (.cons (O 52 J) .nil) J J) ?_);refine z8.cons (zd (O 53 J) J J) (z8.cons (zj6 (O 38 J) J J) ?_);refine z8.cons (zie (O 38 J) J J) (z8.cons (zb (O 54 J) J J) ?_);refine z8.cons (zb (O 55 J) J J) ?_;exact z8.nil
   intro a s _ L;refine en' (H15 _ _ ?_);refine wp_seq_k fun K24 H24=>wp_seq_k fun K25 H25=>rg (sw 56 (zd (O 13 J) J J) L fun a s L=>?_);refine sw 57 (zia (O 56 J) J J) L fun a s L=>en' (H25 _ _ ?_);refine cnd L J (fun hb_=>?_) (fun hb_=>?_)
   ·replace h:=h.1 hb_;refine wp_seq_k fun K26 H26=>rg (sw 6 (zb (zdg (E:=En.SItem) (N:=s0.w.heap.size) (te:=77)) J J) L fun a s L=>?_);refine sw 7 (zb o_b J J) L fun a s L=>en' (H26 _ _ ?_);subst h;exact wp_ret (zl2 J L J J)
   ·replace h:=h.2 hb_;refine wp_skip ?_;show K24 a s.w;refine H24 _ _ (wp_seq_k fun K27 H27=>?_);obtain ⟨r28,h29,h⟩:=h;refine rg (sw 58 (zd (O 12 J) J J) L fun a s L=>?_);refine sw 59 (zd (O 8 J) J J) L fun a s L=>sw 60 (zec (xs:=[.tmp 58,.tmp 59]) (.cons (O 58 J) (.cons (O 59 J) .nil)) U25 zfv J J (by decide) J J) L fun a s L=>zfx 61 L (zdl h29) (xs:=[.tmp 60]) (.cons (O 60 J) .nil) J J J J fun a s og30 hg_ L=>?_;refine sw 6 (zb (O 61 J) J J) L fun a s L=>sw 7 (zb o_b J J) L fun a s L=>en' (H27 _ _ ?_);subst h;exact wp_ret (zl2 J L J J)
theorem next_On_ok {d_:SDesc} {s_:(List SItem)} {cv_:Int} {r_:(List SBranch)} (h:zbu d_ s_ cv_ r_):Fn Tryz.prog 55 [(Pd.rep En.SDesc d_),(Pd.rep (En.slice En.SItem) s_),(Pd.rep (En.int .u8) cv_)] (Ro En.SBranch 82 r_):=by
 unfold zbu at h;refine zbx Tryz.func55 J Tryz.ntmps55 (by rfl) (by simp) fun s0 a L=>?_;refine wp_seq_k fun K1 H1=>rg (sw 3 (zcu (O 0 J) J J) L fun a s L=>?_);refine sw 6 (zb (zdg (E:=En.SBranch) (N:=s0.w.heap.size) (te:=82)) J J) L fun a s L=>en' (H1 _ _ ?_);refine wp_seq_k fun K2 H2=>rg (zi1 15 En.str kvStr (En.int .i64) L J J J J fun a s g3 hg_ L=>?_);refine sw 7 (zb (O 15 J) J J) L fun a s L=>en' (H2 _ _ ?_);refine wp_seq_k fun K4 H4=>rg (sw 8 (zb (zdg (E:=En.SBranch) (N:=s0.w.heap.size) (te:=82)) J J) L fun a s L=>?_);refine en' (H4 _ _ ?_);refine wp_seq_k fun K5 H5=>wp_seq_k fun K6 H6=>?_;obtain ⟨r7,h8,h⟩:=h;refine rg (sw 16 (zt zfl (O 3 J) J J) L fun a s L=>?_);refine sw 17 (zd (O 1 J) J J) L fun a s L=>sw 18 (zy ((zha h8).frz) (xs:=[.tmp 16,.tmp 17]) (.cons (O 16 J) (.cons (O 17 J) .nil)) J J) L fun a s L=>sw 19 (zc8 (O 18 J) U79 J J) L fun a s L=>sw 20 (zd oI J J) L fun a s L=>en' (H6 _ _ ?_);refine wp_block ?_;have J13:∀(many9:(List (Str × Int))) (out11:(List SBranch)) (og10:Option Nat) (og12:Option Nat) (a:Act) (s:St),Has N0 76 s0 a s [(7,(Pd.map En.str kvStr (En.int .i64) s0.w.heap.size og10 many9)),(8,(Pd.row En.SBranch s0.w.heap.size 82 og12 out11))]→Dis og10 og12→((zbu.j2 r_) many9 out11)→K5 a s.w:=by
  intro many9 out11 og10 og12 a s L d14 h;unfold zbu.j2 at h;show K5 a s.w;refine H5 _ _ (wp_seq_k fun K15 H15=>?_);refine wp_seq_k fun K16 H16=>rg (sw 55 (zd (O 8 J) J J) L fun a s L=>?_);refine sw 56 (zjl (O 55 J) U79 J J) L fun a s L=>sw 57 (zd oI J J) L fun a s L=>en' (H16 _ _ ?_);refine wp_block ?_;have J19:∀(out17:(List SBranch)) (og18:Option Nat) (a:Act) (s:St),Has N0 76 s0 a s [(8,(Pd.row En.SBranch s0.w.heap.size 82 og18 out17))]→((zbu.j1 r_) out17)→K15 a s.w:=by
   intro out17 og18 a s L h;unfold zbu.j1 at h;show K15 a s.w;refine H15 _ _ (wp_seq_k fun K20 H20=>?_);obtain ⟨r21,h22,h⟩:=h;refine rg (sw 73 (zd (O 8 J) J J) L fun a s L=>?_);refine zj8 (L':=[(8,(Pd.row En.SBranch s0.w.heap.size 82 og18 r21))]) 74 (fun v0=>zk9 v0 h22) L (O 73 J) (zs:=[.func 92]) (.cons o_isf .nil) J J J J (.turn (t:=8) J .nil) fun a s L=>?_;refine en' (H20 _ _ ?_);refine wp_seq_k fun K23 H23=>rg (sw 75 (zd (O 8 J) J J) L fun a s L=>?_);refine sw 6 (zb (O 75 J) J J) L fun a s L=>en' (H23 _ _ ?_);subst h;exact wp_ret (zjn J L J)
  obtain ⟨k27,h⟩:=h;refine lpg (fun k28 a s=>∃(out24:(List SBranch)) (v26:Int) (og25:Option Nat),Has N0 76 s0 a s [(7,(Pd.map En.str kvStr (En.int .i64) s0.w.heap.size og10 many9)),(8,(Pd.row En.SBranch s0.w.heap.size 82 og25 out24)),(56,(Pi (out11.length:Int))),(57,(Pi v26))]∧Dis og10 og25∧zbu.l1 many9 out11 (zbu.j1 r_) k28 out24 v26) k27 ⟨out11,0,og12,L.keep (.cons (t:=7) J (fun _ _ h_=>h_) (.cons (t:=8) J (fun _ _ h_=>h_) (.k 56 (.k 57 .nil)))),d14,h⟩ ?_;rintro k28 a s ⟨out24,v26,og25,L,d30,h⟩ KL29 hKL29;cases k28 with
  | zero=>exact h.elim
  | succ k28=>
  unfold zbu.l1 at h;refine wp_seq_k fun K31 H31=>rg (sw 58 (zbz (O 57 J) (O 56 J) J J) L fun a s L=>?_);refine en' (H31 _ _ ?_);refine wp_seq_k fun K32 H32=>cnd L J (fun hb_=>?_) (fun hb_=>?_)
  ·replace h:=h.1 hb_;refine wp_skip ?_;show K32 a s.w;refine H32 _ _ (wp_seq_k fun K33 H33=>?_);refine wp_block (wp_seq_k fun K34 H34=>?_);refine rg (sw 59 (zd (O 57 J) J J) L fun a s L=>?_);refine sw 14 (zb (O 59 J) J J) L fun a s L=>en' (H34 _ _ ?_);obtain ⟨e35,h36,r37,h38,e39,h40,h⟩:=h;refine rg (sw 60 (zd (O 8 J) J J) L fun a s L=>?_);refine sw 61 (zd (O 14 J) J J) L fun a s L=>sw 62 (zd (O 7 J) J J) L fun a s L=>sw 63 (zd (O 8 J) J J) L fun a s L=>sw 64 (zd (O 14 J) J J) L fun a s L=>sw 65 (zca (O 63 J) (O 64 J) h36 U79 zmm J J) L fun a s L=>sw 66 (t_fao (off:=0) (O 65 J) U82 J (zm (zh _ _)) J zfv J J) L fun a s L=>sw 67 (zp zfv (O 66 J) J J) L fun a s L=>sw 68 (zy (zh0 h38) (xs:=[.tmp 67]) (.cons (O 67 J) .nil) J J) L fun a s L=>sw 69 (zoy (O 62 J) (O 68 J) U124 (zei U9) tyv3 J J) L fun a s L=>?_;refine sw 70 (zca (O 60 J) (O 61 J) h40 U79 zmm J J) L fun a s L=>sw 71 (t_fao (off:=1) (O 70 J) U82 J (ze (zh _ _) J) J ty3 J J) L fun a s L=>st_stor (L':=[(7,(Pd.map En.str kvStr (En.int .i64) s0.w.heap.size og10 many9)),(8,(Pd.row En.SBranch s0.w.heap.size 82 og25 (out24.set (v26:Int).toNat (e39.1,(zea many9 r37 0))))),(56,(Pi (out11.length:Int))),(57,(Pi v26))]) (off:=1) 8 L J h40 (O 71 J) (O 69 J) (zx (zz _ _ _) J) ty3 J J J (.cons (t:=7) J (Dis.ow d30) (.turn (t:=8) J (.k 56 (.k 57 .nil)))) fun s L=>?_;refine en' (H33 _ _ ?_);obtain ⟨h41,h⟩:=h;refine rg (sw 72 (zbk (O 57 J) oI h41 J J) L fun a s L=>?_);refine sw 57 (zd (O 72 J) J J) L fun a s L=>en' ?_;exact hKL29 k28 a s (Nat.lt_succ_self _) ⟨(out24.set (v26:Int).toNat (e39.1,(zea many9 r37 0))),(v26+1),og25,L.keep (.cons (t:=7) J (fun _ _ h_=>h_) (.cons (t:=8) J (fun _ _ h_=>h_) (.k 56 (.k 57 .nil)))),d30,h⟩
  ·replace h:=h.2 hb_;refine wp_exit ?_;exact J19 out24 og25 a s (L.keep (.cons (t:=8) J (fun _ _ h_=>h_) .nil)) h
 obtain ⟨k47,h⟩:=h;refine lpg (fun k48 a s=>∃(many42:(List (Str × Int))) (out44:(List SBranch)) (v46:Int) (og43:Option Nat) (og45:Option Nat),Has N0 76 s0 a s [(2,(Pd.rep (En.int .u8) cv_)),(3,(Pd.ptr En.SDesc d_)),(7,(Pd.map En.str kvStr (En.int .i64) s0.w.heap.size og43 many42)),(8,(Pd.row En.SBranch s0.w.heap.size 82 og45 out44)),(18,(Pd.rep (En.slice En.SBranch) r7)),(19,(Pi (r7.length:Int))),(20,(Pi v46))]∧Dis og43 og45∧zbu.l2 d_ cv_ r7 (zbu.j2 r_) k48 many42 out44 v46) k47 ⟨([]:(List (Str × Int))),([]:(List SBranch)),0,(some g3),none,L.keep (.k 2 (.k 3 (.cons (t:=7) J (fun _ _ h_=>h_) (.cons (t:=8) J (fun _ _ h_=>h_) (.k 18 (.k 19 (.k 20 .nil))))))),(Dis.symm Dis.none),h⟩ ?_;rintro k48 a s ⟨many42,out44,v46,og43,og45,L,d50,h⟩ KL49 hKL49;cases k48 with
 | zero=>exact h.elim
 | succ k48=>
 unfold zbu.l2 at h;refine wp_seq_k fun K51 H51=>rg (sw 21 (zbz (O 20 J) (O 19 J) J J) L fun a s L=>?_);refine en' (H51 _ _ ?_);refine wp_seq_k fun K52 H52=>cnd L J (fun hb_=>?_) (fun hb_=>?_)
 ·replace h:=h.1 hb_;refine wp_skip ?_;show K52 a s.w;refine H52 _ _ (wp_seq_k fun K53 H53=>?_);refine wp_block (wp_seq_k fun K54 H54=>?_);obtain ⟨e55,h56,h⟩:=h;refine rg (sw 22 (zde (O 18 J) (O 20 J) h56 U79 zmm J J) L fun a s L=>?_);refine sw 23 (zt zmm (O 22 J) J J) L fun a s L=>?_;have lt_d59:=L.rlt 8 rfl;have lt_d58:=L.mlt 7 rfl;refine zbf En.SBranch (z:=([],0)) 10 L zn2 J J J J fun a s g57 hg_ L=>?_;have d58:Dis (some g57) og43:=Dis.newg hg_ lt_d58;have d59:Dis (some g57) og45:=Dis.newg hg_ lt_d59;refine zby (L':=[(2,(Pd.rep (En.int .u8) cv_)),(3,(Pd.ptr En.SDesc d_)),(7,(Pd.map En.str kvStr (En.int .i64) s0.w.heap.size og43 many42)),(8,(Pd.row En.SBranch s0.w.heap.size 82 og45 out44)),(18,(Pd.rep (En.slice En.SBranch) r7)),(19,(Pi (r7.length:Int))),(20,(Pi v46))]) 10 L J (O 23 J) zmm J J J (.k 2 (.k 3 (.cons (t:=7) J (Dis.ow (Dis.symm d58)) (.cons (t:=8) J (Dis.ow (Dis.symm d59)) (.k 18 (.k 19 (.k 20 .nil))))))) fun s L=>?_;refine en' (H54 _ _ ?_);refine wp_seq_k fun K60 H60=>?_;obtain ⟨r61,h62,h⟩:=h;refine rg (sw 25 (zt zfl (O 3 J) J J) L fun a s L=>?_);refine sw 26 (zbj (off:=0) (O 10 J) U82 J (zm (zh _ _)) J zfv J J) L fun a s L=>sw 27 (zp zfv (O 26 J) J J) L fun a s L=>sw 28 (zd (O 2 J) J J) L fun a s L=>sw 29 (zy (((next_Read_ok h62).frz2 (Pd.rep_stable _ _)).tup) (xs:=[.tmp 25,.tmp 27,.tmp 28]) (.cons (O 25 J) (.cons (O 27 J) (.cons (O 28 J) .nil))) J J) L fun a s L=>sw 24 (zd (O 29 J) J J) L fun a s L=>sw 30 (zj6 (O 24 J) J J) L fun a s L=>sw 31 (zie (O 24 J) J J) L fun a s L=>sw 11 (zb (O 30 J) J J) L fun a s L=>sw 12 (zb (O 31 J) J J) L fun a s L=>?_
  refine en' (H60 _ _ ?_);refine wp_seq_k fun K63 H63=>wp_seq_k fun K64 H64=>rg (sw 32 (zd (O 12 J) J J) L fun a s L=>?_);refine sw 33 (zia (O 32 J) J J) L fun a s L=>en' (H64 _ _ ?_);refine cnd L J (fun hb_=>?_) (fun hb_=>?_)
  ·replace h:=h.1 hb_;refine wp_exit ?_;show K53 a s.w;refine H53 _ _ ?_;obtain ⟨h65,h⟩:=h;refine rg (sw 54 (zbk (O 20 J) oI h65 J J) L fun a s L=>?_);refine sw 20 (zd (O 54 J) J J) L fun a s L=>en' ?_;exact hKL49 k48 a s (Nat.lt_succ_self _) ⟨many42,out44,(v46+1),og43,og45,L.keep (.k 2 (.k 3 (.cons (t:=7) J (fun _ _ h_=>h_) (.cons (t:=8) J (fun _ _ h_=>h_) (.k 18 (.k 19 (.k 20 .nil))))))),d50,h⟩
  ·replace h:=h.2 hb_;refine wp_skip ?_;show K63 a s.w;refine H63 _ _ (wp_seq_k fun K66 H66=>?_);obtain ⟨r67,h68,h⟩:=h;refine rg (sw 34 (zd (O 11 J) J J) L fun a s L=>?_);refine sw 35 (zy (zh0 h68) (xs:=[.tmp 34]) (.cons (O 34 J) .nil) J J) L fun a s L=>sw 13 (zb (O 35 J) J J) L fun a s L=>en' (H66 _ _ ?_);refine wp_seq_k fun K69 H69=>wp_seq_k fun K70 H70=>rg (sw 36 (zd (O 7 J) J J) L fun a s L=>?_);refine sw 37 (zd (O 13 J) J J) L fun a s L=>sw 38 (zoy (O 36 J) (O 37 J) U124 (zei U9) tyv3 J J) L fun a s L=>sw 39 (zbt (O 38 J) oI J J) L fun a s L=>en' (H70 _ _ ?_);have J73:∀(out71:(List SBranch)) (og72:Option Nat) (a:Act) (s:St),Has N0 76 s0 a s [(2,(Pd.rep (En.int .u8) cv_)),(3,(Pd.ptr En.SDesc d_)),(7,(Pd.map En.str kvStr (En.int .i64) s0.w.heap.size og43 many42)),(8,(Pd.row En.SBranch s0.w.heap.size 82 og72 out71)),(10,(Pd.box En.SBranch s0.w.heap.size g57 e55)),(13,(Pd.rep En.str r67)),(18,(Pd.rep (En.slice En.SBranch) r7)),(19,(Pi (r7.length:Int))),(20,(Pi v46))]→Dis og43 og72→Dis og43 (some g57)→Dis og72 (some g57)→((zbu.j3 (zbu.l2 d_ cv_ r7 (zbu.j2 r_) k48) many42 v46 e55 r67) out71)→K69 a s.w:=by
    intro out71 og72 a s L d74 d75 d76 h;unfold zbu.j3 at h;show K69 a s.w;refine H69 _ _ ?_;obtain ⟨h77,h⟩:=h;refine rg (sw 45 (zd (O 7 J) J J) L fun a s L=>?_);refine sw 46 (zd (O 13 J) J J) L fun a s L=>sw 47 (zd (O 7 J) J J) L fun a s L=>sw 48 (zd (O 13 J) J J) L fun a s L=>sw 49 (zoy (O 47 J) (O 48 J) U124 (zei U9) tyv3 J J) L fun a s L=>sw 50 (zbj (off:=1) (O 10 J) U82 J (ze (zh _ _) J) J ty3 J J) L fun a s L=>sw 51 (zp ty3 (O 50 J) J J) L fun a s L=>sw 52 (zbk (O 49 J) (O 51 J) h77 J J) L fun a s L=>sw 53 (zpn (O 52 J) oI J J) L fun a s L=>zgs (L':=[(2,(Pd.rep (En.int .u8) cv_)),(3,(Pd.ptr En.SDesc d_)),(7,(Pd.map En.str kvStr (En.int .i64) s0.w.heap.size og43 (zfa many42 r67 (min ((zea many42 r67 0)+e55.2) 2)))),(8,(Pd.row En.SBranch s0.w.heap.size 82 og72 out71)),(18,(Pd.rep (En.slice En.SBranch) r7)),(19,(Pi (r7.length:Int))),(20,(Pi v46))]) L (O 45 J) (O 46 J) (O 53 J) U124 (zei U9) (.inl J) J J (.k 2 (.k 3 (.turn (t:=7) J (.cons (t:=8) J (Dis.ow (Dis.symm d74)) (.k 18 (.k 19 (.k 20 .nil))))))) fun s L=>?_;refine en' (H53 _ _ ?_);obtain ⟨h78,h⟩:=h;refine rg (sw 54 (zbk (O 20 J) oI h78 J J) L fun a s L=>?_);refine sw 20 (zd (O 54 J) J J) L fun a s L=>en' ?_;exact hKL49 k48 a s (Nat.lt_succ_self _) ⟨(zfa many42 r67 (min ((zea many42 r67 0)+e55.2) 2)),out71,(v46+1),og43,og72,L.keep (.k 2 (.k 3 (.cons (t:=7) J (fun _ _ h_=>h_) (.cons (t:=8) J (fun _ _ h_=>h_) (.k 18 (.k 19 (.k 20 .nil))))))),d74,h⟩
   refine cnd L J (fun hb_=>?_) (fun hb_=>?_)
   ·obtain ⟨h79,h⟩:=h.1 hb_;refine rg (sw 40 (zd (O 8 J) J J) L fun a s L=>?_);refine sw 41 (zd (O 11 J) J J) L fun a s L=>sw 42 (zcb (x:=(r61.1,0)) (ps:=[(0,.tmp 41)]) zn2 J stt82 (.cons (i:=0) (O 41 J) J (zbi (zz _ _ _)) .nil) J J) L fun a s L=>sw 43 (zec (xs:=[.tmp 42]) (.cons (O 42 J) .nil) U79 zmm J J (by decide) J J) L fun a s L=>?_;have lt_og80_0:=L.mlt 7 rfl;have lt_og80_1:=L.blt 10 rfl;refine zev (L':=[(2,(Pd.rep (En.int .u8) cv_)),(3,(Pd.ptr En.SDesc d_)),(7,(Pd.map En.str kvStr (En.int .i64) s0.w.heap.size og43 many42)),(10,(Pd.box En.SBranch s0.w.heap.size g57 e55)),(13,(Pd.rep En.str r67)),(18,(Pd.rep (En.slice En.SBranch) r7)),(19,(Pi (r7.length:Int))),(20,(Pi v46))]) 44 L (O 40 J) (O 43 J) U79 zmm h79 J J J J (.k 2 (.k 3 (.cons (t:=7) J (Dis.ow d50) (.cons (t:=10) J (Dis.bx d59) (.k 13 (.k 18 (.k 19 (.k 20 .nil)))))))) fun a s og80 hg_ L=>?_;have d81:Dis og80 og43:=Dis.app hg_ (Dis.symm d50) lt_og80_0;have d82:Dis og80 (some g57):=Dis.app hg_ (Dis.symm d59) lt_og80_1;refine sw 8 (zb (O 44 J) J J) L fun a s L=>en' ?_;exact J73 (out44++[(r61.1,0)]) og80 a s (L.keep (.k 2 (.k 3 (.cons (t:=7) J (fun _ _ h_=>h_) (.cons (t:=8) J (fun _ _ h_=>h_) (.cons (t:=10) J (fun _ _ h_=>h_) (.k 13 (.k 18 (.k 19 (.k 20 .nil)))))))))) (Dis.symm d81) (Dis.symm d58) d82 h
   ·replace h:=h.2 hb_;refine wp_skip ?_;exact J73 out44 og45 a s (L.keep (.k 2 (.k 3 (.cons (t:=7) J (fun _ _ h_=>h_) (.cons (t:=8) J (fun _ _ h_=>h_) (.cons (t:=10) J (fun _ _ h_=>h_) (.k 13 (.k 18 (.k 19 (.k 20 .nil)))))))))) d50 (Dis.symm d58) (Dis.symm d59) h
 ·replace h:=h.2 hb_;refine wp_exit ?_;exact J13 many42 out44 og43 og45 a s (L.keep (.cons (t:=7) J (fun _ _ h_=>h_) (.cons (t:=8) J (fun _ _ h_=>h_) .nil))) d50 h
theorem next_Ends_ok {d_:SDesc} {s_:(List SItem)} {r_:Int} (h:zc4 d_ s_ r_):Fn Tryz.prog 63 [(Pd.rep En.SDesc d_),(Pd.rep (En.slice En.SItem) s_)] (Rq (Pi r_)):=by
 unfold zc4 at h;refine zbx Tryz.func63 J Tryz.ntmps63 (by rfl) (by simp) fun s0 a L=>?_;refine wp_seq_k fun K1 H1=>rg (sw 2 (zcu (O 0 J) J J) L fun a s L=>?_);refine sw 4 (zb oI J J) L fun a s L=>en' (H1 _ _ ?_);refine wp_seq_k fun K2 H2=>wp_seq_k fun K3 H3=>?_;obtain ⟨r4,h5,h⟩:=h;refine rg (sw 7 (zt zfl (O 2 J) J J) L fun a s L=>?_);refine sw 8 (zd (O 1 J) J J) L fun a s L=>sw 9 (zy ((zha h5).frz) (xs:=[.tmp 7,.tmp 8]) (.cons (O 7 J) (.cons (O 8 J) .nil)) J J) L fun a s L=>sw 10 (zc8 (O 9 J) U79 J J) L fun a s L=>sw 11 (zd oI J J) L fun a s L=>en' (H3 _ _ ?_);refine wp_block ?_;have J6:∀(a:Act) (s:St),Has N0 22 s0 a s []→((zc4.j1 r_))→K2 a s.w:=by
  intro a s L h;unfold zc4.j1 at h;show K2 a s.w;refine H2 _ _ (wp_seq_k fun K7 H7=>?_);refine rg (sw 4 (zb oI J J) L fun a s L=>?_);refine en' (H7 _ _ ?_);subst h;exact wp_ret (zdu J L J)
 obtain ⟨k9,h⟩:=h;refine lpg (fun k10 a s=>∃(v8:Int),Has N0 22 s0 a s [(9,(Pd.rep (En.slice En.SBranch) r4)),(10,(Pi (r4.length:Int))),(11,(Pi v8))]∧zc4.l1 r4 r_ (zc4.j1 r_) k10 v8) k9 ⟨0,L.keep (.k 9 (.k 10 (.k 11 .nil))),h⟩ ?_;rintro k10 a s ⟨v8,L,h⟩ KL11 hKL11;cases k10 with
 | zero=>exact h.elim
 | succ k10=>
 unfold zc4.l1 at h;refine wp_seq_k fun K12 H12=>rg (sw 12 (zbz (O 11 J) (O 10 J) J J) L fun a s L=>?_);refine en' (H12 _ _ ?_);refine wp_seq_k fun K13 H13=>cnd L J (fun hb_=>?_) (fun hb_=>?_)
 ·replace h:=h.1 hb_;refine wp_skip ?_;show K13 a s.w;refine H13 _ _ (wp_seq_k fun K14 H14=>?_);refine wp_block (wp_seq_k fun K15 H15=>?_);obtain ⟨e16,h17,h⟩:=h;refine rg (sw 13 (zde (O 9 J) (O 11 J) h17 U79 zmm J J) L fun a s L=>?_);refine sw 14 (zt zmm (O 13 J) J J) L fun a s L=>zbf En.SBranch (z:=([],0)) 6 L zn2 J J J J fun a s g18 hg_ L=>?_;refine zby (L':=[(9,(Pd.rep (En.slice En.SBranch) r4)),(10,(Pi (r4.length:Int))),(11,(Pi v8))]) 6 L J (O 14 J) zmm J J J (.k 9 (.k 10 (.k 11 .nil))) fun s L=>?_;refine en' (H15 _ _ ?_);refine wp_seq_k fun K19 H19=>rg (sw 15 (zbj (off:=0) (O 6 J) U82 J (zm (zh _ _)) J zfv J J) L fun a s L=>?_);refine sw 16 (zp zfv (O 15 J) J J) L fun a s L=>sw 17 (zc8 (O 16 J) U47 J J) L fun a s L=>sw 18 (zbt (O 17 J) oI J J) L fun a s L=>en' (H19 _ _ ?_);refine cnd L J (fun hb_=>?_) (fun hb_=>?_)
  ·replace h:=h.1 hb_;refine wp_seq_k fun K20 H20=>rg (sw 19 (zbj (off:=1) (O 6 J) U82 J (ze (zh _ _) J) J ty3 J J) L fun a s L=>?_);refine sw 20 (zp ty3 (O 19 J) J J) L fun a s L=>sw 4 (zb (O 20 J) J J) L fun a s L=>en' (H20 _ _ ?_);subst h;exact wp_ret (zdu J L J)
  ·replace h:=h.2 hb_;refine wp_skip ?_;show K14 a s.w;refine H14 _ _ ?_;obtain ⟨h21,h⟩:=h;refine rg (sw 21 (zbk (O 11 J) oI h21 J J) L fun a s L=>?_);refine sw 11 (zd (O 21 J) J J) L fun a s L=>en' ?_;exact hKL11 k10 a s (Nat.lt_succ_self _) ⟨(v8+1),L.keep (.k 9 (.k 10 (.k 11 .nil))),h⟩
 ·replace h:=h.2 hb_;refine wp_exit ?_;exact J6 a s (L.keep .nil) h
theorem znc  {r_:(List Cl)} (h:zb0  r_):Fn Tryz.prog 106 [] (Ro En.cls 51 r_):=by
 unfold zb0 at h;refine zbx Tryz.func106 J Tryz.ntmps106 (by rfl) (by simp) fun s0 a L=>?_;refine wp_seq_k fun K1 H1=>rg (sw 0 (zb (zdg (E:=En.cls) (N:=s0.w.heap.size) (te:=51)) J J) L fun a s L=>?_);refine en' (H1 _ _ ?_);refine wp_seq_k fun K2 H2=>rg (sw 1 (zb (zdg (E:=En.cls) (N:=s0.w.heap.size) (te:=51)) J J) L fun a s L=>?_);refine en' (H2 _ _ ?_);refine wp_seq_k fun K3 H3=>wp_seq_k fun K4 H4=>rg (sw 3 (zd oI J J) L fun a s L=>?_);refine en' (H4 _ _ ?_);refine wp_block ?_;have J7:∀(out5:(List Cl)) (og6:Option Nat) (a:Act) (s:St),Has N0 16 s0 a s [(1,(Pd.row En.cls s0.w.heap.size 51 og6 out5))]→((zb0.j1 r_) out5)→K3 a s.w:=by
  intro out5 og6 a s L h;unfold zb0.j1 at h;show K3 a s.w;refine H3 _ _ (wp_seq_k fun K8 H8=>?_);refine rg (sw 15 (zd (O 1 J) J J) L fun a s L=>?_);refine sw 0 (zb (O 15 J) J J) L fun a s L=>en' (H8 _ _ ?_);subst h;exact wp_ret (zjn J L J)
 obtain ⟨k12,h⟩:=h;refine lpg (fun k13 a s=>∃(out9:(List Cl)) (v11:Int) (og10:Option Nat),Has N0 16 s0 a s [(1,(Pd.row En.cls s0.w.heap.size 51 og10 out9)),(3,(Pi v11))]∧zb0.l1 (zb0.j1 r_) k13 out9 v11) k12 ⟨([]:(List Cl)),0,none,L.keep (.cons (t:=1) J (fun _ _ h_=>h_) (.k 3 .nil)),h⟩ ?_;rintro k13 a s ⟨out9,v11,og10,L,h⟩ KL14 hKL14;cases k13 with
 | zero=>exact h.elim
 | succ k13=>
 unfold zb0.l1 at h;refine wp_seq_k fun K15 H15=>rg (sw 4 (zbz (O 3 J) oI J J) L fun a s L=>?_);refine en' (H15 _ _ ?_);refine wp_seq_k fun K16 H16=>cnd L J (fun hb_=>?_) (fun hb_=>?_)
 ·replace h:=h.1 hb_;refine wp_skip ?_;show K16 a s.w;refine H16 _ _ (wp_seq_k fun K17 H17=>?_);refine wp_block (wp_seq_k fun K18 H18=>?_);refine rg (sw 5 (zd (O 3 J) J J) L fun a s L=>?_);refine sw 2 (zb (O 5 J) J J) L fun a s L=>en' (H18 _ _ ?_);obtain ⟨r19,h20,h21,h⟩:=h;refine rg (sw 6 (zd (O 1 J) J J) L fun a s L=>?_);refine sw 7 (zd (O 2 J) J J) L fun a s L=>sw 8 (t_u8 (O 7 J) U3 U5 J J) L fun a s L=>sw 9 (zd (O 2 J) J J) L fun a s L=>sw 10 (t_u8 (O 9 J) U3 U5 J J) L fun a s L=>sw 11 (zy (znq h20) (xs:=[.tmp 8,.tmp 10]) (.cons (O 8 J) (.cons (O 10 J) .nil)) J J) L fun a s L=>sw 12 (zec (xs:=[.tmp 11]) (.cons (O 11 J) .nil) U36 zco J J (by decide) J J) L fun a s L=>zev (L':=[(3,(Pi v11))]) 13 L (O 6 J) (O 12 J) U36 zco h21 J J J J (.k 3 .nil) fun a s og22 hg_ L=>?_;refine sw 1 (zb (O 13 J) J J) L fun a s L=>en' (H17 _ _ ?_);obtain ⟨h23,h⟩:=h;refine rg (sw 14 (zbk (O 3 J) oI h23 J J) L fun a s L=>?_);refine sw 3 (zd (O 14 J) J J) L fun a s L=>en' ?_;exact hKL14 k13 a s (Nat.lt_succ_self _) ⟨(out9++[r19]),(v11+1),og22,L.keep (.cons (t:=1) J (fun _ _ h_=>h_) (.k 3 .nil)),h⟩
 ·replace h:=h.2 hb_;refine wp_exit ?_;exact J7 out9 og10 a s (L.keep (.cons (t:=1) J (fun _ _ h_=>h_) .nil)) h
theorem zne {d_:SDesc} {s_:(List SItem)} {r_:(List Cl)} (h:zbl d_ s_ r_):Fn Tryz.prog 66 [(Pd.rep En.SDesc d_),(Pd.rep (En.slice En.SItem) s_)] (Ro En.cls 51 r_):=by
 unfold zbl at h;refine zbx Tryz.func66 J Tryz.ntmps66 (by rfl) (by simp) fun s0 a L=>?_;refine wp_seq_k fun K1 H1=>rg (sw 2 (zcu (O 0 J) J J) L fun a s L=>?_);refine sw 4 (zb (zdg (E:=En.cls) (N:=s0.w.heap.size) (te:=51)) J J) L fun a s L=>en' (H1 _ _ ?_);refine wp_seq_k fun K2 H2=>rg (sw 5 (zb (zdg (E:=En.cls) (N:=s0.w.heap.size) (te:=51)) J J) L fun a s L=>?_);refine en' (H2 _ _ ?_);refine wp_seq_k fun K3 H3=>wp_seq_k fun K4 H4=>?_;obtain ⟨r5,h6,h⟩:=h;refine rg (sw 10 (zt zfl (O 2 J) J J) L fun a s L=>?_);refine sw 11 (zd (O 1 J) J J) L fun a s L=>sw 12 (zy ((zha h6).frz) (xs:=[.tmp 10,.tmp 11]) (.cons (O 10 J) (.cons (O 11 J) .nil)) J J) L fun a s L=>sw 13 (zc8 (O 12 J) U79 J J) L fun a s L=>sw 14 (zd oI J J) L fun a s L=>en' (H4 _ _ ?_);refine wp_block ?_;have J9:∀(out7:(List Cl)) (og8:Option Nat) (a:Act) (s:St),Has N0 64 s0 a s [(5,(Pd.row En.cls s0.w.heap.size 51 og8 out7))]→((zbl.j1 r_) out7)→K3 a s.w:=by
  intro out7 og8 a s L h;unfold zbl.j1 at h;show K3 a s.w;refine H3 _ _ (wp_seq_k fun K10 H10=>?_);refine rg (sw 63 (zd (O 5 J) J J) L fun a s L=>?_);refine sw 4 (zb (O 63 J) J J) L fun a s L=>en' (H10 _ _ ?_);subst h;exact wp_ret (zjn J L J)
 obtain ⟨k14,h⟩:=h;refine lpg (fun k15 a s=>∃(out11:(List Cl)) (v13:Int) (og12:Option Nat),Has N0 64 s0 a s [(2,(Pd.ptr En.SDesc d_)),(5,(Pd.row En.cls s0.w.heap.size 51 og12 out11)),(12,(Pd.rep (En.slice En.SBranch) r5)),(13,(Pi (r5.length:Int))),(14,(Pi v13))]∧zbl.l1 d_ r5 (zbl.j1 r_) k15 out11 v13) k14 ⟨([]:(List Cl)),0,none,L.keep (.k 2 (.cons (t:=5) J (fun _ _ h_=>h_) (.k 12 (.k 13 (.k 14 .nil))))),h⟩ ?_;rintro k15 a s ⟨out11,v13,og12,L,h⟩ KL16 hKL16;cases k15 with
 | zero=>exact h.elim
 | succ k15=>
 unfold zbl.l1 at h;refine wp_seq_k fun K17 H17=>rg (sw 15 (zbz (O 14 J) (O 13 J) J J) L fun a s L=>?_);refine en' (H17 _ _ ?_);refine wp_seq_k fun K18 H18=>cnd L J (fun hb_=>?_) (fun hb_=>?_)
 ·replace h:=h.1 hb_;refine wp_skip ?_;show K18 a s.w;refine H18 _ _ (wp_seq_k fun K19 H19=>?_);refine wp_block (wp_seq_k fun K20 H20=>?_);obtain ⟨e21,h22,h⟩:=h;refine rg (sw 16 (zde (O 12 J) (O 14 J) h22 U79 zmm J J) L fun a s L=>?_);refine sw 17 (zt zmm (O 16 J) J J) L fun a s L=>?_;have lt_d24:=L.rlt 5 rfl;refine zbf En.SBranch (z:=([],0)) 7 L zn2 J J J J fun a s g23 hg_ L=>?_;have d24:Dis (some g23) og12:=Dis.newg hg_ lt_d24;refine zby (L':=[(2,(Pd.ptr En.SDesc d_)),(5,(Pd.row En.cls s0.w.heap.size 51 og12 out11)),(12,(Pd.rep (En.slice En.SBranch) r5)),(13,(Pi (r5.length:Int))),(14,(Pi v13))]) 7 L J (O 17 J) zmm J J J (.k 2 (.cons (t:=5) J (Dis.ow (Dis.symm d24)) (.k 12 (.k 13 (.k 14 .nil))))) fun s L=>?_;refine en' (H20 _ _ ?_);refine wp_seq_k fun K25 H25=>wp_seq_k fun K26 H26=>rg (sw 18 (zbj (off:=0) (O 7 J) U82 J (zm (zh _ _)) J zfv J J) L fun a s L=>?_);refine sw 19 (zp zfv (O 18 J) J J) L fun a s L=>sw 20 (zc8 (O 19 J) U47 J J) L fun a s L=>sw 21 (zbt (O 20 J) oI J J) L fun a s L=>en' (H26 _ _ ?_);refine cnd L J (fun hb_=>?_) (fun hb_=>?_)
  ·replace h:=h.1 hb_;refine wp_exit ?_;show K19 a s.w;refine H19 _ _ ?_;obtain ⟨h27,h⟩:=h;refine rg (sw 62 (zbk (O 14 J) oI h27 J J) L fun a s L=>?_);refine sw 14 (zd (O 62 J) J J) L fun a s L=>en' ?_;exact hKL16 k15 a s (Nat.lt_succ_self _) ⟨out11,(v13+1),og12,L.keep (.k 2 (.cons (t:=5) J (fun _ _ h_=>h_) (.k 12 (.k 13 (.k 14 .nil))))),h⟩
  ·replace h:=h.2 hb_;refine wp_skip ?_;show K25 a s.w;refine H25 _ _ (wp_seq_k fun K28 H28=>?_);obtain ⟨e29,h30,h⟩:=h;refine rg (sw 22 (zbj (off:=0) (O 7 J) U82 J (zm (zh _ _)) J zfv J J) L fun a s L=>?_);refine sw 23 (zp zfv (O 22 J) J J) L fun a s L=>sw 24 (zde (O 23 J) oI h30 U47 zfk J J) L fun a s L=>sw 25 (zt zfk (O 24 J) J J) L fun a s L=>?_;have lt_d33:=L.blt 7 rfl;have lt_d32:=L.rlt 5 rfl;refine zbf En.SItem (z:=(0,0,0,0)) 8 L zic J J J J fun a s g31 hg_ L=>?_;have d32:Dis (some g31) og12:=Dis.newg hg_ lt_d32;have d33:Dis (some g31) (some g23):=Dis.newg hg_ lt_d33;refine zby (L':=[(2,(Pd.ptr En.SDesc d_)),(5,(Pd.row En.cls s0.w.heap.size 51 og12 out11)),(12,(Pd.rep (En.slice En.SBranch) r5)),(13,(Pi (r5.length:Int))),(14,(Pi v13))]) 8 L J (O 25 J) zfk J J J (.k 2 (.cons (t:=5) J (Dis.ow (Dis.symm d32)) (.k 12 (.k 13 (.k 14 .nil))))) fun s L=>?_;refine en' (H28 _ _ ?_);refine wp_seq_k fun K34 H34=>?_;obtain ⟨e35,h36,h⟩:=h;refine rg (sw 26 (zc0 (off:=0) (O 2 J) U24 J (zbw (zh _ _)) J zfj J J) L fun a s L=>?_);refine sw 27 (zt zfj (O 26 J) J J) L fun a s L=>sw 28 (zbj (off:=1) (O 8 J) U77 J (ze (zm (zh _ _)) J) J ty3 J J) L fun a s L=>sw 29 (zp ty3 (O 28 J) J J) L fun a s L=>sw 30 (zde (O 27 J) (O 29 J) h36 U22 zfi J J) L fun a s L=>sw 31 (zt zfi (O 30 J) J J) L fun a s L=>?_;have lt_d39:=L.blt 8 rfl;have lt_d38:=L.rlt 5 rfl;refine zbf En.SNode (z:=(0,0,0,0,0,(0#256),([]:Str))) 9 L zk2 J J J J fun a s g37 hg_ L=>?_;have d38:Dis (some g37) og12:=Dis.newg hg_ lt_d38;have d39:Dis (some g37) (some g31):=Dis.newg hg_ lt_d39
   refine zby (L':=[(2,(Pd.ptr En.SDesc d_)),(5,(Pd.row En.cls s0.w.heap.size 51 og12 out11)),(8,(Pd.box En.SItem s0.w.heap.size g31 e29)),(12,(Pd.rep (En.slice En.SBranch) r5)),(13,(Pi (r5.length:Int))),(14,(Pi v13))]) 9 L J (O 31 J) zfi J J J (.k 2 (.cons (t:=5) J (Dis.ow (Dis.symm d38)) (.cons (t:=8) J (Dis.bx (Dis.symm d39)) (.k 12 (.k 13 (.k 14 .nil)))))) fun s L=>?_;refine en' (H34 _ _ ?_);refine wp_block (wp_seq_k fun K40 H40=>?_);refine rg (sw 36 (zbj (off:=0) (O 8 J) U77 J (zm (zh _ _)) J ty3 J J) L fun a s L=>?_);refine sw 37 (zp ty3 (O 36 J) J J) L fun a s L=>sw 38 (zbt (O 37 J) oI J J) L fun a s L=>sw 35 (zb (O 38 J) J J) L fun a s L=>en' (H40 _ _ ?_);refine cnd L J (fun hb_=>?_) (fun hb_=>?_)
   ·obtain ⟨c41,h42,c43,h44,r45,h46,h47,h⟩:=h.1 hb_;refine rda zcm 13 [(Pd.row En.cls s0.w.heap.size 51 og12 out11),(Pd.optr En.str s0.w.heap.size (some g37) (9) e35.2.2.2.2.2.2),(Pd.rep En.str e35.2.2.2.2.2.2),(Pd.optr (En.int .i64) s0.w.heap.size (some g31) (2) e29.2.2.1),(Pi e29.2.2.1),(Pd.rep (En.int .u8) c41),(Pd.optr En.str s0.w.heap.size (some g37) (9) e35.2.2.2.2.2.2),(Pd.rep En.str e35.2.2.2.2.2.2),(Pd.optr (En.int .i64) s0.w.heap.size (some g31) (2) e29.2.2.1),(Pi e29.2.2.1),(Pd.rep (En.int .u8) c43),(Pd.rep En.cls r45),(Pd.rep (En.slice En.cls) [r45])] L (by kernel_rfl) J J ?_ ?_
    ·refine z8.cons (zd (O 5 J) J J) ?_;refine z8.cons (zbj (off:=9) (O 9 J) U68 J (ze (ze (ze (ze (ze (ze (zh _ _) J) J) J) J) J) J) J ty9 J J) (z8.cons (zp ty9 (O 40 J) J J) ?_);refine z8.cons (zbj (off:=2) (O 8 J) U77 J (ze (ze (zm (zh _ _)) J) J) J ty3 J J) (z8.cons (zp ty3 (O 42 J) J J) ?_);refine z8.cons (zln (O 41 J) (O 43 J) h42 U9 J J) (z8.cons (zbj (off:=9) (O 9 J) U68 J (ze (ze (ze (ze (ze (ze (zh _ _) J) J) J) J) J) J) J ty9 J J) ?_);refine z8.cons (zp ty9 (O 45 J) J J) (z8.cons (zbj (off:=2) (O 8 J) U77 J (ze (ze (zm (zh _ _)) J) J) J ty3 J J) ?_);refine z8.cons (zp ty3 (O 47 J) J J) (z8.cons (zln (O 46 J) (O 48 J) h44 U9 J J) ?_);refine z8.cons (zy (znq h46) (xs:=[.tmp 44,.tmp 49]) (.cons (O 44 J) (.cons (O 49 J) .nil)) J J) (z8.cons (zec (xs:=[.tmp 50]) (.cons (O 50 J) .nil) U36 zco J J (by decide) J J) ?_);exact z8.nil
    intro a s _ L;refine zev (L':=[(2,(Pd.ptr En.SDesc d_)),(12,(Pd.rep (En.slice En.SBranch) r5)),(13,(Pi (r5.length:Int))),(14,(Pi v13))]) 52 L (O 39 J) (O 51 J) U36 zco h47 J J J J (.k 2 (.k 12 (.k 13 (.k 14 .nil)))) fun a s og48 hg_ L=>?_;refine sw 5 (zb (O 52 J) J J) L fun a s L=>en' (H19 _ _ ?_);obtain ⟨h49,h⟩:=h;refine rg (sw 62 (zbk (O 14 J) oI h49 J J) L fun a s L=>?_);refine sw 14 (zd (O 62 J) J J) L fun a s L=>en' ?_;exact hKL16 k15 a s (Nat.lt_succ_self _) ⟨(out11++[r45]),(v13+1),og48,L.keep (.k 2 (.cons (t:=5) J (fun _ _ h_=>h_) (.k 12 (.k 13 (.k 14 .nil))))),h⟩
   ·replace h:=h.2 hb_;refine wp_seq_k fun K50 H50=>rg (sw 54 (zbj (off:=0) (O 9 J) U68 J (zm (zh _ _)) J ty3 J J) L fun a s L=>?_);refine sw 55 (zp ty3 (O 54 J) J J) L fun a s L=>sw 56 (zbt (O 55 J) oI J J) L fun a s L=>sw 53 (zb (O 56 J) J J) L fun a s L=>en' (H50 _ _ ?_);refine cnd L J (fun hb_=>?_) (fun hb_=>?_)
    ·obtain ⟨h51,h⟩:=h.1 hb_;refine rg (sw 57 (zd (O 5 J) J J) L fun a s L=>?_);refine sw 58 (zbj (off:=5) (O 9 J) U68 J (ze (ze (ze (ze (ze (zm (zh _ _)) J) J) J) J) J) J zco J J) L fun a s L=>sw 59 (zp zco (O 58 J) J J) L fun a s L=>sw 60 (zec (xs:=[.tmp 59]) (.cons (O 59 J) .nil) U36 zco J J (by decide) J J) L fun a s L=>zev (L':=[(2,(Pd.ptr En.SDesc d_)),(12,(Pd.rep (En.slice En.SBranch) r5)),(13,(Pi (r5.length:Int))),(14,(Pi v13))]) 61 L (O 57 J) (O 60 J) U36 zco h51 J J J J (.k 2 (.k 12 (.k 13 (.k 14 .nil)))) fun a s og52 hg_ L=>?_;refine sw 5 (zb (O 61 J) J J) L fun a s L=>en' (H19 _ _ ?_);obtain ⟨h53,h⟩:=h;refine rg (sw 62 (zbk (O 14 J) oI h53 J J) L fun a s L=>?_);refine sw 14 (zd (O 62 J) J J) L fun a s L=>en' ?_;exact hKL16 k15 a s (Nat.lt_succ_self _) ⟨(out11++[e35.2.2.2.2.2.1]),(v13+1),og52,L.keep (.k 2 (.cons (t:=5) J (fun _ _ h_=>h_) (.k 12 (.k 13 (.k 14 .nil))))),h⟩
    ·obtain ⟨r54,h55,h56,h⟩:=h.2 hb_;refine rg (sw 32 (zd (O 5 J) J J) L fun a s L=>?_);refine sw 33 (zy ((znc h55).frz) (xs:=[]) .nil J J) L fun a s L=>zev (L':=[(2,(Pd.ptr En.SDesc d_)),(12,(Pd.rep (En.slice En.SBranch) r5)),(13,(Pi (r5.length:Int))),(14,(Pi v13))]) 34 L (O 32 J) (O 33 J) U36 zco h56 J J J J (.k 2 (.k 12 (.k 13 (.k 14 .nil)))) fun a s og57 hg_ L=>?_;refine sw 5 (zb (O 34 J) J J) L fun a s L=>en' (H19 _ _ ?_);obtain ⟨h58,h⟩:=h;refine rg (sw 62 (zbk (O 14 J) oI h58 J J) L fun a s L=>?_);refine sw 14 (zd (O 62 J) J J) L fun a s L=>en' ?_;exact hKL16 k15 a s (Nat.lt_succ_self _) ⟨(out11++r54),(v13+1),og57,L.keep (.k 2 (.cons (t:=5) J (fun _ _ h_=>h_) (.k 12 (.k 13 (.k 14 .nil))))),h⟩
 ·replace h:=h.2 hb_;refine wp_exit ?_;exact J9 out11 og12 a s (L.keep (.cons (t:=5) J (fun _ _ h_=>h_) .nil)) h
open Go.Shelf Go.Sort
theorem put_block1 {β:Type} [Inhabited β] (enc:β→Value) {w:World} {b:Nat} {cur:Array Value} {te:TypeId} {F:Array β} (m:Nat) (os:Array Obj) (hb:w.heap[b]?=some (.cells cur te (0,0))):
  (Sort.grow (putRow enc (Sort.ahead w m) b 0 F) os).heap[b]?=some (.cells (putCells enc 0 F cur) te (0,0)):=by
 have hlt:=(Array.getElem?_eq_some_iff.1 hb).1;unfold Sort.grow putRow mapBlock;simp only;rw [Array.getElem?_append_left (by simpa [Sort.ahead] using hlt),Array.getElem?_modify,if_pos rfl];show Option.map _ (w.heap[b]?)=_;rw [hb];rfl
theorem zo8 {β:Type} [Inhabited β] (enc:β→Value) {w:World} {b c:Nat} {F:Array β} (m:Nat) (os:Array Obj) (hc:c<w.heap.size) (hne:c≠b):(Sort.grow (putRow enc (Sort.ahead w m) b 0 F) os).heap[c]?=w.heap[c]?:=by
 unfold Sort.grow putRow mapBlock;simp only;rw [Array.getElem?_append_left (by simpa [Sort.ahead] using hc),Array.getElem?_modify,if_neg (Ne.symm hne)];rfl
theorem size1 {β:Type} [Inhabited β] (enc:β→Value) (w:World) (b m:Nat) (F:Array β) (os:Array Obj):w.heap.size≤(sortWorld enc w b 0 m F os).heap.size:=by
 unfold sortWorld Sort.grow putRow mapBlock;simp [Sort.ahead]
theorem fm_sort1 {P:Program} {ρ:Ren} (L:Go.Proofs.SlLaysF.n6 P ρ) (L0:Go.Proofs.SlLaysF0.n6 P ρ) {α:Type} {E:En α} {E':VD.En α} {te:TypeId} {g:FuncId} {cf:α→α→Int} (hE:Ty P te E) (hA:E.agg=false) (hA':E'.agg=false) (hR:∀{w S cs x},E.R w S cs x→E'.R w S cs x)
  (hf:∀(args:Array Value) (w:World),(callFunc (ρ.f 6) args).run P w = .ok (.enter (ρ.f 6) args) w) (eg:∀(args:Array Value) (w:World),(callFunc g args).run P w = .ok (.enter g args) w) (hO:SWO (Go.Proofs.ltOf cf)) {xs:List α} (hlen:xs.length≤2147483648)
  (hc:∀x∈xs,∀y∈xs,VD.Fn P g [VD.Pd.rep E' x,VD.Pd.rep E' y] (VD.Rq (VD.Pd.rep (VD.En.int .i64) (cf x y)))) (v0:Value):
  Fm P (ρ.f 6) (fun b=>v0.ownBlock=some b) [Pd.prow E te v0 xs,Pd.is (.func (.func g) #[] #[])] (fun _ s' _=>∃ys:List α,ys.Perm xs∧ys.Pairwise (fun a b=>¬ cf b a<0)∧(Pd.prow E te v0 ys).p s' v0):=by
 refine ⟨hf,fun s vs hgl hX hv=>?_⟩
 match vs,hv with
 | [v,fv],⟨⟨hv0,hrow⟩,hfv,_⟩=>
 have hfv:fv = .func (.func g) #[] #[]:=hfv;subst hfv;subst hv0;obtain ⟨h1,h2,h3,css,hEl,how⟩:=hrow
 by_cases hx0:xs=[]
 ·subst hx0;obtain ⟨p,cap,rfl⟩:∃p cap,v = .slice p 0 cap:=by
   rcases how.2 with ⟨e,_⟩ | ⟨b,cap,cur,e,_⟩
   ·exact ⟨none,0,e⟩
   ·exact ⟨_,cap,e⟩
  refine (Go.Proofs.AnyF.slices_SortFunc_none L0 p cap _ s.w).mono fun e w' ⟨he,hw⟩=>?_;subst he;subst hw;exact ⟨_,s,rfl,rfl,Fr.refl hX,[],.refl _,List.Pairwise.nil,rfl,h1,h2,h3,css,hEl,how⟩
 have hpos:0<xs.length:=List.length_pos_iff.2 hx0;rcases how.2 with ⟨e,hn⟩ | ⟨b,cap,cur,hvb,hN,hgb,hnc,hcm,hcs,htk⟩
 ·omega
 subst hvb;have hXb:s.X b:=h2 b rfl;have hblt:b<s.w.heap.size:=s.lt b hXb;have hsz1:E.sz=1:=E.sc hA
 let α':={p:List Value × α // E.R s.w (ze4 s) p.1 p.2∧p.2∈xs}
 have hel:∀i:Fin xs.length,E.R s.w (ze4 s) (css[i.1]'(by rw [hEl.1];exact i.2)) xs[i.1]∧xs[i.1]∈xs:=fun i=>⟨hEl.2 i.1 _ _ (List.getElem?_eq_getElem _) (List.getElem?_eq_getElem _),List.getElem_mem _⟩
 let d:Array α':=Array.ofFn fun i:Fin xs.length=>⟨(css[i.1]'(by rw [hEl.1];exact i.2),xs[i.1]),hel i⟩
 have hdn:d.size=xs.length:=by simp [d]
 haveI:Inhabited α':=⟨d[0]'(by rw [hdn];exact hpos)⟩
 let enc:α'→Value:=fun p=>p.1.1.headD undef
 have hsing:∀p:α',p.1.1=[enc p]:=fun p=>by
  have hl:=E.len p.2.1;rw [hsz1] at hl;obtain ⟨u,hu⟩:=List.length_eq_one_iff.1 hl;show p.1.1=[p.1.1.headD undef];rw [hu];rfl
 have hone:OneCell enc:=fun x=>E.one x.2.1 (enc x) (by rw [hsing x];simp);have hdl:d.toList.map (fun p=>p.1.1)=css:=by
  apply List.ext_getElem?;intro i;simp only [d,List.getElem?_map,Array.toList_ofFn,List.getElem?_ofFn]
  by_cases hi:i<xs.length
  ·rw [dif_pos hi,Option.map_some,List.getElem?_eq_getElem (by rw [hEl.1];exact hi)]
  ·rw [dif_neg hi,Option.map_none,List.getElem?_eq_none (by rw [hEl.1];omega)]
 have hdx:d.toList.map (fun p=>p.1.2)=xs:=by
  apply List.ext_getElem?;intro i;simp only [d,List.getElem?_map,Array.toList_ofFn,List.getElem?_ofFn]
  by_cases hi:i<xs.length
  ·rw [dif_pos hi,Option.map_some,List.getElem?_eq_getElem hi]
  ·rw [dif_neg hi,Option.map_none,List.getElem?_eq_none (by omega)]
 have hfl:∀q:List α',(q.map (fun p=>p.1.1)).flatten=q.map enc:=fun q=>by
  induction q with
  | nil=>rfl
  | cons p q ih=>rw [List.map_cons,List.flatten_cons,ih,hsing p];rfl
 have hflat:∀(q:Array α') (j:Nat),j<q.size→(q.toList.map (fun p=>p.1.1)).flatten[j]?=some (enc q[j]!):=by
  intro q j hj;rw [hfl,List.getElem?_map,Array.getElem?_toList,Array.getElem?_eq_getElem hj,getElem!_pos q j hj];rfl
 have hH:Holds enc s.w b 0 d:=by
  intro j hj;have hf:=hflat d j hj;rw [hdl] at hf;have hcj:cur[j]?=some (enc d[j]!):=by
   rw [← htk,List.getElem?_take] at hf;split at hf
   ·simpa using hf
   ·cases hf
  refine ⟨?_, ?_⟩
  ·rw [Nat.zero_add,cell_of_row s.w b j cur te (0,0) hgb];exact hcj
  ·unfold World.frozen?;simp [hgb]
 have hO':SWO (Go.Proofs.ltOf fun p q:α'=>cf p.1.2 q.1.2):=⟨fun x=>hO.irrefl x.1.2,fun x y z=>hO.trans x.1.2 y.1.2 z.1.2,fun x y z=>hO.ntrans x.1.2 y.1.2 z.1.2⟩;have hcmp:Go.Proofs.CmpLays1 P g #[] enc (fun p q:α'=>cf p.1.2 q.1.2) b 0 d.size s.w:=by
  intro m os dk hdk x y;have hsz:s.w.heap.size≤(sortWorld enc s.w b 0 m dk os).heap.size:=size1 enc s.w b m dk os;have hoth:∀c,c<s.w.heap.size→c≠b→(sortWorld enc s.w b 0 m dk os).heap[c]?=s.w.heap[c]?:=fun c hc hne=>zo8 enc m os hc hne
  let sd:VD.St:=⟨sortWorld enc s.w b 0 m dk os,fun c=>c=b,fun c hc=>by subst hc;omega⟩
  have hgd:VD.Gl sd:=by
   have key:∀c o,¬ s.X c→s.w.heap[c]?=some o→c≠b∧sd.w.heap[c]?=some o:=fun c o k1 k2=>by
    have hpb:c≠b:=fun e=>k1 (e ▸ hXb);exact ⟨hpb,(hoth c (Array.getElem?_eq_some_iff.1 k2).1 hpb).trans k2⟩
   refine ⟨fun p hp=>?_,fun p hp=>?_⟩
   ·obtain ⟨k1,t,fr,k2⟩:=hgl.1 p hp;obtain ⟨k3,k4⟩:=key _ _ k1 k2;exact ⟨k3,t,fr,k4⟩
   ·obtain ⟨k1,m',t,fr,es,clock,ys,k2,k3,k4,k5,k6⟩:=hgl.2 p hp;obtain ⟨j1,j2⟩:=key _ _ k1 k2;obtain ⟨j3,j4⟩:=key _ _ k3 k4;exact ⟨j1,m',t,fr,es,clock,ys,j2,j3,j4,k5,k6⟩
  have hfoot:∀c,ze4 s c→VD.ze4 sd c:=fun c hc=>⟨Nat.lt_of_lt_of_le hc.1 hsz,fun e=>hc.2 (e ▸ hXb)⟩;have conv:∀z:α',E'.R sd.w (VD.ze4 sd) z.1.1 z.1.2:=fun z=>E'.mono hfoot (E'.move (fun c hc=>hoth c hc.1 (fun e=>hc.2 (e ▸ hXb))) (hR z.2.1))
  have:=cmp_grow (hc _ x.2.2 _ y.2.2) sd hgd (conv x) (conv y);have hval:∀z:α',E'.val z.1.1=enc z:=fun z=>by unfold VD.En.val;rw [hA'];rfl
  rw [hval,hval] at this;exact this
 have hmain:=Go.Proofs.Any.slices_SortFunc L enc hone (fun p q:α'=>cf p.1.2 q.1.2) hO' g #[] b 0 cap d s.w eg hcmp hH hblt (by rw [hdn];omega);rw [hdn] at hmain;refine hmain.mono fun e w' ⟨he,d',m,os,hP,hS,hw⟩=>?_;subst he;subst hw;have hd'n:d'.size=xs.length:=hP.1.trans hdn;have hsz:s.w.heap.size≤(sortWorld enc s.w b 0 m d' os).heap.size:=size1 enc s.w b m d' os
 let s':St:=⟨sortWorld enc s.w b 0 m d' os,s.X,fun c hc=>Nat.lt_of_lt_of_le (s.lt c hc) hsz⟩
 have hmv:Mv (fun c=>(Value.slice (some ⟨b,0,none⟩) xs.length cap).ownBlock=some c) s s':=
  ⟨trivial,rfl,rfl,rfl,hsz,fun c hc hne=>zo8 enc m os hc (fun e=>hne (by rw [e];rfl)),fun c hc=>hX c hc,fun c hc=>.inl hc⟩
 refine ⟨_,s',rfl,rfl,⟨hmv,fun c hc=>hc⟩,d'.toList.map (fun p=>p.1.2), ?_, ?_,rfl,rfl,fun c hc=>h2 c hc,by simp [hd'n];exact h3,d'.toList.map (fun p=>p.1.1),⟨by simp,fun i cs x hi hx=>?_⟩, ?_⟩
 ·have hp:=(hP.2.2).map (fun p:α'=>p.1.2);have e1:(d'.extract 0 xs.length).toList=d'.toList:=by rw [← hd'n];simp
  have e2:(d.extract 0 xs.length).toList=d.toList:=by rw [← hdn];simp
  rw [e1,e2,hdx] at hp;exact hp
 ·rw [List.pairwise_iff_getElem];intro i j hi hj hij;simp only [List.length_map,Array.length_toList] at hi hj;have:=hS i j (Nat.zero_le _) hij (by omega);unfold Go.Proofs.ltOf at this;rw [getElem!_pos d' i hi,getElem!_pos d' j hj] at this;simpa using this
 ·simp only [List.getElem?_map,Array.getElem?_toList] at hi hx;cases hq:d'[i]? with
  | none=>rw [hq] at hi;cases hi
  | some q=>
   rw [hq] at hi hx;simp only [Option.map_some,Option.some.injEq] at hi hx;subst hi;subst hx;exact E.go hmv q.2.1
 ·have hfll:(d'.toList.map (fun p=>p.1.1)).flatten.length=d'.size:=by rw [hfl];simp
  have hle:d'.size≤cur.size:=by rw [hcs,hd'n,hsz1];omega
  refine ⟨by rw [hfll,hsz1];simp,.inr ⟨b,cap,_,by simp [hd'n],Nat.zero_le _,put_block1 enc m os hgb,by simp [hd'n];exact hnc,hcm,by simp [putCells];exact hcs, ?_⟩⟩;apply List.ext_getElem?;intro j;rw [List.getElem?_take];simp only [List.length_map,Array.length_toList];split
  ·rename_i hj
   have hj':j<d'.size:=by rw [hsz1] at hj;omega
   rw [hflat d' j hj',Array.getElem?_toList];unfold putCells;rw [Array.getElem?_mapIdx,Array.getElem?_eq_getElem (by omega)];simp only [Option.map_some];rw [if_pos ⟨Nat.zero_le _,by omega⟩,Nat.sub_zero]
  ·rename_i hj
   rw [List.getElem?_eq_none (by rw [hfll];rw [hsz1] at hj;omega)]
theorem swo_state:SWO (Go.Proofs.ltOf fun x y:List SItem=>ze1 x y):=swo_cmp (fun x=>zis _) (fun x y=>zf3 _ _) fun x y z h1 h2=>cmpS_le h1 h2
theorem zn5:∀{y r:List (List SItem)},y.Perm r→y.Pairwise (fun a b=>¬ ze1 b a<0)→r.Pairwise (fun a b=>ze1 a b<0)→y=r:=fun {y r} hp hs hr=>by
 have hn:r.Nodup:=hr.imp fun {a b} h e=>by subst e;exact zg1 h
 have hny:y.Nodup:=hp.nodup_iff.2 hn;have hy:y.Pairwise (fun a b=>ze1 a b<0):=(hs.and hny).imp fun {a b} h=>by
  have h3:=zf3 b a;have h4:ze1 a b≠0:=fun e=>h.2 (zem.1 e);omega
 have:=zj9 (B:=y.map fun t=>((t,0):SBranch)) (C:=r.map fun t=>((t,0):SBranch)) (List.pairwise_map.2 hy) (List.pairwise_map.2 hr) fun x=>by
  simp only [List.mem_map];constructor
  ·rintro ⟨t,ht,rfl⟩;exact ⟨t,hp.mem_iff.1 ht,rfl⟩
  ·rintro ⟨t,ht,rfl⟩;exact ⟨t,hp.mem_iff.2 ht,rfl⟩
 have h2:=congrArg (List.map (·.1)) this;simpa [List.map_map,Function.comp_def] using h2
theorem zjj (v0:Value) {x r:List (List SItem)} (h:zfq x r):Fm Tryz.prog 57 (fun b=>v0.ownBlock=some b) [Pd.prow (En.slice En.SItem) 47 v0 x,Pd.is (.func (.func 58) #[] #[])] (fun _ s' _=>(Pd.prow (En.slice En.SItem) 47 v0 r).p s' v0):=by
 have h0:=fm_sort1 slsortT slsortS (E:=En.slice En.SItem) (E':=VD.En.slice VD.En.SItem) (te:=47) (g:=58) (cf:=fun a b:List SItem=>ze1 a b) zfv rfl rfl (fun h=>h) (ze6 Tryz.func57 rfl (by rfl)) (ze6 Tryz.func58 rfl (by rfl)) swo_state h.2.1 (fun a ha b hb=>VD.zio (zgo (h.1 a ha))) v0;refine ⟨h0.call,fun s vs hg hM hv=>(h0.run s vs hg hM hv).mono fun e w' ⟨v,s',he,hw,hfr,ys,hp,hs,hrow⟩=>⟨v,s',he,hw,hfr, ?_⟩⟩;rw [← zn5 (hp.trans h.2.2.1.symm) hs h.2.2.2];exact hrow
end Go.Proofs.YtahgmdbioafmbaaGreatDoor.V
namespace Go.Proofs.YtahgmdbioafmbaaGreatDoor.V
open Go
set_option linter.unusedVariables false
def zhf (d_:SDesc) (r_:(List (List SItem))):Prop:=∃r3:(List SItem),zje d_ r3∧r_=[r3]
def zcj.j1 (r_:(List (List SItem))) (found6:(List (Str × (List SItem)))):Prop:=sets_On_t found6 r_
def zcj.j2 (L1_:(List (Str × (List SItem)))→Int→Prop) (v14:Int) (found27:(List (Str × (List SItem)))):Prop:=(InR .i64 (v14+1))∧L1_ found27 (v14+1)
def zcj.l2 (r25:(List SBranch)) (X2:(List (Str × (List SItem)))→Prop):Nat→(List (Str × (List SItem)))→Int→Prop
 | 0,_,_=>False
 | k_0+1,found31,v33=>((decide (v33<(r25.length:Int)))=true→∃e41:SBranch,at? r25 v33=some e41∧∃r45:Str,zkq e41.1 r45∧(InR .i64 (v33+1))∧zcj.l2 r25 X2 k_0 (zfa found31 r45 e41.1) (v33+1))∧((decide (v33<(r25.length:Int)))=false→X2 found31)
def zcj.l1 (d_:SDesc) (l_:(List (List SItem))) (cv_:Int) (X1:(List (Str × (List SItem)))→Prop):Nat→(List (Str × (List SItem)))→Int→Prop
 | 0,_,_=>False
 | k_0+1,found12,v14=>((decide (v14<(l_.length:Int)))=true→∃e22:(List SItem),at? l_ v14=some e22∧∃r25:(List SBranch),zbu d_ e22 cv_ r25∧∃k34,zcj.l2 r25 (zcj.j2 (zcj.l1 d_ l_ cv_ X1 k_0) v14) k34 found12 0)∧((decide (v14<(l_.length:Int)))=false→X1 found12)
def zcj (d_:SDesc) (l_:(List (List SItem))) (cv_:Int) (r_:(List (List SItem))):Prop:=∃k15,zcj.l1 d_ l_ cv_ (zcj.j1 r_) k15 ([]:(List (Str × (List SItem)))) 0
def zhu (s_:(List SItem)) (cap0_:SDesc) (r_:Bool):Prop:=∃r3:Int,zc4 cap0_ s_ r3∧r_=decide (0<r3)
def zih (d_:SDesc) (l_:(List (List SItem))) (r_:Bool):Prop:=∃r3:Bool,zbs l_ (fun q_=>zhu q_.1 d_ q_.2) r3∧r_=r3
def zcw.j1 (r_:(List (List SItem))) (l8:(List (List SItem))):Prop:=r_=l8
def zcw.l1 (d_:SDesc) (w_:(List Int)) (X1:(List (List SItem))→Prop):Nat→(List (List SItem))→Int→Prop
 | 0,_,_=>False
 | k_0+1,l12,v14=>((decide (v14<(w_.length:Int)))=true→∃e22:Int,at? w_ v14=some e22∧∃r26:(List (List SItem)),zcj d_ l12 e22 r26∧(InR .i64 (v14+1))∧zcw.l1 d_ w_ X1 k_0 r26 (v14+1))∧((decide (v14<(w_.length:Int)))=false→X1 l12)
def zcw (d_:SDesc) (w_:(List Int)) (r_:(List (List SItem))):Prop:=∃r3:(List (List SItem)),zhf d_ r3∧∃k15,zcw.l1 d_ w_ (zcw.j1 r_) k15 r3 0
def zb4.j1 (r_:(List Cl)) (out5:(List Cl)):Prop:=r_=out5
def zb4.l1 (d_:SDesc) (l_:(List (List SItem))) (X1:(List Cl)→Prop):Nat→(List Cl)→Int→Prop
 | 0,_,_=>False
 | k_0+1,out9,v11=>((decide (v11<(l_.length:Int)))=true→∃e19:(List SItem),at? l_ v11=some e19∧∃r21:(List Cl),zbl d_ e19 r21∧((out9.length+r21.length)*32≤140737488355328)∧(InR .i64 (v11+1))∧zb4.l1 d_ l_ X1 k_0 (out9++r21) (v11+1))∧((decide (v11<(l_.length:Int)))=false→X1 out9)
def zb4 (d_:SDesc) (l_:(List (List SItem))) (r_:(List Cl)):Prop:=∃k12,zb4.l1 d_ l_ (zb4.j1 r_) k12 ([]:(List Cl)) 0
def zc9.j1 (r_:(List Cl)) (out7:(List Cl)):Prop:=r_=out7
def zc9.l1 (l_:(List Cl)) (X1:(List Cl)→Prop):Nat→(List (Cl × Bool))→(List Cl)→Int→Prop
 | 0,_,_,_=>False
 | k_0+1,met11,out13,v15=>((decide (v15<(l_.length:Int)))=true→∃e24:Cl,at? l_ v15=some e24∧(((!(zea met11 e24 false)))=true→(out13.length+[e24].length≤2147483648)∧(InR .i64 (v15+1))∧zc9.l1 l_ X1 k_0 (zfa met11 e24 true) (out13++[e24]) (v15+1))∧(((!(zea met11 e24 false)))=false→(InR .i64 (v15+1))∧zc9.l1 l_ X1 k_0 (zfa met11 e24 true) out13 (v15+1)))∧((decide (v15<(l_.length:Int)))=false→X1 out13)
def zc9 (l_:(List Cl)) (r_:(List Cl)):Prop:=∃k16,zc9.l1 l_ (zc9.j1 r_) k16 ([]:(List (Cl × Bool))) ([]:(List Cl)) 0
def zi2 (d_:SDesc) (l_:(List (List SItem))) (r_:(List Int)):Prop:=∃r3:(List Cl),zb4 d_ l_ r3∧∃r5:(List Cl),zc9 r3 r5∧∃r7:(List Int),zci r5 r7∧r_=r7
set_option maxRecDepth 100000
theorem zka {d_:SDesc} {r_:(List (List SItem))} (h:zhf d_ r_):Fn Tryz.prog 17 [(Pd.rep En.SDesc d_)] (Ro (En.slice En.SItem) 47 r_):=by
 unfold zhf at h;refine zbx Tryz.func17 J Tryz.ntmps17 (by rfl) (by simp) fun s0 a L=>?_;refine wp_seq_k fun K1 H1=>rg (sw 1 (zcu (O 0 J) J J) L fun a s L=>?_);refine sw 2 (zb (zdg (E:=(En.slice En.SItem)) (N:=s0.w.heap.size) (te:=47)) J J) L fun a s L=>en' (H1 _ _ ?_);refine wp_seq_k fun K2 H2=>?_;obtain ⟨r3,h4,h⟩:=h;refine rg (sw 3 (zt zfl (O 1 J) J J) L fun a s L=>?_);refine sw 4 (zy ((zqs h4).frz) (xs:=[.tmp 3]) (.cons (O 3 J) .nil) J J) L fun a s L=>zfp (xs:=[.tmp 4]) 5 L (.cons (O 4 J) .nil) U25 zfv J J (by decide) J J J J fun a s g5 hg_ L=>?_;refine sw 2 (zb (O 5 J) J J) L fun a s L=>en' (H2 _ _ ?_);subst h;exact wp_ret (zjn J L J)
theorem zo3 {d_:SDesc} {l_:(List (List SItem))} {cv_:Int} {r_:(List (List SItem))} (h:zcj d_ l_ cv_ r_):Fn Tryz.prog 19 [(Pd.rep En.SDesc d_),(Pd.rep (En.slice (En.slice En.SItem)) l_),(Pd.rep (En.int .u8) cv_)] (Ro (En.slice En.SItem) 47 r_):=by
 unfold zcj at h;refine zbx Tryz.func19 J Tryz.ntmps19 (by rfl) (by simp) fun s0 a L=>?_;refine wp_seq_k fun K1 H1=>rg (sw 3 (zcu (O 0 J) J J) L fun a s L=>?_);refine sw 6 (zb (zdg (E:=(En.slice En.SItem)) (N:=s0.w.heap.size) (te:=47)) J J) L fun a s L=>en' (H1 _ _ ?_);refine wp_seq_k fun K2 H2=>rg (zi1 15 En.str kvStr (En.slice En.SItem) L J J J J fun a s g3 hg_ L=>?_);refine sw 7 (zb (O 15 J) J J) L fun a s L=>en' (H2 _ _ ?_);refine wp_seq_k fun K4 H4=>wp_seq_k fun K5 H5=>rg (sw 16 (zd (O 1 J) J J) L fun a s L=>?_);refine sw 17 (zc8 (O 16 J) U25 J J) L fun a s L=>sw 18 (zd oI J J) L fun a s L=>en' (H5 _ _ ?_);refine wp_block ?_;have J8:∀(found6:(List (Str × (List SItem)))) (og7:Option Nat) (a:Act) (s:St),Has N0 52 s0 a s [(7,(Pd.map En.str kvStr (En.slice En.SItem) s0.w.heap.size og7 found6))]→((zcj.j1 r_) found6)→K4 a s.w:=by
  intro found6 og7 a s L h;unfold zcj.j1 at h;show K4 a s.w;refine H4 _ _ (wp_seq_k fun K9 H9=>?_);refine rg (sw 12 (zb (zdg (E:=(En.slice En.SItem)) (N:=s0.w.heap.size) (te:=47)) J J) L fun a s L=>?_);refine en' (H9 _ _ ?_);refine wp_seq_k fun K10 H10=>wp_seq_k fun K11 H11=>?_;obtain ⟨q1,q2,q3,q4⟩:=h;refine rg ?_;obtain ⟨s2,hw,L⟩:=L.freezem (L':=[(12,Pd.row (En.slice En.SItem) s0.w.heap.size 47 none [])]) 7 rfl (.cons (t:=12) rfl no_own .nil);rw [← hw];clear hw;generalize s2=s at *;refine sw 39 (zd (O 7 J) J J) L fun a s L=>zpp 40 L (O 39 J) U78 J J J J fun a s r hr L=>?_;refine en' ?_;show K11 a s.w;refine H11 _ _ ?_;refine wp_block ?_;have JJ:∀(a:Act) (s:St) (og:Option Nat) (out:List (List SItem)),Has N0 52 s0 a s [(12,Pd.row (En.slice En.SItem) s0.w.heap.size 47 og out)]→out.Perm (found6.map (·.2))→K10 a s.w:=by
   intro a s og out L hp;have hsrt:zfq out r_:=⟨fun b hb=>q1 b (hp.mem_iff.1 hb),by rw [hp.length_eq];exact q2,q3.trans hp.symm,q4⟩;refine H10 _ _ (wp_seq_k fun K7 H7=>?_);refine rg (sw 49 (zd (O 12 J) J J) L fun a s L=>?_);refine zj8 (L':=[(12,Pd.row (En.slice En.SItem) s0.w.heap.size 47 og r_)]) 50 (fun v0=>zjj v0 hsrt) L (O 49 J) (zs:=[.func 58]) (.cons o_isf .nil) J J J J (.turn (t:=12) J .nil) fun a s L=>?_;refine en' ?_;show K7 a s.w;refine H7 _ _ ?_;refine wp_seq_k fun K8 H8=>rg (sw 51 (zd (O 12 J) J J) L fun a s L=>?_);refine sw 6 (zb (O 51 J) J J) L fun a s L=>en' ?_;show K8 a s.w;refine H8 _ _ ?_;exact wp_ret (zjn J L J)
  have hmlen:found6.length≤2147483648:=by simpa using q2
  refine lpg (fun k a s=>∃(rem:List (Str × List SItem)) (cur:Option (Str × List SItem)) (og:Option Nat) (out:List (List SItem)),rem.length+1=k∧Has N0 52 s0 a s [(12,Pd.row (En.slice En.SItem) s0.w.heap.size 47 og out),(40,Pd.iter En.str kvStr (En.slice En.SItem) s0.w.heap.size r rem cur)]∧(∀b,og=some b→¬ some r=some b)∧(out++rem.map (·.2)).Perm (found6.map (·.2)))
   (found6.length+1) ⟨found6,none,none,[],rfl,L.keep (.cons (t:=12) rfl (fun _ _ h_=>h_) (.cons (t:=40) rfl (fun _ _ h_=>h_) .nil)),(fun b hb=>by cases hb),by simp⟩ ?_
  rintro k a s ⟨rem,cur,og,out,hrk,L,hdis,hperm⟩ KL hKL;refine wp_seq_k fun K5 H5=>rg (st_next (L':=[(12,Pd.row (En.slice En.SItem) s0.w.heap.size 47 og out)]) 41 L (x:=40) J J J J J (by decide) (.cons (t:=12) J hdis .nil) (fun a hrem L=>?_) (fun a s p rem' hp L=>?_))
  ·subst hrem;refine sw 42 (t_nx (O 41 J) J J) L fun a s L=>en' ?_;show K5 a s.w;refine H5 _ _ ?_;refine wp_seq_k fun K6 H6=>cnd L J (fun hb3_=>by cases hb3_) (fun _=>?_);refine wp_exit ?_;exact JJ a s og out (L.keep (.cons (t:=12) J (fun _ _ h_=>h_) .nil)) (by simpa using hperm)
  refine sw 42 (t_nx (O 41 J) J J) L fun a s L=>en' ?_;show K5 a s.w;refine H5 _ _ ?_;refine wp_seq_k fun K6 H6=>cnd L J (fun _=>?_) (fun hb3_=>by cases hb3_);refine wp_skip ?_;show K6 a s.w;refine H6 _ _ ?_;refine wp_block (wp_seq_k fun K9 H9=>?_);refine rg (sw 43 (t_entry (O 40 J) (zei U9) J J) L fun a s L=>?_);refine sw 44 (zie (O 43 J) J J) L fun a s L=>sw 14 (zb (O 44 J) J J) L fun a s L=>en' ?_;show K9 a s.w;refine H9 _ _ ?_;refine rg ?_;have hpl:=hp.length_eq;simp only [List.length_cons] at hpl;have hol:out.length+(rem.length:Nat)=found6.length:=by
   have:=hperm.length_eq;simpa using this
  refine sw 45 (zd (O 12 J) J J) L fun a s L=>sw 46 (zd (O 14 J) J J) L fun a s L=>sw 47 (zec (xs:=[.tmp 46]) (.cons (O 46 J) .nil) U25 zfv J J (by decide) J J) L fun a s L=>?_;have lr:=L.ilt 40 rfl r rfl;refine zev (L':=[(40,Pd.iter En.str kvStr (En.slice En.SItem) s0.w.heap.size r rem' (some p))]) 48 L (O 45 J) (O 47 J) U25 zfv (by simp;omega) J J J J (.cons (t:=40) J (fun b hb e=>hdis b e hb) .nil) fun a s og' hg' L=>?_;refine sw 12 (zb (O 48 J) J J) L fun a s L=>en' (hKL (k-1) a s (by omega) ⟨rem',some p,og',out++[p.2],by omega,L.keep (.cons (t:=12) J (fun _ _ h_=>h_) (.cons (t:=40) J (fun _ _ h_=>h_) .nil)),fun b hb e=>?_, ?_⟩)
  ·rcases hg' b hb with h3 | h3
   ·exact hdis b h3 e
   ·cases e;omega
  ·refine List.Perm.trans ?_ hperm;have h5:=hp.map (·.2);rw [List.map_cons] at h5;rw [List.append_assoc,List.singleton_append];exact (h5.symm.append_left out)
 obtain ⟨k15,h⟩:=h;refine lpg (fun k16 a s=>∃(found12:(List (Str × (List SItem)))) (v14:Int) (og13:Option Nat),Has N0 52 s0 a s [(2,(Pd.rep (En.int .u8) cv_)),(3,(Pd.ptr En.SDesc d_)),(7,(Pd.map En.str kvStr (En.slice En.SItem) s0.w.heap.size og13 found12)),(16,(Pd.rep (En.slice (En.slice En.SItem)) l_)),(17,(Pi (l_.length:Int))),(18,(Pi v14))]∧zcj.l1 d_ l_ cv_ (zcj.j1 r_) k16 found12 v14) k15 ⟨([]:(List (Str × (List SItem)))),0,(some g3),L.keep (.k 2 (.k 3 (.cons (t:=7) J (fun _ _ h_=>h_) (.k 16 (.k 17 (.k 18 .nil)))))),h⟩ ?_;rintro k16 a s ⟨found12,v14,og13,L,h⟩ KL17 hKL17;cases k16 with
 | zero=>exact h.elim
 | succ k16=>
 unfold zcj.l1 at h;refine wp_seq_k fun K18 H18=>rg (sw 19 (zbz (O 18 J) (O 17 J) J J) L fun a s L=>?_);refine en' (H18 _ _ ?_);refine wp_seq_k fun K19 H19=>cnd L J (fun hb_=>?_) (fun hb_=>?_)
 ·replace h:=h.1 hb_;refine wp_skip ?_;show K19 a s.w;refine H19 _ _ (wp_seq_k fun K20 H20=>?_);refine wp_block (wp_seq_k fun K21 H21=>?_);obtain ⟨e22,h23,h⟩:=h;refine rg (sw 20 (zde (O 16 J) (O 18 J) h23 U25 zfv J J) L fun a s L=>?_);refine sw 21 (zt zfv (O 20 J) J J) L fun a s L=>sw 9 (zb (O 21 J) J J) L fun a s L=>en' (H21 _ _ ?_);refine wp_seq_k fun K24 H24=>?_;obtain ⟨r25,h26,h⟩:=h;refine rg (sw 22 (zt zfl (O 3 J) J J) L fun a s L=>?_);refine sw 23 (zd (O 9 J) J J) L fun a s L=>sw 24 (zd (O 2 J) J J) L fun a s L=>sw 25 (zy ((next_On_ok h26).frz) (xs:=[.tmp 22,.tmp 23,.tmp 24]) (.cons (O 22 J) (.cons (O 23 J) (.cons (O 24 J) .nil))) J J) L fun a s L=>sw 26 (zc8 (O 25 J) U79 J J) L fun a s L=>sw 27 (zd oI J J) L fun a s L=>en' (H24 _ _ ?_);refine wp_block ?_;have J29:∀(found27:(List (Str × (List SItem)))) (og28:Option Nat) (a:Act) (s:St),Has N0 52 s0 a s [(2,(Pd.rep (En.int .u8) cv_)),(3,(Pd.ptr En.SDesc d_)),(7,(Pd.map En.str kvStr (En.slice En.SItem) s0.w.heap.size og28 found27)),(16,(Pd.rep (En.slice (En.slice En.SItem)) l_)),(17,(Pi (l_.length:Int))),(18,(Pi v14))]→((zcj.j2 (zcj.l1 d_ l_ cv_ (zcj.j1 r_) k16) v14) found27)→K20 a s.w:=by
   intro found27 og28 a s L h;unfold zcj.j2 at h;show K20 a s.w;refine H20 _ _ ?_;obtain ⟨h30,h⟩:=h;refine rg (sw 38 (zbk (O 18 J) oI h30 J J) L fun a s L=>?_);refine sw 18 (zd (O 38 J) J J) L fun a s L=>en' ?_;exact hKL17 k16 a s (Nat.lt_succ_self _) ⟨found27,(v14+1),og28,L.keep (.k 2 (.k 3 (.cons (t:=7) J (fun _ _ h_=>h_) (.k 16 (.k 17 (.k 18 .nil)))))),h⟩
  obtain ⟨k34,h⟩:=h;refine lpg (fun k35 a s=>∃(found31:(List (Str × (List SItem)))) (v33:Int) (og32:Option Nat),Has N0 52 s0 a s [(2,(Pd.rep (En.int .u8) cv_)),(3,(Pd.ptr En.SDesc d_)),(7,(Pd.map En.str kvStr (En.slice En.SItem) s0.w.heap.size og32 found31)),(16,(Pd.rep (En.slice (En.slice En.SItem)) l_)),(17,(Pi (l_.length:Int))),(18,(Pi v14)),(25,(Pd.rep (En.slice En.SBranch) r25)),(26,(Pi (r25.length:Int))),(27,(Pi v33))]∧zcj.l2 r25 (zcj.j2 (zcj.l1 d_ l_ cv_ (zcj.j1 r_) k16) v14) k35 found31 v33) k34 ⟨found12,0,og13,L.keep (.k 2 (.k 3 (.cons (t:=7) J (fun _ _ h_=>h_) (.k 16 (.k 17 (.k 18 (.k 25 (.k 26 (.k 27 .nil))))))))),h⟩ ?_;rintro k35 a s ⟨found31,v33,og32,L,h⟩ KL36 hKL36;cases k35 with
  | zero=>exact h.elim
  | succ k35=>
  unfold zcj.l2 at h;refine wp_seq_k fun K37 H37=>rg (sw 28 (zbz (O 27 J) (O 26 J) J J) L fun a s L=>?_);refine en' (H37 _ _ ?_);refine wp_seq_k fun K38 H38=>cnd L J (fun hb_=>?_) (fun hb_=>?_)
  ·replace h:=h.1 hb_;refine wp_skip ?_;show K38 a s.w;refine H38 _ _ (wp_seq_k fun K39 H39=>?_);refine wp_block (wp_seq_k fun K40 H40=>?_);obtain ⟨e41,h42,h⟩:=h;refine rg (sw 29 (zde (O 25 J) (O 27 J) h42 U79 zmm J J) L fun a s L=>?_);refine sw 30 (zt zmm (O 29 J) J J) L fun a s L=>?_;have lt_d44:=L.mlt 7 rfl;refine zbf En.SBranch (z:=([],0)) 11 L zn2 J J J J fun a s g43 hg_ L=>?_;have d44:Dis (some g43) og32:=Dis.newg hg_ lt_d44;refine zby (L':=[(2,(Pd.rep (En.int .u8) cv_)),(3,(Pd.ptr En.SDesc d_)),(7,(Pd.map En.str kvStr (En.slice En.SItem) s0.w.heap.size og32 found31)),(16,(Pd.rep (En.slice (En.slice En.SItem)) l_)),(17,(Pi (l_.length:Int))),(18,(Pi v14)),(25,(Pd.rep (En.slice En.SBranch) r25)),(26,(Pi (r25.length:Int))),(27,(Pi v33))]) 11 L J (O 30 J) zmm J J J (.k 2 (.k 3 (.cons (t:=7) J (Dis.ow (Dis.symm d44)) (.k 16 (.k 17 (.k 18 (.k 25 (.k 26 (.k 27 .nil))))))))) fun s L=>?_;refine en' (H40 _ _ ?_);obtain ⟨r45,h46,h⟩:=h;refine rda zcm 6 [(Pd.map En.str kvStr (En.slice En.SItem) s0.w.heap.size og32 found31),(Pd.optr (En.slice En.SItem) s0.w.heap.size (some g43) (0) e41.1),(Pd.rep (En.slice En.SItem) e41.1),(Pd.rep En.str r45),(Pd.optr (En.slice En.SItem) s0.w.heap.size (some g43) (0) e41.1),(Pd.rep (En.slice En.SItem) e41.1)] L (by kernel_rfl) J J ?_ ?_
   ·refine z8.cons (zd (O 7 J) J J) ?_;refine z8.cons (zbj (off:=0) (O 11 J) U82 J (zm (zh _ _)) J zfv J J) (z8.cons (zp zfv (O 32 J) J J) ?_);refine z8.cons (zy (zh0 h46) (xs:=[.tmp 33]) (.cons (O 33 J) .nil) J J) (z8.cons (zbj (off:=0) (O 11 J) U82 J (zm (zh _ _)) J zfv J J) ?_);refine z8.cons (zp zfv (O 35 J) J J) ?_;exact z8.nil
   intro a s _ L;refine zgs (L':=[(2,(Pd.rep (En.int .u8) cv_)),(3,(Pd.ptr En.SDesc d_)),(7,(Pd.map En.str kvStr (En.slice En.SItem) s0.w.heap.size og32 (zfa found31 r45 e41.1))),(16,(Pd.rep (En.slice (En.slice En.SItem)) l_)),(17,(Pi (l_.length:Int))),(18,(Pi v14)),(25,(Pd.rep (En.slice En.SBranch) r25)),(26,(Pi (r25.length:Int))),(27,(Pi v33))]) L (O 31 J) (O 34 J) (O 36 J) U78 (zei U9) (.inl J) J J (.k 2 (.k 3 (.turn (t:=7) J (.k 16 (.k 17 (.k 18 (.k 25 (.k 26 (.k 27 .nil))))))))) fun s L=>?_;refine en' (H39 _ _ ?_);obtain ⟨h47,h⟩:=h;refine rg (sw 37 (zbk (O 27 J) oI h47 J J) L fun a s L=>?_);refine sw 27 (zd (O 37 J) J J) L fun a s L=>en' ?_;exact hKL36 k35 a s (Nat.lt_succ_self _) ⟨(zfa found31 r45 e41.1),(v33+1),og32,L.keep (.k 2 (.k 3 (.cons (t:=7) J (fun _ _ h_=>h_) (.k 16 (.k 17 (.k 18 (.k 25 (.k 26 (.k 27 .nil))))))))),h⟩
  ·replace h:=h.2 hb_;refine wp_exit ?_;exact J29 found31 og32 a s (L.keep (.k 2 (.k 3 (.cons (t:=7) J (fun _ _ h_=>h_) (.k 16 (.k 17 (.k 18 .nil))))))) h
 ·replace h:=h.2 hb_;refine wp_exit ?_;exact J8 found12 og13 a s (L.keep (.cons (t:=7) J (fun _ _ h_=>h_) .nil)) h
theorem zoa {s_:(List SItem)} {cap0_:SDesc} {r_:Bool} (h:zhu s_ cap0_ r_):Fn Tryz.prog 62 [(Pd.rep (En.slice En.SItem) s_),(Pd.ptr En.SDesc cap0_)] (Rq (Pd.rep En.bool r_)):=by
 unfold zhu at h;refine zbx Tryz.func62 J Tryz.ntmps62 (by rfl) (by simp) fun s0 a L=>?_;refine wp_seq_k fun K1 H1=>rg (sw 3 (zb o_b J J) L fun a s L=>?_);refine en' (H1 _ _ ?_);refine wp_seq_k fun K2 H2=>?_;obtain ⟨r3,h4,h⟩:=h;refine rg (sw 4 (zt zfl (O 1 J) J J) L fun a s L=>?_);refine sw 5 (zd (O 0 J) J J) L fun a s L=>sw 6 (zy (next_Ends_ok h4) (xs:=[.tmp 4,.tmp 5]) (.cons (O 4 J) (.cons (O 5 J) .nil)) J J) L fun a s L=>sw 7 (zhd (O 6 J) oI J J) L fun a s L=>sw 3 (zb (O 7 J) J J) L fun a s L=>en' (H2 _ _ ?_);subst h;exact wp_ret (zdu J L J)
theorem zlp {d_:SDesc} {l_:(List (List SItem))} {r_:Bool} (h:zih d_ l_ r_):Fn Tryz.prog 21 [(Pd.rep En.SDesc d_),(Pd.rep (En.slice (En.slice En.SItem)) l_)] (Rq (Pd.rep En.bool r_)):=by
 unfold zih at h;refine zbx Tryz.func21 J Tryz.ntmps21 (by rfl) (by simp) fun s0 a L=>?_;refine wp_seq_k fun K1 H1=>rg (sw 2 (zcu (O 0 J) J J) L fun a s L=>?_);refine sw 4 (zb o_b J J) L fun a s L=>en' (H1 _ _ ?_);refine wp_seq_k fun K2 H2=>?_;obtain ⟨r3,h4,h⟩:=h;refine rg (sw 5 (zd (O 1 J) J J) L fun a s L=>?_);refine sw 6 (t_q (Pd.rep EnF88 (fun q_=>zhu q_.1 d_ q_.2)) (t_mkfun (cs:=[.tmp 2]) (.cons (O 2 J) .nil) (ze6 Tryz.func62 J (by rfl)) (zme enc_ptr zq0) (fun q_ h_=>zoa h_) J J)) L fun a s L=>sw 7 (zy (zd7 h4) (xs:=[.tmp 5,.tmp 6]) (.cons (O 5 J) (.cons (O 6 J) .nil)) J J) L fun a s L=>sw 4 (zb (O 7 J) J J) L fun a s L=>en' (H2 _ _ ?_);subst h;exact wp_ret (zdu J L J)
theorem zpr {d_:SDesc} {w_:(List Int)} {r_:(List (List SItem))} (h:zcw d_ w_ r_):Fn Tryz.prog 31 [(Pd.rep En.SDesc d_),(Pd.rep (En.slice (En.int .u8)) w_)] (Ro (En.slice En.SItem) 47 r_):=by
 unfold zcw at h;refine zbx Tryz.func31 J Tryz.ntmps31 (by rfl) (by simp) fun s0 a L=>?_;refine wp_seq_k fun K1 H1=>rg (sw 2 (zcu (O 0 J) J J) L fun a s L=>?_);refine sw 4 (zb (zdg (E:=(En.slice En.SItem)) (N:=s0.w.heap.size) (te:=47)) J J) L fun a s L=>en' (H1 _ _ ?_);refine wp_seq_k fun K2 H2=>?_;obtain ⟨r3,h4,h⟩:=h;refine rg (sw 8 (zt zfl (O 2 J) J J) L fun a s L=>?_);refine zfx 9 L (zka h4) (xs:=[.tmp 8]) (.cons (O 8 J) .nil) J J J J fun a s og5 hg_ L=>?_;refine sw 5 (zb (O 9 J) J J) L fun a s L=>en' (H2 _ _ ?_);refine wp_seq_k fun K6 H6=>wp_seq_k fun K7 H7=>rg (sw 10 (zd (O 1 J) J J) L fun a s L=>?_);refine sw 11 (zc8 (O 10 J) U26 J J) L fun a s L=>sw 12 (zd oI J J) L fun a s L=>en' (H7 _ _ ?_);refine wp_block ?_;have J10:∀(l8:(List (List SItem))) (og9:Option Nat) (a:Act) (s:St),Has N0 22 s0 a s [(5,(Pd.row (En.slice En.SItem) s0.w.heap.size 47 og9 l8))]→((zcw.j1 r_) l8)→K6 a s.w:=by
  intro l8 og9 a s L h;unfold zcw.j1 at h;show K6 a s.w;refine H6 _ _ (wp_seq_k fun K11 H11=>?_);refine rg (sw 21 (zd (O 5 J) J J) L fun a s L=>?_);refine sw 4 (zb (O 21 J) J J) L fun a s L=>en' (H11 _ _ ?_);subst h;exact wp_ret (zjn J L J)
 obtain ⟨k15,h⟩:=h;refine lpg (fun k16 a s=>∃(l12:(List (List SItem))) (v14:Int) (og13:Option Nat),Has N0 22 s0 a s [(2,(Pd.ptr En.SDesc d_)),(5,(Pd.row (En.slice En.SItem) s0.w.heap.size 47 og13 l12)),(10,(Pd.rep (En.slice (En.int .u8)) w_)),(11,(Pi (w_.length:Int))),(12,(Pi v14))]∧zcw.l1 d_ w_ (zcw.j1 r_) k16 l12 v14) k15 ⟨r3,0,og5,L.keep (.k 2 (.cons (t:=5) J (fun _ _ h_=>h_) (.k 10 (.k 11 (.k 12 .nil))))),h⟩ ?_;rintro k16 a s ⟨l12,v14,og13,L,h⟩ KL17 hKL17;cases k16 with
 | zero=>exact h.elim
 | succ k16=>
 unfold zcw.l1 at h;refine wp_seq_k fun K18 H18=>rg (sw 13 (zbz (O 12 J) (O 11 J) J J) L fun a s L=>?_);refine en' (H18 _ _ ?_);refine wp_seq_k fun K19 H19=>cnd L J (fun hb_=>?_) (fun hb_=>?_)
 ·replace h:=h.1 hb_;refine wp_skip ?_;show K19 a s.w;refine H19 _ _ (wp_seq_k fun K20 H20=>?_);refine wp_block (wp_seq_k fun K21 H21=>?_);obtain ⟨e22,h23,h⟩:=h;refine rg (sw 14 (zde (O 10 J) (O 12 J) h23 U26 ty5 J J) L fun a s L=>?_);refine sw 15 (zt ty5 (O 14 J) J J) L fun a s L=>sw 7 (zb (O 15 J) J J) L fun a s L=>en' (H21 _ _ ?_);obtain ⟨s25,h24,L⟩:=L.freeze (L':=[(2,(Pd.ptr En.SDesc d_)),(7,(Pd.rep (En.int .u8) e22)),(10,(Pd.rep (En.slice (En.int .u8)) w_)),(11,(Pi (w_.length:Int))),(12,(Pi v14))]) 5 rfl (.cons (t:=2) rfl nE (.cons (t:=7) rfl nE (.cons (t:=10) rfl nE (.cons (t:=11) rfl nE (.cons (t:=12) rfl nE .nil)))));rw [← h24];clear h24;generalize s25=s at *;obtain ⟨r26,h27,h⟩:=h;refine rg (sw 16 (zt zfl (O 2 J) J J) L fun a s L=>?_);refine sw 17 (zd (O 5 J) J J) L fun a s L=>sw 18 (zd (O 7 J) J J) L fun a s L=>zfx 19 L (zo3 h27) (xs:=[.tmp 16,.tmp 17,.tmp 18]) (.cons (O 16 J) (.cons (O 17 J) (.cons (O 18 J) .nil))) J J J J fun a s og28 hg_ L=>?_;refine sw 5 (zb (O 19 J) J J) L fun a s L=>en' (H20 _ _ ?_);obtain ⟨h29,h⟩:=h;refine rg (sw 20 (zbk (O 12 J) oI h29 J J) L fun a s L=>?_);refine sw 12 (zd (O 20 J) J J) L fun a s L=>en' ?_;exact hKL17 k16 a s (Nat.lt_succ_self _) ⟨r26,(v14+1),og28,L.keep (.k 2 (.cons (t:=5) J (fun _ _ h_=>h_) (.k 10 (.k 11 (.k 12 .nil))))),h⟩
 ·replace h:=h.2 hb_;refine wp_exit ?_;exact J10 l12 og13 a s (L.keep (.cons (t:=5) J (fun _ _ h_=>h_) .nil)) h
theorem zm0 {d_:SDesc} {l_:(List (List SItem))} {r_:(List Cl)} (h:zb4 d_ l_ r_):Fn Tryz.prog 27 [(Pd.rep En.SDesc d_),(Pd.rep (En.slice (En.slice En.SItem)) l_)] (Ro En.cls 51 r_):=by
 unfold zb4 at h;refine zbx Tryz.func27 J Tryz.ntmps27 (by rfl) (by simp) fun s0 a L=>?_;refine wp_seq_k fun K1 H1=>rg (sw 2 (zcu (O 0 J) J J) L fun a s L=>?_);refine sw 4 (zb (zdg (E:=En.cls) (N:=s0.w.heap.size) (te:=51)) J J) L fun a s L=>en' (H1 _ _ ?_);refine wp_seq_k fun K2 H2=>rg (sw 5 (zb (zdg (E:=En.cls) (N:=s0.w.heap.size) (te:=51)) J J) L fun a s L=>?_);refine en' (H2 _ _ ?_);refine wp_seq_k fun K3 H3=>wp_seq_k fun K4 H4=>rg (sw 8 (zd (O 1 J) J J) L fun a s L=>?_);refine sw 9 (zc8 (O 8 J) U25 J J) L fun a s L=>sw 10 (zd oI J J) L fun a s L=>en' (H4 _ _ ?_);refine wp_block ?_;have J7:∀(out5:(List Cl)) (og6:Option Nat) (a:Act) (s:St),Has N0 21 s0 a s [(5,(Pd.row En.cls s0.w.heap.size 51 og6 out5))]→((zb4.j1 r_) out5)→K3 a s.w:=by
  intro out5 og6 a s L h;unfold zb4.j1 at h;show K3 a s.w;refine H3 _ _ (wp_seq_k fun K8 H8=>?_);refine rg (sw 20 (zd (O 5 J) J J) L fun a s L=>?_);refine sw 4 (zb (O 20 J) J J) L fun a s L=>en' (H8 _ _ ?_);subst h;exact wp_ret (zjn J L J)
 obtain ⟨k12,h⟩:=h;refine lpg (fun k13 a s=>∃(out9:(List Cl)) (v11:Int) (og10:Option Nat),Has N0 21 s0 a s [(2,(Pd.ptr En.SDesc d_)),(5,(Pd.row En.cls s0.w.heap.size 51 og10 out9)),(8,(Pd.rep (En.slice (En.slice En.SItem)) l_)),(9,(Pi (l_.length:Int))),(10,(Pi v11))]∧zb4.l1 d_ l_ (zb4.j1 r_) k13 out9 v11) k12 ⟨([]:(List Cl)),0,none,L.keep (.k 2 (.cons (t:=5) J (fun _ _ h_=>h_) (.k 8 (.k 9 (.k 10 .nil))))),h⟩ ?_;rintro k13 a s ⟨out9,v11,og10,L,h⟩ KL14 hKL14;cases k13 with
 | zero=>exact h.elim
 | succ k13=>
 unfold zb4.l1 at h;refine wp_seq_k fun K15 H15=>rg (sw 11 (zbz (O 10 J) (O 9 J) J J) L fun a s L=>?_);refine en' (H15 _ _ ?_);refine wp_seq_k fun K16 H16=>cnd L J (fun hb_=>?_) (fun hb_=>?_)
 ·replace h:=h.1 hb_;refine wp_skip ?_;show K16 a s.w;refine H16 _ _ (wp_seq_k fun K17 H17=>?_);refine wp_block (wp_seq_k fun K18 H18=>?_);obtain ⟨e19,h20,h⟩:=h;refine rg (sw 12 (zde (O 8 J) (O 10 J) h20 U25 zfv J J) L fun a s L=>?_);refine sw 13 (zt zfv (O 12 J) J J) L fun a s L=>sw 7 (zb (O 13 J) J J) L fun a s L=>en' (H18 _ _ ?_);obtain ⟨r21,h22,h23,h⟩:=h;refine rg (sw 14 (zd (O 5 J) J J) L fun a s L=>?_);refine sw 15 (zt zfl (O 2 J) J J) L fun a s L=>sw 16 (zd (O 7 J) J J) L fun a s L=>sw 17 (zy ((zne h22).frz) (xs:=[.tmp 15,.tmp 16]) (.cons (O 15 J) (.cons (O 16 J) .nil)) J J) L fun a s L=>st_appB (L':=[(2,(Pd.ptr En.SDesc d_)),(8,(Pd.rep (En.slice (En.slice En.SItem)) l_)),(9,(Pi (l_.length:Int))),(10,(Pi v11))]) 18 32 L (O 14 J) (O 17 J) U36 zco (by decide) ⟨_,J,by decide⟩ h23 J J J J (.k 2 (.k 8 (.k 9 (.k 10 .nil)))) fun a s og24 hg_ L=>?_;refine sw 5 (zb (O 18 J) J J) L fun a s L=>en' (H17 _ _ ?_);obtain ⟨h25,h⟩:=h;refine rg (sw 19 (zbk (O 10 J) oI h25 J J) L fun a s L=>?_);refine sw 10 (zd (O 19 J) J J) L fun a s L=>en' ?_;exact hKL14 k13 a s (Nat.lt_succ_self _) ⟨(out9++r21),(v11+1),og24,L.keep (.k 2 (.cons (t:=5) J (fun _ _ h_=>h_) (.k 8 (.k 9 (.k 10 .nil))))),h⟩
 ·replace h:=h.2 hb_;refine wp_exit ?_;exact J7 out9 og10 a s (L.keep (.cons (t:=5) J (fun _ _ h_=>h_) .nil)) h
theorem sets_Once_ok {l_:(List Cl)} {r_:(List Cl)} (h:zc9 l_ r_):Fn Tryz.prog 29 [(Pd.rep (En.slice En.cls) l_)] (Ro En.cls 51 r_):=by
 unfold zc9 at h;refine zbx Tryz.func29 J Tryz.ntmps29 (by rfl) (by simp) fun s0 a L=>?_;refine wp_seq_k fun K1 H1=>rg (sw 2 (zb (zdg (E:=En.cls) (N:=s0.w.heap.size) (te:=51)) J J) L fun a s L=>?_);refine en' (H1 _ _ ?_);refine wp_seq_k fun K2 H2=>rg (zi1 7 En.cls kvCls En.bool L J J J J fun a s g3 hg_ L=>?_);refine sw 3 (zb (O 7 J) J J) L fun a s L=>en' (H2 _ _ ?_);refine wp_seq_k fun K4 H4=>rg (sw 4 (zb (zdg (E:=En.cls) (N:=s0.w.heap.size) (te:=51)) J J) L fun a s L=>?_);refine en' (H4 _ _ ?_);refine wp_seq_k fun K5 H5=>wp_seq_k fun K6 H6=>rg (sw 8 (zd (O 0 J) J J) L fun a s L=>?_);refine sw 9 (zc8 (O 8 J) U36 J J) L fun a s L=>sw 10 (zd oI J J) L fun a s L=>en' (H6 _ _ ?_);refine wp_block ?_;have J9:∀(out7:(List Cl)) (og8:Option Nat) (a:Act) (s:St),Has N0 26 s0 a s [(4,(Pd.row En.cls s0.w.heap.size 51 og8 out7))]→((zc9.j1 r_) out7)→K5 a s.w:=by
  intro out7 og8 a s L h;unfold zc9.j1 at h;show K5 a s.w;refine H5 _ _ (wp_seq_k fun K10 H10=>?_);refine rg (sw 25 (zd (O 4 J) J J) L fun a s L=>?_);refine sw 2 (zb (O 25 J) J J) L fun a s L=>en' (H10 _ _ ?_);subst h;exact wp_ret (zjn J L J)
 obtain ⟨k16,h⟩:=h;refine lpg (fun k17 a s=>∃(met11:(List (Cl × Bool))) (out13:(List Cl)) (v15:Int) (og12:Option Nat) (og14:Option Nat),Has N0 26 s0 a s [(3,(Pd.map En.cls kvCls En.bool s0.w.heap.size og12 met11)),(4,(Pd.row En.cls s0.w.heap.size 51 og14 out13)),(8,(Pd.rep (En.slice En.cls) l_)),(9,(Pi (l_.length:Int))),(10,(Pi v15))]∧Dis og12 og14∧zc9.l1 l_ (zc9.j1 r_) k17 met11 out13 v15) k16 ⟨([]:(List (Cl × Bool))),([]:(List Cl)),0,(some g3),none,L.keep (.cons (t:=3) J (fun _ _ h_=>h_) (.cons (t:=4) J (fun _ _ h_=>h_) (.k 8 (.k 9 (.k 10 .nil))))),(Dis.symm Dis.none),h⟩ ?_;rintro k17 a s ⟨met11,out13,v15,og12,og14,L,d19,h⟩ KL18 hKL18;cases k17 with
 | zero=>exact h.elim
 | succ k17=>
 unfold zc9.l1 at h;refine wp_seq_k fun K20 H20=>rg (sw 11 (zbz (O 10 J) (O 9 J) J J) L fun a s L=>?_);refine en' (H20 _ _ ?_);refine wp_seq_k fun K21 H21=>cnd L J (fun hb_=>?_) (fun hb_=>?_)
 ·replace h:=h.1 hb_;refine wp_skip ?_;show K21 a s.w;refine H21 _ _ (wp_seq_k fun K22 H22=>?_);refine wp_block (wp_seq_k fun K23 H23=>?_);obtain ⟨e24,h25,h⟩:=h;refine rg (sw 12 (zde (O 8 J) (O 10 J) h25 U36 zco J J) L fun a s L=>?_);refine sw 13 (zt zco (O 12 J) J J) L fun a s L=>?_;have lt_d28:=L.rlt 4 rfl;have lt_d27:=L.mlt 3 rfl;refine zbf En.cls (z:=(0#256)) 6 L zj4 J J J J fun a s g26 hg_ L=>?_;have d27:Dis (some g26) og12:=Dis.newg hg_ lt_d27;have d28:Dis (some g26) og14:=Dis.newg hg_ lt_d28;refine zby (L':=[(3,(Pd.map En.cls kvCls En.bool s0.w.heap.size og12 met11)),(4,(Pd.row En.cls s0.w.heap.size 51 og14 out13)),(8,(Pd.rep (En.slice En.cls) l_)),(9,(Pi (l_.length:Int))),(10,(Pi v15))]) 6 L J (O 13 J) zco J J J (.cons (t:=3) J (Dis.ow (Dis.symm d27)) (.cons (t:=4) J (Dis.ow (Dis.symm d28)) (.k 8 (.k 9 (.k 10 .nil))))) fun s L=>?_;refine en' (H23 _ _ ?_);refine wp_seq_k fun K29 H29=>wp_seq_k fun K30 H30=>rg (sw 14 (zd (O 3 J) J J) L fun a s L=>?_);refine sw 15 (zbr zco (O 6 J) J J) L fun a s L=>sw 16 (zoy (O 14 J) (O 15 J) U90 zqo tyv4 J J) L fun a s L=>sw 17 (zia (O 16 J) J J) L fun a s L=>en' (H30 _ _ ?_);refine cnd L J (fun hb_=>?_) (fun hb_=>?_)
  ·obtain ⟨h31,h⟩:=h.1 hb_;refine rg (sw 18 (zd (O 4 J) J J) L fun a s L=>?_);refine sw 19 (zbr zco (O 6 J) J J) L fun a s L=>sw 20 (zec (xs:=[.tmp 19]) (.cons (O 19 J) .nil) U36 zco J J (by decide) J J) L fun a s L=>?_;have lt_og32_0:=L.mlt 3 rfl;have lt_og32_1:=L.blt 6 rfl;refine zev (L':=[(3,(Pd.map En.cls kvCls En.bool s0.w.heap.size og12 met11)),(6,(Pd.box En.cls s0.w.heap.size g26 e24)),(8,(Pd.rep (En.slice En.cls) l_)),(9,(Pi (l_.length:Int))),(10,(Pi v15))]) 21 L (O 18 J) (O 20 J) U36 zco h31 J J J J (.cons (t:=3) J (Dis.ow d19) (.cons (t:=6) J (Dis.bx d28) (.k 8 (.k 9 (.k 10 .nil))))) fun a s og32 hg_ L=>?_;have d33:Dis og32 og12:=Dis.app hg_ (Dis.symm d19) lt_og32_0;have d34:Dis og32 (some g26):=Dis.app hg_ (Dis.symm d28) lt_og32_1;refine sw 4 (zb (O 21 J) J J) L fun a s L=>en' (H29 _ _ ?_);refine rg (sw 22 (zd (O 3 J) J J) L fun a s L=>?_);refine sw 23 (zbr zco (O 6 J) J J) L fun a s L=>zgs (L':=[(3,(Pd.map En.cls kvCls En.bool s0.w.heap.size og12 (zfa met11 e24 true))),(4,(Pd.row En.cls s0.w.heap.size 51 og32 (out13++[e24]))),(8,(Pd.rep (En.slice En.cls) l_)),(9,(Pi (l_.length:Int))),(10,(Pi v15))]) L (O 22 J) (O 23 J) o_b U90 zqo (.inl J) J J (.turn (t:=3) J (.cons (t:=4) J (Dis.ow d33) (.k 8 (.k 9 (.k 10 .nil))))) fun s L=>?_;refine en' (H22 _ _ ?_);obtain ⟨h35,h⟩:=h;refine rg (sw 24 (zbk (O 10 J) oI h35 J J) L fun a s L=>?_);refine sw 10 (zd (O 24 J) J J) L fun a s L=>en' ?_;exact hKL18 k17 a s (Nat.lt_succ_self _) ⟨(zfa met11 e24 true),(out13++[e24]),(v15+1),og12,og32,L.keep (.cons (t:=3) J (fun _ _ h_=>h_) (.cons (t:=4) J (fun _ _ h_=>h_) (.k 8 (.k 9 (.k 10 .nil))))),(Dis.symm d33),h⟩
  ·replace h:=h.2 hb_;refine wp_skip ?_;show K29 a s.w;refine H29 _ _ (rg ?_);refine sw 22 (zd (O 3 J) J J) L fun a s L=>sw 23 (zbr zco (O 6 J) J J) L fun a s L=>zgs (L':=[(3,(Pd.map En.cls kvCls En.bool s0.w.heap.size og12 (zfa met11 e24 true))),(4,(Pd.row En.cls s0.w.heap.size 51 og14 out13)),(8,(Pd.rep (En.slice En.cls) l_)),(9,(Pi (l_.length:Int))),(10,(Pi v15))]) L (O 22 J) (O 23 J) o_b U90 zqo (.inl J) J J (.turn (t:=3) J (.cons (t:=4) J (Dis.ow (Dis.symm d19)) (.k 8 (.k 9 (.k 10 .nil))))) fun s L=>?_;refine en' (H22 _ _ ?_);obtain ⟨h36,h⟩:=h;refine rg (sw 24 (zbk (O 10 J) oI h36 J J) L fun a s L=>?_);refine sw 10 (zd (O 24 J) J J) L fun a s L=>en' ?_;exact hKL18 k17 a s (Nat.lt_succ_self _) ⟨(zfa met11 e24 true),out13,(v15+1),og12,og14,L.keep (.cons (t:=3) J (fun _ _ h_=>h_) (.cons (t:=4) J (fun _ _ h_=>h_) (.k 8 (.k 9 (.k 10 .nil))))),d19,h⟩
 ·replace h:=h.2 hb_;refine wp_exit ?_;exact J9 out13 og14 a s (L.keep (.cons (t:=4) J (fun _ _ h_=>h_) .nil)) h
theorem zpq {d_:SDesc} {l_:(List (List SItem))} {r_:(List Int)} (h:zi2 d_ l_ r_):Fn Tryz.prog 24 [(Pd.rep En.SDesc d_),(Pd.rep (En.slice (En.slice En.SItem)) l_)] (Ro (En.int .u8) 5 r_):=by
 unfold zi2 at h;refine zbx Tryz.func24 J Tryz.ntmps24 (by rfl) (by simp) fun s0 a L=>?_;refine wp_seq_k fun K1 H1=>rg (sw 2 (zcu (O 0 J) J J) L fun a s L=>?_);refine sw 4 (zb (zdg (E:=(En.int .u8)) (N:=s0.w.heap.size) (te:=5)) J J) L fun a s L=>en' (H1 _ _ ?_);refine wp_seq_k fun K2 H2=>?_;obtain ⟨r3,h4,r5,h6,r7,h8,h⟩:=h;refine rg (sw 5 (zt zfl (O 2 J) J J) L fun a s L=>?_);refine sw 6 (zd (O 1 J) J J) L fun a s L=>sw 7 (zy ((zm0 h4).frz) (xs:=[.tmp 5,.tmp 6]) (.cons (O 5 J) (.cons (O 6 J) .nil)) J J) L fun a s L=>sw 8 (zy ((sets_Once_ok h6).frz) (xs:=[.tmp 7]) (.cons (O 7 J) .nil) J J) L fun a s L=>zfx 9 L (zn8 h8) (xs:=[.tmp 8]) (.cons (O 8 J) .nil) J J J J fun a s og9 hg_ L=>?_;refine sw 4 (zb (O 9 J) J J) L fun a s L=>en' (H2 _ _ ?_);subst h;exact wp_ret (zjn J L J)
def zbb.j1 (r_:(List Int)) (out4:(List Int)):Prop:=∃r8:(List Int),z7 out4 r8∧r_=r8
def zbb.l1 (l_:(List Smade_scantling_api_State_search)) (X1:(List Int)→Prop):Nat→Int→(List Int)→Prop
 | 0,_,_=>False
 | k_0+1,i11,out12=>∃e19:Smade_scantling_api_State_search,at? l_ i11=some e19∧((decide (0≤e19.2.1))=true→∃e22:Smade_scantling_api_State_search,at? l_ i11=some e22∧(out12.length+[e22.2.2].length≤2147483648)∧∃e26:Smade_scantling_api_State_search,at? l_ i11=some e26∧zbb.l1 l_ X1 k_0 e26.2.1 (out12++[e22.2.2]))∧((decide (0≤e19.2.1))=false→X1 out12)
def zbb (l_:(List Smade_scantling_api_State_search)) (i_:Int) (r_:(List Int)):Prop:=∃k14,zbb.l1 l_ (zbb.j1 r_) k14 i_ ([]:(List Int))
def zj.j1 (r_:SFound_scantling_api_State_search) (v14:SFound_scantling_api_State_search) (list15:(List Smade_scantling_api_State_search)):Prop:=r_=((1,[],[],0,0,0,(list15.length:Int)),[])
def zj.j2 (L1_:SFound_scantling_api_State_search→(List Smade_scantling_api_State_search)→(List (Str × Bool))→Int→Prop) (v20:SFound_scantling_api_State_search) (i25:Int) (list54:(List Smade_scantling_api_State_search)) (seen56:(List (Str × Bool))):Prop:=(InR .i64 (i25+1))∧L1_ v20 list54 seen56 (i25+1)
def zj.l2 (s_:SSpace_scantling_api_State_search) (i25:Int) (r52:(List SOn_scantling_api_State_search)) (X2:(List Smade_scantling_api_State_search)→(List (Str × Bool))→Prop):Nat→(List Smade_scantling_api_State_search)→(List (Str × Bool))→Int→Prop
 | 0,_,_,_=>False
 | k_0+1,list63,seen65,v67=>((decide (v67<(r52.length:Int)))=true→∃e78:SOn_scantling_api_State_search,at? r52 v67=some e78∧∃r85:Str,s_.2.1 (e78.2,r85)∧(((!(zea seen65 r85 false)))=true→(list63.length+[(e78.2,i25,e78.1)].length≤2147483648)∧(InR .i64 (v67+1))∧zj.l2 s_ i25 r52 X2 k_0 (list63++[(e78.2,i25,e78.1)]) (zfa seen65 r85 true) (v67+1))∧(((!(zea seen65 r85 false)))=false→(InR .i64 (v67+1))∧zj.l2 s_ i25 r52 X2 k_0 list63 seen65 (v67+1)))∧((decide (v67<(r52.length:Int)))=false→X2 list63 seen65)
def zj.l1 (s_:SSpace_scantling_api_State_search) (budget_:Int) (r_:SFound_scantling_api_State_search) (X1:SFound_scantling_api_State_search→(List Smade_scantling_api_State_search)→Prop):Nat→SFound_scantling_api_State_search→(List Smade_scantling_api_State_search)→(List (Str × Bool))→Int→Prop
 | 0,_,_,_,_=>False
 | k_0+1,v20,list21,seen23,i25=>((decide (i25<(list21.length:Int)))=true→((decide (budget_≤i25))=true→r_=((3,[],[],0,0,0,(max budget_ 0)),[]))∧((decide (budget_≤i25))=false→∃e39:Smade_scantling_api_State_search,at? list21 i25=some e39∧∃r43:Bool,s_.2.2.2 (e39.1,r43)∧((r43)=true→∃r48:(List Int),zbb list21 i25 r48∧(InR .i64 (i25+1))∧r_=((2,r48,[],0,0,0,i25+1),e39.1))∧((r43)=false→∃r52:(List SOn_scantling_api_State_search),s_.2.2.1 (e39.1,r52)∧∃k68,zj.l2 s_ i25 r52 (zj.j2 (zj.l1 s_ budget_ r_ X1 k_0) v20 i25) k68 list21 seen23 0)))∧((decide (i25<(list21.length:Int)))=false→X1 v20 list21)
def zj (s_:SSpace_scantling_api_State_search) (budget_:Int) (r_:SFound_scantling_api_State_search):Prop:=∃r10:Str,s_.2.1 (s_.1,r10)∧∃k26,zj.l1 s_ budget_ r_ (zj.j1 r_) k26 ((0,[],[],0,0,0,0),[]) [(s_.1,(-1),0)] (zfa ([]:(List (Str × Bool))) r10 true) 0
def zi5 (a_:SVerdict) (b_:SVerdict) (r_:Bool):Prop:=∃r3:Bool,((((a_.1==b_.1))=true)→zb7 a_.2.1 b_.2.1 r3)∧∃r5:Bool,(((((a_.1==b_.1)&&r3))=true)→zb7 a_.2.2.1 b_.2.2.1 r5)∧∃b7:Bool,b7=((((a_.1==b_.1)&&r3)&&r5)&&(a_.2.2.2.1==b_.2.2.2.1))∧∃b9:Bool,b9=((b7&&(a_.2.2.2.2.1==b_.2.2.2.2.1))&&(a_.2.2.2.2.2.1==b_.2.2.2.2.2.1))∧r_=(b9&&(a_.2.2.2.2.2.2==b_.2.2.2.2.2.2))
set_option maxRecDepth 100000
theorem zhh {l_:(List Smade_scantling_api_State_search)} {i_:Int} {r_:(List Int)} (h:zbb l_ i_ r_):Fn Tryz.prog 113 [(Pd.rep (En.slice En.Smade_scantling_api_State_search) l_),(Pi i_)] (Ro (En.int .u8) 5 r_):=by
 unfold zbb at h;refine zbx Tryz.func113 J Tryz.ntmps113 (by rfl) (by simp) fun s0 a L=>?_;refine wp_seq_k fun K1 H1=>rg (sw 4 (zb (zdg (E:=(En.int .u8)) (N:=s0.w.heap.size) (te:=5)) J J) L fun a s L=>?_);refine en' (H1 _ _ ?_);refine wp_seq_k fun K2 H2=>rg (sw 5 (zb (zdg (E:=(En.int .u8)) (N:=s0.w.heap.size) (te:=5)) J J) L fun a s L=>?_);refine en' (H2 _ _ ?_);refine wp_seq_k fun K3 H3=>wp_block ?_;have J6:∀(out4:(List Int)) (og5:Option Nat) (a:Act) (s:St),Has N0 28 s0 a s [(5,(Pd.row (En.int .u8) s0.w.heap.size 5 og5 out4))]→((zbb.j1 r_) out4)→K3 a s.w:=by
  intro out4 og5 a s L h;unfold zbb.j1 at h;show K3 a s.w;refine H3 _ _ (wp_seq_k fun K7 H7=>?_);obtain ⟨r8,h9,h⟩:=h;refine rg (sw 25 (zd (O 5 J) J J) L fun a s L=>?_);refine zj8 (L':=[(5,(Pd.row (En.int .u8) s0.w.heap.size 5 og5 r8))]) 26 (fun v0=>zgh v0 h9) L (O 25 J) (zs:=[]) .nil J J J J (.turn (t:=5) J .nil) fun a s L=>?_;refine en' (H7 _ _ ?_);refine wp_seq_k fun K10 H10=>rg (sw 27 (zd (O 5 J) J J) L fun a s L=>?_);refine sw 4 (zb (O 27 J) J J) L fun a s L=>en' (H10 _ _ ?_);subst h;exact wp_ret (zjn J L J)
 obtain ⟨k14,h⟩:=h;refine lpg (fun k15 a s=>∃(i11:Int) (out12:(List Int)) (og13:Option Nat),Has N0 28 s0 a s [(0,(Pd.rep (En.slice En.Smade_scantling_api_State_search) l_)),(1,(Pi i11)),(5,(Pd.row (En.int .u8) s0.w.heap.size 5 og13 out12))]∧zbb.l1 l_ (zbb.j1 r_) k15 i11 out12) k14 ⟨i_,([]:(List Int)),none,L.keep (.k 0 (.k 1 (.cons (t:=5) J (fun _ _ h_=>h_) .nil))),h⟩ ?_;rintro k15 a s ⟨i11,out12,og13,L,h⟩ KL16 hKL16;cases k15 with
 | zero=>exact h.elim
 | succ k15=>
 unfold zbb.l1 at h;refine wp_seq_k fun K17 H17=>wp_seq_k fun K18 H18=>?_;obtain ⟨e19,h20,h⟩:=h;refine rg (sw 6 (zd (O 0 J) J J) L fun a s L=>?_);refine sw 7 (zd (O 1 J) J J) L fun a s L=>sw 8 (zde (O 6 J) (O 7 J) h20 U153 ty152 J J) L fun a s L=>sw 9 (zc0 (off:=1) (O 8 J) U152 J (ze (zm (zh _ _)) J) J ty3 J J) L fun a s L=>sw 10 (zt ty3 (O 9 J) J J) L fun a s L=>sw 11 (zj5 (O 10 J) oI J J) L fun a s L=>en' (H18 _ _ ?_);refine cnd L J (fun hb_=>?_) (fun hb_=>?_)
 ·replace h:=h.1 hb_;refine wp_skip ?_;show K17 a s.w;refine H17 _ _ (wp_seq_k fun K21 H21=>?_);refine wp_block ?_;obtain ⟨e22,h23,h24,h⟩:=h;refine rg (sw 17 (zd (O 5 J) J J) L fun a s L=>?_);refine sw 18 (zd (O 0 J) J J) L fun a s L=>sw 19 (zd (O 1 J) J J) L fun a s L=>sw 20 (zde (O 18 J) (O 19 J) h23 U153 ty152 J J) L fun a s L=>sw 21 (zc0 (off:=2) (O 20 J) U152 J (ze (ze (zh _ _) J) J) J ty5 J J) L fun a s L=>sw 22 (zt ty5 (O 21 J) J J) L fun a s L=>sw 23 (zec (xs:=[.tmp 22]) (.cons (O 22 J) .nil) U26 ty5 J J (by decide) J J) L fun a s L=>zev (L':=[(0,(Pd.rep (En.slice En.Smade_scantling_api_State_search) l_)),(1,(Pi i11))]) 24 L (O 17 J) (O 23 J) U26 ty5 h24 J J J J (.k 0 (.k 1 .nil)) fun a s og25 hg_ L=>?_;refine sw 5 (zb (O 24 J) J J) L fun a s L=>en' (H21 _ _ ?_);obtain ⟨e26,h27,h⟩:=h;refine rg (sw 12 (zd (O 0 J) J J) L fun a s L=>?_);refine sw 13 (zd (O 1 J) J J) L fun a s L=>sw 14 (zde (O 12 J) (O 13 J) h27 U153 ty152 J J) L fun a s L=>sw 15 (zc0 (off:=1) (O 14 J) U152 J (ze (zm (zh _ _)) J) J ty3 J J) L fun a s L=>sw 16 (zt ty3 (O 15 J) J J) L fun a s L=>sw 1 (zb (O 16 J) J J) L fun a s L=>en' ?_;exact hKL16 k15 a s (Nat.lt_succ_self _) ⟨e26.2.1,(out12++[e22.2.2]),og25,L.keep (.k 0 (.k 1 (.cons (t:=5) J (fun _ _ h_=>h_) .nil))),h⟩
 ·replace h:=h.2 hb_;refine wp_exit ?_;exact J6 out12 og13 a s (L.keep (.cons (t:=5) J (fun _ _ h_=>h_) .nil)) h
theorem zf0 {s_:SSpace_scantling_api_State_search} {budget_:Int} {r_:SFound_scantling_api_State_search} (h:zj s_ budget_ r_):Fn Tryz.prog 78 [(Pd.rep En.SSpace_scantling_api_State_search s_),(Pi budget_)] (Rq (Pd.rep En.SFound_scantling_api_State_search r_)):=by
 unfold zj at h;refine zbx Tryz.func78 J Tryz.ntmps78 (by rfl) (by simp) fun s0 a L=>?_;refine wp_seq_k fun K1 H1=>rg (sw 2 (zcu (O 0 J) J J) L fun a s L=>?_);refine zbf En.SFound_scantling_api_State_search (z:=((0,[],[],0,0,0,0),[])) 4 L tyz108 J J J J fun a s g2 hg_ L=>?_;refine en' (H1 _ _ ?_);refine wp_seq_k fun K3 H3=>rg (sw 12 (zc0 (off:=0) (O 2 J) U112 J (zm (zh _ _)) J ty25 J J) L fun a s L=>?_);refine sw 13 (zt ty25 (O 12 J) J J) L fun a s L=>sw 14 (zcb (x:=(s_.1,(-1),0)) (ps:=[(0,.tmp 13),(1,.const (.int .i64 (-1))),(2,.const (.int .u8 0))]) tyz152 J stt152 (.cons (i:=0) (O 13 J) J (zbi (zz _ _ _)) (.cons (i:=1) oI J (zx (zbi (zz _ _ _)) J) (.cons (i:=2) (o_i (k:=.u8) (by decide)) J (zx (zx (zz _ _ _) J) J) .nil))) J J) L fun a s L=>?_;have lt_d5:=L.blt 4 rfl;refine zfp (xs:=[.tmp 14]) 15 L (.cons (O 14 J) .nil) U153 ty152 J J (by decide) J J J J fun a s g4 hg_ L=>?_;have d5:Dis (some g4) (some g2):=Dis.newg hg_ lt_d5;refine sw 5 (zb (O 15 J) J J) L fun a s L=>en' (H3 _ _ ?_);refine wp_seq_k fun K6 H6=>?_;obtain ⟨r10,h11,h⟩:=h;refine rg ?_;have lt_d9:=L.rlt 15 rfl;have lt_d8:=L.blt 4 rfl;refine zi1 16 En.str kvStr En.bool L J J J J fun a s g7 hg_ L=>?_;have d8:Dis (some g7) (some g2):=Dis.newg hg_ lt_d8;have d9:Dis (some g7) (some g4):=Dis.newg hg_ lt_d9;refine sw 17 (zc0 (off:=1) (O 2 J) U112 J (ze (zm (zh _ _)) J) J ty43 J J) L fun a s L=>sw 18 (zt ty43 (O 17 J) J J) L fun a s L=>sw 19 (zc0 (off:=0) (O 2 J) U112 J (zm (zh _ _)) J ty25 J J) L fun a s L=>sw 20 (zt ty25 (O 19 J) J J) L fun a s L=>sw 21 (zfo (q:=(s_.1,r10)) (O 18 J) h11 (xs:=[.tmp 20]) (.cons (O 20 J) .nil) (fun _ _ _ h_=>h_) J J) L fun a s L=>zgs (L':=[(1,(Pi budget_)),(2,(Pd.ptr En.SSpace_scantling_api_State_search s_)),(4,(Pd.box En.SFound_scantling_api_State_search s0.w.heap.size g2 ((0,[],[],0,0,0,0),[]))),(5,(Pd.row En.Smade_scantling_api_State_search s0.w.heap.size 152 (some g4) [(s_.1,(-1),0)])),(16,(Pd.map En.str kvStr En.bool s0.w.heap.size (some g7) (zfa ([]:(List (Str × Bool))) r10 true)))]) L (O 16 J) (O 21 J) o_b U154 (zei U9) (.inr J) J J (.k 1 (.k 2 (.cons (t:=4) J (Dis.bx (Dis.symm d8)) (.cons (t:=5) J (Dis.ow (Dis.symm d9)) (.turn (t:=16) J .nil))))) fun s L=>?_
 refine sw 22 (zd (O 16 J) J J) L fun a s L=>sw 6 (zb (O 22 J) J J) L fun a s L=>en' (H6 _ _ ?_);refine wp_seq_k fun K12 H12=>wp_seq_k fun K13 H13=>rg (sw 7 (zb oI J J) L fun a s L=>?_);refine en' (H13 _ _ ?_);refine wp_block ?_;have J17:∀(v14:SFound_scantling_api_State_search) (list15:(List Smade_scantling_api_State_search)) (og16:Option Nat) (a:Act) (s:St),Has N0 87 s0 a s [(4,(Pd.box En.SFound_scantling_api_State_search s0.w.heap.size g2 v14)),(5,(Pd.row En.Smade_scantling_api_State_search s0.w.heap.size 152 og16 list15))]→Dis (some g2) og16→((zj.j1 r_) v14 list15)→K12 a s.w:=by
  intro v14 list15 og16 a s L d18 h;unfold zj.j1 at h;show K12 a s.w;refine H12 _ _ (wp_seq_k fun K19 H19=>?_);refine rg (sw 83 (zd (O 5 J) J J) L fun a s L=>?_);refine sw 84 (zjl (O 83 J) U153 J J) L fun a s L=>sw 85 (zcb (x:=(1,[],[],0,0,0,(list15.length:Int))) (ps:=[(0,.const (.int .i64 1)),(6,.tmp 84)]) tyz58 J stt58 (.cons (i:=0) oI J (zbi (zz _ _ _)) (.cons (i:=6) (O 84 J) J (zx (zx (zx (zx (zx (zx (zz _ _ _) J) J) J) J) J) J) .nil)) J J) L fun a s L=>sw 86 (zcb (x:=((1,[],[],0,0,0,(list15.length:Int)),[])) (ps:=[(0,.tmp 85)]) tyz108 J stt108 (.cons (i:=0) (O 85 J) J (zbi (zz _ _ _)) .nil) J J) L fun a s L=>zby (L':=[]) 4 L J (O 86 J) ty108 J J J .nil fun s L=>?_;refine en' (H19 _ _ ?_);subst h;exact wp_ret (retb J ty108 L J)
 obtain ⟨k26,h⟩:=h;refine lpg (fun k27 a s=>∃(v20:SFound_scantling_api_State_search) (list21:(List Smade_scantling_api_State_search)) (seen23:(List (Str × Bool))) (i25:Int) (og22:Option Nat) (og24:Option Nat),Has N0 87 s0 a s [(1,(Pi budget_)),(2,(Pd.ptr En.SSpace_scantling_api_State_search s_)),(4,(Pd.box En.SFound_scantling_api_State_search s0.w.heap.size g2 v20)),(5,(Pd.row En.Smade_scantling_api_State_search s0.w.heap.size 152 og22 list21)),(6,(Pd.map En.str kvStr En.bool s0.w.heap.size og24 seen23)),(7,(Pi i25))]∧Dis (some g2) og22∧Dis (some g2) og24∧Dis og22 og24∧zj.l1 s_ budget_ r_ (zj.j1 r_) k27 v20 list21 seen23 i25) k26 ⟨((0,[],[],0,0,0,0),[]),[(s_.1,(-1),0)],(zfa ([]:(List (Str × Bool))) r10 true),0,(some g4),(some g7),L.keep (.k 1 (.k 2 (.cons (t:=4) J (fun _ _ h_=>h_) (.cons (t:=5) J (fun _ _ h_=>h_) (.cons (t:=6) J (fun _ _ h_=>h_) (.k 7 .nil)))))),(Dis.symm d5),(Dis.symm d8),(Dis.symm d9),h⟩ ?_;rintro k27 a s ⟨v20,list21,seen23,i25,og22,og24,L,d29,d30,d31,h⟩ KL28 hKL28;cases k27 with
 | zero=>exact h.elim
 | succ k27=>
 unfold zj.l1 at h;refine wp_seq_k fun K32 H32=>wp_seq_k fun K33 H33=>rg (sw 23 (zd (O 7 J) J J) L fun a s L=>?_);refine sw 24 (zd (O 5 J) J J) L fun a s L=>sw 25 (zjl (O 24 J) U153 J J) L fun a s L=>sw 26 (zbz (O 23 J) (O 25 J) J J) L fun a s L=>en' (H33 _ _ ?_);refine cnd L J (fun hb_=>?_) (fun hb_=>?_)
 ·replace h:=h.1 hb_;refine wp_skip ?_;show K32 a s.w;refine H32 _ _ (wp_seq_k fun K34 H34=>?_);refine wp_block (wp_seq_k fun K35 H35=>?_);refine wp_seq_k fun K36 H36=>rg (sw 29 (zd (O 7 J) J J) L fun a s L=>?_);refine sw 30 (zd (O 1 J) J J) L fun a s L=>sw 31 (zj5 (O 29 J) (O 30 J) J J) L fun a s L=>en' (H36 _ _ ?_);refine cnd L J (fun hb_=>?_) (fun hb_=>?_)
  ·replace h:=h.1 hb_;refine wp_seq_k fun K37 H37=>rg (sw 32 (zd (O 1 J) J J) L fun a s L=>?_);refine sw 33 (t_max (O 32 J) oI J J) L fun a s L=>sw 34 (zcb (x:=(3,[],[],0,0,0,(max budget_ 0))) (ps:=[(0,.const (.int .i64 3)),(6,.tmp 33)]) tyz58 J stt58 (.cons (i:=0) oI J (zbi (zz _ _ _)) (.cons (i:=6) (O 33 J) J (zx (zx (zx (zx (zx (zx (zz _ _ _) J) J) J) J) J) J) .nil)) J J) L fun a s L=>sw 35 (zcb (x:=((3,[],[],0,0,0,(max budget_ 0)),[])) (ps:=[(0,.tmp 34)]) tyz108 J stt108 (.cons (i:=0) (O 34 J) J (zbi (zz _ _ _)) .nil) J J) L fun a s L=>zby (L':=[]) 4 L J (O 35 J) ty108 J J J .nil fun s L=>?_;refine en' (H37 _ _ ?_);subst h;exact wp_ret (retb J ty108 L J)
  ·replace h:=h.2 hb_;refine wp_skip ?_;show K35 a s.w;refine H35 _ _ (wp_seq_k fun K38 H38=>?_);obtain ⟨e39,h40,h⟩:=h;refine rg (sw 36 (zd (O 5 J) J J) L fun a s L=>?_);refine sw 37 (zd (O 7 J) J J) L fun a s L=>sw 38 (zca (O 36 J) (O 37 J) h40 U153 ty152 J J) L fun a s L=>sw 39 (t_fao (off:=0) (O 38 J) U152 J (zm (zh _ _)) J ty25 J J) L fun a s L=>sw 40 (zp ty25 (O 39 J) J J) L fun a s L=>sw 8 (zb (O 40 J) J J) L fun a s L=>en' (H38 _ _ ?_);refine wp_seq_k fun K41 H41=>wp_seq_k fun K42 H42=>?_;obtain ⟨r43,h44,h⟩:=h;refine rg (sw 41 (zc0 (off:=3) (O 2 J) U112 J (ze (ze (ze (zh _ _) J) J) J) J ty110 J J) L fun a s L=>?_);refine sw 42 (zt ty110 (O 41 J) J J) L fun a s L=>sw 43 (zd (O 8 J) J J) L fun a s L=>sw 44 (zfo (q:=(e39.1,r43)) (O 42 J) h44 (xs:=[.tmp 43]) (.cons (O 43 J) .nil) (fun _ _ _ h_=>h_) J J) L fun a s L=>en' (H42 _ _ ?_);refine cnd L J (fun hb_=>?_) (fun hb_=>?_)
   ·replace h:=h.1 hb_;refine wp_seq_k fun K45 H45=>?_;obtain ⟨s47,h46,L⟩:=L.freeze (L':=[(4,(Pd.box En.SFound_scantling_api_State_search s0.w.heap.size g2 v20)),(7,(Pi i25)),(8,(Pd.rep (En.slice (En.slice En.SItem)) e39.1))]) 5 rfl (.cons (t:=4) rfl (Dis.bx d29) (.cons (t:=7) rfl nE (.cons (t:=8) rfl nE .nil)));rw [← h46];clear h46;generalize s47=s at *;obtain ⟨r48,h49,h50,h⟩:=h;refine rg (sw 45 (zd (O 5 J) J J) L fun a s L=>?_);refine sw 46 (zd (O 7 J) J J) L fun a s L=>sw 47 (zy ((zhh h49).frz) (xs:=[.tmp 45,.tmp 46]) (.cons (O 45 J) (.cons (O 46 J) .nil)) J J) L fun a s L=>sw 48 (zd (O 7 J) J J) L fun a s L=>sw 49 (zbk (O 48 J) oI h50 J J) L fun a s L=>sw 50 (zcb (x:=(2,r48,[],0,0,0,i25+1)) (ps:=[(0,.const (.int .i64 2)),(1,.tmp 47),(6,.tmp 49)]) tyz58 J stt58 (.cons (i:=0) oI J (zbi (zz _ _ _)) (.cons (i:=1) (O 47 J) J (zx (zbi (zz _ _ _)) J) (.cons (i:=6) (O 49 J) J (zx (zx (zx (zx (zx (zx (zz _ _ _) J) J) J) J) J) J) .nil))) J J) L fun a s L=>sw 51 (zd (O 8 J) J J) L fun a s L=>sw 52 (zcb (x:=((2,r48,[],0,0,0,i25+1),e39.1)) (ps:=[(0,.tmp 50),(1,.tmp 51)]) tyz108 J stt108 (.cons (i:=0) (O 50 J) J (zbi (zz _ _ _)) (.cons (i:=1) (O 51 J) J (zx (zz _ _ _) J) .nil)) J J) L fun a s L=>zby (L':=[]) 4 L J (O 52 J) ty108 J J J .nil fun s L=>?_;refine en' (H45 _ _ ?_);subst h;exact wp_ret (retb J ty108 L J)
   ·replace h:=h.2 hb_;refine wp_skip ?_;show K41 a s.w;refine H41 _ _ (wp_seq_k fun K51 H51=>?_);obtain ⟨r52,h53,h⟩:=h;refine rg (sw 53 (zc0 (off:=2) (O 2 J) U112 J (ze (ze (zm (zh _ _)) J) J) J ty109 J J) L fun a s L=>?_);refine sw 54 (zt ty109 (O 53 J) J J) L fun a s L=>sw 55 (zd (O 8 J) J J) L fun a s L=>sw 56 (zfo (q:=(e39.1,r52)) (O 54 J) h53 (xs:=[.tmp 55]) (.cons (O 55 J) .nil) (fun _ _ _ h_=>h_) J J) L fun a s L=>sw 57 (zc8 (O 56 J) U148 J J) L fun a s L=>sw 58 (zd oI J J) L fun a s L=>en' (H51 _ _ ?_);refine wp_block ?_;have J58:∀(list54:(List Smade_scantling_api_State_search)) (seen56:(List (Str × Bool))) (og55:Option Nat) (og57:Option Nat) (a:Act) (s:St),Has N0 87 s0 a s [(1,(Pi budget_)),(2,(Pd.ptr En.SSpace_scantling_api_State_search s_)),(4,(Pd.box En.SFound_scantling_api_State_search s0.w.heap.size g2 v20)),(5,(Pd.row En.Smade_scantling_api_State_search s0.w.heap.size 152 og55 list54)),(6,(Pd.map En.str kvStr En.bool s0.w.heap.size og57 seen56)),(7,(Pi i25))]→Dis (some g2) og55→Dis (some g2) og57→Dis og55 og57→((zj.j2 (zj.l1 s_ budget_ r_ (zj.j1 r_) k27) v20 i25) list54 seen56)→K34 a s.w:=by
     intro list54 seen56 og55 og57 a s L d59 d60 d61 h;unfold zj.j2 at h;show K34 a s.w;refine H34 _ _ ?_;obtain ⟨h62,h⟩:=h;refine rg (sw 27 (zd (O 7 J) J J) L fun a s L=>?_);refine sw 28 (zbk (O 27 J) oI h62 J J) L fun a s L=>sw 7 (zb (O 28 J) J J) L fun a s L=>en' ?_;exact hKL28 k27 a s (Nat.lt_succ_self _) ⟨v20,list54,seen56,(i25+1),og55,og57,L.keep (.k 1 (.k 2 (.cons (t:=4) J (fun _ _ h_=>h_) (.cons (t:=5) J (fun _ _ h_=>h_) (.cons (t:=6) J (fun _ _ h_=>h_) (.k 7 .nil)))))),d59,d60,d61,h⟩
    obtain ⟨k68,h⟩:=h;refine lpg (fun k69 a s=>∃(list63:(List Smade_scantling_api_State_search)) (seen65:(List (Str × Bool))) (v67:Int) (og64:Option Nat) (og66:Option Nat),Has N0 87 s0 a s [(1,(Pi budget_)),(2,(Pd.ptr En.SSpace_scantling_api_State_search s_)),(4,(Pd.box En.SFound_scantling_api_State_search s0.w.heap.size g2 v20)),(5,(Pd.row En.Smade_scantling_api_State_search s0.w.heap.size 152 og64 list63)),(6,(Pd.map En.str kvStr En.bool s0.w.heap.size og66 seen65)),(7,(Pi i25)),(56,(Pd.rep (En.slice En.SOn_scantling_api_State_search) r52)),(57,(Pi (r52.length:Int))),(58,(Pi v67))]∧Dis (some g2) og64∧Dis (some g2) og66∧Dis og64 og66∧zj.l2 s_ i25 r52 (zj.j2 (zj.l1 s_ budget_ r_ (zj.j1 r_) k27) v20 i25) k69 list63 seen65 v67) k68 ⟨list21,seen23,0,og22,og24,L.keep (.k 1 (.k 2 (.cons (t:=4) J (fun _ _ h_=>h_) (.cons (t:=5) J (fun _ _ h_=>h_) (.cons (t:=6) J (fun _ _ h_=>h_) (.k 7 (.k 56 (.k 57 (.k 58 .nil))))))))),d29,d30,d31,h⟩ ?_;rintro k69 a s ⟨list63,seen65,v67,og64,og66,L,d71,d72,d73,h⟩ KL70 hKL70;cases k69 with
    | zero=>exact h.elim
    | succ k69=>
    unfold zj.l2 at h;refine wp_seq_k fun K74 H74=>rg (sw 59 (zbz (O 58 J) (O 57 J) J J) L fun a s L=>?_);refine en' (H74 _ _ ?_);refine wp_seq_k fun K75 H75=>cnd L J (fun hb_=>?_) (fun hb_=>?_)
    ·replace h:=h.1 hb_;refine wp_skip ?_;show K75 a s.w;refine H75 _ _ (wp_seq_k fun K76 H76=>?_);refine wp_block (wp_seq_k fun K77 H77=>?_);obtain ⟨e78,h79,h⟩:=h;refine rg (sw 60 (zde (O 56 J) (O 58 J) h79 U148 ty150 J J) L fun a s L=>?_);refine sw 61 (zt ty150 (O 60 J) J J) L fun a s L=>?_;have lt_d83:=L.mlt 6 rfl;have lt_d82:=L.rlt 5 rfl;have lt_d81:=L.blt 4 rfl;refine zbf En.SOn_scantling_api_State_search (z:=(0,[])) 10 L tyz150 J J J J fun a s g80 hg_ L=>?_;have d81:Dis (some g80) (some g2):=Dis.newg hg_ lt_d81;have d82:Dis (some g80) og64:=Dis.newg hg_ lt_d82;have d83:Dis (some g80) og66:=Dis.newg hg_ lt_d83;refine zby (L':=[(1,(Pi budget_)),(2,(Pd.ptr En.SSpace_scantling_api_State_search s_)),(4,(Pd.box En.SFound_scantling_api_State_search s0.w.heap.size g2 v20)),(5,(Pd.row En.Smade_scantling_api_State_search s0.w.heap.size 152 og64 list63)),(6,(Pd.map En.str kvStr En.bool s0.w.heap.size og66 seen65)),(7,(Pi i25)),(56,(Pd.rep (En.slice En.SOn_scantling_api_State_search) r52)),(57,(Pi (r52.length:Int))),(58,(Pi v67))]) 10 L J (O 61 J) ty150 J J J (.k 1 (.k 2 (.cons (t:=4) J (Dis.bx (Dis.symm d81)) (.cons (t:=5) J (Dis.ow (Dis.symm d82)) (.cons (t:=6) J (Dis.ow (Dis.symm d83)) (.k 7 (.k 56 (.k 57 (.k 58 .nil))))))))) fun s L=>?_;refine en' (H77 _ _ ?_);refine wp_seq_k fun K84 H84=>?_;obtain ⟨r85,h86,h⟩:=h;refine rg (sw 62 (zc0 (off:=1) (O 2 J) U112 J (ze (zm (zh _ _)) J) J ty43 J J) L fun a s L=>?_);refine sw 63 (zt ty43 (O 62 J) J J) L fun a s L=>sw 64 (zbj (off:=1) (O 10 J) U150 J (ze (zh _ _) J) J ty25 J J) L fun a s L=>sw 65 (zp ty25 (O 64 J) J J) L fun a s L=>sw 66 (zfo (q:=(e78.2,r85)) (O 63 J) h86 (xs:=[.tmp 65]) (.cons (O 65 J) .nil) (fun _ _ _ h_=>h_) J J) L fun a s L=>sw 11 (zb (O 66 J) J J) L fun a s L=>en' (H84 _ _ ?_)
     refine wp_seq_k fun K87 H87=>rg (sw 67 (zd (O 6 J) J J) L fun a s L=>?_);refine sw 68 (zd (O 11 J) J J) L fun a s L=>sw 69 (zoy (O 67 J) (O 68 J) U154 (zei U9) tyv4 J J) L fun a s L=>sw 70 (zia (O 69 J) J J) L fun a s L=>en' (H87 _ _ ?_);refine cnd L J (fun hb_=>?_) (fun hb_=>?_)
     ·replace h:=h.1 hb_;refine wp_seq_k fun K88 H88=>rg (sw 71 (zd (O 6 J) J J) L fun a s L=>?_);refine sw 72 (zd (O 11 J) J J) L fun a s L=>zgs (L':=[(1,(Pi budget_)),(2,(Pd.ptr En.SSpace_scantling_api_State_search s_)),(4,(Pd.box En.SFound_scantling_api_State_search s0.w.heap.size g2 v20)),(5,(Pd.row En.Smade_scantling_api_State_search s0.w.heap.size 152 og64 list63)),(6,(Pd.map En.str kvStr En.bool s0.w.heap.size og66 (zfa seen65 r85 true))),(7,(Pi i25)),(10,(Pd.box En.SOn_scantling_api_State_search s0.w.heap.size g80 e78)),(56,(Pd.rep (En.slice En.SOn_scantling_api_State_search) r52)),(57,(Pi (r52.length:Int))),(58,(Pi v67))]) L (O 71 J) (O 72 J) o_b U154 (zei U9) (.inl J) J J (.k 1 (.k 2 (.cons (t:=4) J (Dis.bx d72) (.cons (t:=5) J (Dis.ow d73) (.turn (t:=6) J (.k 7 (.cons (t:=10) J (Dis.bx d83) (.k 56 (.k 57 (.k 58 .nil)))))))))) fun s L=>?_;refine en' (H88 _ _ ?_);obtain ⟨h89,h⟩:=h;refine rg (sw 73 (zd (O 5 J) J J) L fun a s L=>?_);refine sw 74 (zbj (off:=1) (O 10 J) U150 J (ze (zh _ _) J) J ty25 J J) L fun a s L=>sw 75 (zp ty25 (O 74 J) J J) L fun a s L=>sw 76 (zd (O 7 J) J J) L fun a s L=>sw 77 (zbj (off:=0) (O 10 J) U150 J (zm (zh _ _)) J ty5 J J) L fun a s L=>sw 78 (zp ty5 (O 77 J) J J) L fun a s L=>sw 79 (zcb (x:=(e78.2,i25,e78.1)) (ps:=[(0,.tmp 75),(1,.tmp 76),(2,.tmp 78)]) tyz152 J stt152 (.cons (i:=0) (O 75 J) J (zbi (zz _ _ _)) (.cons (i:=1) (O 76 J) J (zx (zbi (zz _ _ _)) J) (.cons (i:=2) (O 78 J) J (zx (zx (zz _ _ _) J) J) .nil))) J J) L fun a s L=>sw 80 (zec (xs:=[.tmp 79]) (.cons (O 79 J) .nil) U153 ty152 J J (by decide) J J) L fun a s L=>?_
      have lt_og90_0:=L.blt 4 rfl;have lt_og90_1:=L.mlt 6 rfl;refine zev (L':=[(1,(Pi budget_)),(2,(Pd.ptr En.SSpace_scantling_api_State_search s_)),(4,(Pd.box En.SFound_scantling_api_State_search s0.w.heap.size g2 v20)),(6,(Pd.map En.str kvStr En.bool s0.w.heap.size og66 (zfa seen65 r85 true))),(7,(Pi i25)),(56,(Pd.rep (En.slice En.SOn_scantling_api_State_search) r52)),(57,(Pi (r52.length:Int))),(58,(Pi v67))]) 81 L (O 73 J) (O 80 J) U153 ty152 h89 J J J J (.k 1 (.k 2 (.cons (t:=4) J (Dis.bx d71) (.cons (t:=6) J (Dis.ow (Dis.symm d73)) (.k 7 (.k 56 (.k 57 (.k 58 .nil)))))))) fun a s og90 hg_ L=>?_;have d91:Dis og90 (some g2):=Dis.app hg_ (Dis.symm d71) lt_og90_0;have d92:Dis og90 og66:=Dis.app hg_ d73 lt_og90_1;refine sw 5 (zb (O 81 J) J J) L fun a s L=>en' (H76 _ _ ?_);obtain ⟨h93,h⟩:=h;refine rg (sw 82 (zbk (O 58 J) oI h93 J J) L fun a s L=>?_);refine sw 58 (zd (O 82 J) J J) L fun a s L=>en' ?_;exact hKL70 k69 a s (Nat.lt_succ_self _) ⟨(list63++[(e78.2,i25,e78.1)]),(zfa seen65 r85 true),(v67+1),og90,og66,L.keep (.k 1 (.k 2 (.cons (t:=4) J (fun _ _ h_=>h_) (.cons (t:=5) J (fun _ _ h_=>h_) (.cons (t:=6) J (fun _ _ h_=>h_) (.k 7 (.k 56 (.k 57 (.k 58 .nil))))))))),(Dis.symm d91),d72,d92,h⟩
     ·replace h:=h.2 hb_;refine wp_skip ?_;show K76 a s.w;refine H76 _ _ ?_;obtain ⟨h94,h⟩:=h;refine rg (sw 82 (zbk (O 58 J) oI h94 J J) L fun a s L=>?_);refine sw 58 (zd (O 82 J) J J) L fun a s L=>en' ?_;exact hKL70 k69 a s (Nat.lt_succ_self _) ⟨list63,seen65,(v67+1),og64,og66,L.keep (.k 1 (.k 2 (.cons (t:=4) J (fun _ _ h_=>h_) (.cons (t:=5) J (fun _ _ h_=>h_) (.cons (t:=6) J (fun _ _ h_=>h_) (.k 7 (.k 56 (.k 57 (.k 58 .nil))))))))),d71,d72,d73,h⟩
    ·replace h:=h.2 hb_;refine wp_exit ?_;exact J58 list63 seen65 og64 og66 a s (L.keep (.k 1 (.k 2 (.cons (t:=4) J (fun _ _ h_=>h_) (.cons (t:=5) J (fun _ _ h_=>h_) (.cons (t:=6) J (fun _ _ h_=>h_) (.k 7 .nil))))))) d71 d72 d73 h
 ·replace h:=h.2 hb_;refine wp_exit ?_;exact J17 v20 list21 og22 a s (L.keep (.cons (t:=4) J (fun _ _ h_=>h_) (.cons (t:=5) J (fun _ _ h_=>h_) .nil))) d29 h
theorem zpy {a_:SVerdict} {b_:SVerdict} {r_:Bool} (h:zi5 a_ b_ r_):Fn Tryz.prog 40 [(Pd.rep En.SVerdict a_),(Pd.rep En.SVerdict b_)] (Rq (Pd.rep En.bool r_)):=by
 unfold zi5 at h;refine zbx Tryz.func40 J Tryz.ntmps40 (by rfl) (by simp) fun s0 a L=>?_;refine wp_seq_k fun K1 H1=>rg (sw 2 (zcu (O 0 J) J J) L fun a s L=>?_);refine sw 3 (zcu (O 1 J) J J) L fun a s L=>sw 4 (zb o_b J J) L fun a s L=>en' (H1 _ _ ?_);refine wp_seq_k fun K2 H2=>?_;obtain ⟨r3,h4,r5,h6,b7,h8,b9,h10,h⟩:=h;refine rg (sw 5 (zc0 (off:=0) (O 2 J) U58 J (zm (zh _ _)) J ty3 J J) L fun a s L=>?_);refine sw 6 (zt ty3 (O 5 J) J J) L fun a s L=>sw 7 (zc0 (off:=0) (O 3 J) U58 J (zm (zh _ _)) J ty3 J J) L fun a s L=>sw 8 (zt ty3 (O 7 J) J J) L fun a s L=>sw 9 (zbt (O 6 J) (O 8 J) J J) L fun a s L=>sw 10 (zd (O 9 J) J J) L fun a s L=>sw 11 (zbg J J J (fun hc_=>zc0 (off:=1) (O 2 J) U58 J (ze (zm (zh _ _)) J) J ty26 J J)) L fun a s L=>sw 12 (zbg J J J (fun hc_=>zt ty26 (o_w hc_ 11 J) J J)) L fun a s L=>sw 13 (zbg J J J (fun hc_=>zc0 (off:=1) (O 3 J) U58 J (ze (zm (zh _ _)) J) J ty26 J J)) L fun a s L=>sw 14 (zbg J J J (fun hc_=>zt ty26 (o_w hc_ 13 J) J J)) L fun a s L=>?_;refine sw 15 (zbg J J J (fun hc_=>zy (zg4 (h4 hc_)) (xs:=[.tmp 12,.tmp 14]) (.cons (o_w hc_ 12 J) (.cons (o_w hc_ 14 J) .nil)) J J)) L fun a s L=>sw 16 (zc1 (O 10 J) (fun hc2_=>(o_w hc2_ 15 J)) J J) L fun a s L=>sw 17 (zd (O 16 J) J J) L fun a s L=>sw 18 (zbg J J J (fun hc_=>zc0 (off:=2) (O 2 J) U58 J (ze (ze (zm (zh _ _)) J) J) J ty26 J J)) L fun a s L=>sw 19 (zbg J J J (fun hc_=>zt ty26 (o_w hc_ 18 J) J J)) L fun a s L=>sw 20 (zbg J J J (fun hc_=>zc0 (off:=2) (O 3 J) U58 J (ze (ze (zm (zh _ _)) J) J) J ty26 J J)) L fun a s L=>sw 21 (zbg J J J (fun hc_=>zt ty26 (o_w hc_ 20 J) J J)) L fun a s L=>sw 22 (zbg J J J (fun hc_=>zy (zg4 (h6 hc_)) (xs:=[.tmp 19,.tmp 21]) (.cons (o_w hc_ 19 J) (.cons (o_w hc_ 21 J) .nil)) J J)) L fun a s L=>sw 23 (zc1 (O 17 J) (fun hc2_=>(o_w hc2_ 22 J)) J J) L fun a s L=>?_
 refine sw 24 (zd (O 23 J) J J) L fun a s L=>sw 25 (zbg J J J (fun hc_=>zc0 (off:=3) (O 2 J) U58 J (ze (ze (ze (zm (zh _ _)) J) J) J) J ty56 J J)) L fun a s L=>sw 26 (zbg J J J (fun hc_=>zt ty56 (o_w hc_ 25 J) J J)) L fun a s L=>sw 27 (zbg J J J (fun hc_=>zc0 (off:=3) (O 3 J) U58 J (ze (ze (ze (zm (zh _ _)) J) J) J) J ty56 J J)) L fun a s L=>sw 28 (zbg J J J (fun hc_=>zt ty56 (o_w hc_ 27 J) J J)) L fun a s L=>sw 29 (zbg J J J (fun hc_=>zbt (o_w hc_ 26 J) (o_w hc_ 28 J) J J)) L fun a s L=>sw 30 (h8 ▸ (zc1 (O 24 J) (fun hc2_=>(o_w hc2_ 29 J)) J J)) L fun a s L=>sw 31 (zd (O 30 J) J J) L fun a s L=>sw 32 (zbg J J J (fun hc_=>zc0 (off:=4) (O 2 J) U58 J (ze (ze (ze (ze (zm (zh _ _)) J) J) J) J) J ty3 J J)) L fun a s L=>?_;refine sw 33 (zbg J J J (fun hc_=>zt ty3 (o_w hc_ 32 J) J J)) L fun a s L=>sw 34 (zbg J J J (fun hc_=>zc0 (off:=4) (O 3 J) U58 J (ze (ze (ze (ze (zm (zh _ _)) J) J) J) J) J ty3 J J)) L fun a s L=>sw 35 (zbg J J J (fun hc_=>zt ty3 (o_w hc_ 34 J) J J)) L fun a s L=>sw 36 (zbg J J J (fun hc_=>zbt (o_w hc_ 33 J) (o_w hc_ 35 J) J J)) L fun a s L=>sw 37 (zc1 (O 31 J) (fun hc2_=>(o_w hc2_ 36 J)) J J) L fun a s L=>sw 38 (zd (O 37 J) J J) L fun a s L=>sw 39 (zbg J J J (fun hc_=>zc0 (off:=5) (O 2 J) U58 J (ze (ze (ze (ze (ze (zm (zh _ _)) J) J) J) J) J) J ty3 J J)) L fun a s L=>sw 40 (zbg J J J (fun hc_=>zt ty3 (o_w hc_ 39 J) J J)) L fun a s L=>sw 41 (zbg J J J (fun hc_=>zc0 (off:=5) (O 3 J) U58 J (ze (ze (ze (ze (ze (zm (zh _ _)) J) J) J) J) J) J ty3 J J)) L fun a s L=>?_
 refine sw 42 (zbg J J J (fun hc_=>zt ty3 (o_w hc_ 41 J) J J)) L fun a s L=>sw 43 (zbg J J J (fun hc_=>zbt (o_w hc_ 40 J) (o_w hc_ 42 J) J J)) L fun a s L=>sw 44 (h10 ▸ (zc1 (O 38 J) (fun hc2_=>(o_w hc2_ 43 J)) J J)) L fun a s L=>sw 45 (zd (O 44 J) J J) L fun a s L=>sw 46 (zbg J J J (fun hc_=>zc0 (off:=6) (O 2 J) U58 J (ze (ze (ze (ze (ze (ze (zh _ _) J) J) J) J) J) J) J ty3 J J)) L fun a s L=>sw 47 (zbg J J J (fun hc_=>zt ty3 (o_w hc_ 46 J) J J)) L fun a s L=>sw 48 (zbg J J J (fun hc_=>zc0 (off:=6) (O 3 J) U58 J (ze (ze (ze (ze (ze (ze (zh _ _) J) J) J) J) J) J) J ty3 J J)) L fun a s L=>sw 49 (zbg J J J (fun hc_=>zt ty3 (o_w hc_ 48 J) J J)) L fun a s L=>sw 50 (zbg J J J (fun hc_=>zbt (o_w hc_ 47 J) (o_w hc_ 49 J) J J)) L fun a s L=>?_;refine sw 51 (zc1 (O 45 J) (fun hc2_=>(o_w hc2_ 50 J)) J J) L fun a s L=>sw 4 (zb (O 51 J) J J) L fun a s L=>en' (H2 _ _ ?_);subst h;exact wp_ret (zdu J L J)
section
variable {P : Program} {ops : Array Oper} {o : Oper} {L : Lst}
theorem t_mkmeth {β:Type} {qs:β→List Pd} {R:β→St→St→Value→Prop} {F:β→Prop} {f:FuncId} {cs:List Operand} {qc:List Pd} (hx:zny L cs qc) (hc:∀(args:Array Value) (w:World),(callFunc f args).run P w = .ok (.enter f args) w)
  (henc:∀q∈qc,q.Enc) (h:∀q,F q→Fn P f (qc++qs q) (R q)) (ho:o.op = .makeFunc (.func f) cs.toArray #[]) (hg:o.guard=none):T P ops o L (Pd.rep (En.fun P qs R) F):=
 T.pure hg fun M n s0 a s hL=>by
  refine ⟨.func (.func f) (cs.map a.eval).toArray #[], ?_,[.func (.func f) (cs.map a.eval).toArray #[]],rfl,.inr ⟨f,(cs.map a.eval).toArray,#[],rfl,hc,fun s1 hgl hf hs q hq vs hv=>?_⟩⟩
  ·unfold execOp;rw [ho];simp [Instr.makeFunc]
  ·have:=(h q hq).run s1 (cs.map a.eval++vs) hgl (zpl (zpk hf hs henc (hx.vals hL)) hv);simpa using this
end
theorem ziy {ops:Array Oper} {o:Oper} {a:Act} {b want:Bool} {j d:Nat} (hg:o.guard=some (j,want)) (hj:(ops[j]?).bind (·.dst)=some d) (hd:a.eval (.tmp d) = .bool b):Region.wanted o (yielded ops a.tmps)=true↔b=want:=by
 simp only [Region.wanted,hg];have:yielded ops a.tmps j=match a.eval (.tmp d) with | .bool x=>some x | _=>none:=by
  unfold yielded;cases ho:ops[j]? with
  | none=>rw [ho] at hj;cases hj
  | some oj=>
   rw [ho] at hj;simp only [Option.bind_some] at hj;simp only [hj,Act.eval,Option.bind_some,Array.getD_eq_getD_getElem?];cases a.tmps[d]? with
   | none=>simp [undef]
   | some v=>cases v <;> rfl
 rw [this,hd];simp
theorem st_blitg {P:Program} {ops:Array Oper} {o1 o2:Oper} {L:Lst} {Q:Exit→Act→World→Prop} {rest:List Oper} {M:Nat→Prop} {n:Nat} {s0:St} {a:Act} {s:St} {te t:TypeId} {xs:List Operand} {es:List Int} {k:Nat} {parts:Array (Nat × Operand)} {b want:Bool} {j dj:Nat} (d1 d:Nat)
  (hg1:o1.guard=some (j,want)) (hg2:o2.guard=some (j,want)) (hj:(ops[j]?).bind (·.dst)=some dj) (hl:lk L dj=some (Pd.rep En.bool b)) (hl2:Nat.beq d1 dj=false)
  (hL:Has M n s0 a s L) (hx:OpL (En.int .u8) L xs es) (ht:P.underlying t=some (.slice te)) (he:P.underlying te=some (.int .u8)) (hE:Ty P te (En.int .u8)) (hk:k=xs.length) (hp:parts=(xs.zipIdx.map fun (x,i)=>(i,x)).toArray) (hs:k*(En.int .u8).sz≤16777216)
  (ho1:o1.op = .buildSlice t k parts) (ho2:o2.op = .convert t t (.tmp d1)) (hd1:o1.dst=some d1) (hn1:Nat.blt d1 n=true) (hd2:o2.dst=some d) (hn2:Nat.blt d n=true)
  (kk:∀a' s',Has M n s0 a' s' ((d,Pd.when (b=want) (Pd.rep (En.slice (En.int .u8)) es))::(d1,Pd.any)::L)→wpList P ops Q rest a' s'.w):wpList P ops Q (o1::o2::rest) a s.w:=by
 have hb:=zcn.1 (hL.get dj hl);have hne:d1≠dj:=fun e=>by subst e;simp at hl2
 by_cases hc:b=want
 ·obtain ⟨hlen,css,hEl,hr⟩:=zla hx ht hE hk hp hs ho1 hL;refine wpList_step fun K hK=>?_;rw [if_pos ((ziy hg1 hj hb).2 hc)];unfold Oper.wp;rw [hr];refine hK _ _ ?_;simp only [hd1];refine wpList_step fun K2 hK2=>?_;have hb2:(a.put (some d1) (.slice (some ⟨s.w.heap.size,0,none⟩) es.length es.length)).eval (.tmp dj) = .bool b:=by rw [zel hne];exact hb
  rw [if_pos ((ziy hg2 hj hb2).2 hc)];have hcv:=Lib.run_convert_bytes_const (P:=P) s.w t te css.flatten.toArray es.length es.length ht he;have hr2:(execOp (a.put (some d1) (.slice (some ⟨s.w.heap.size,0,none⟩) es.length es.length)).eval o2).run P (s.w.alloc (.cells css.flatten.toArray te)) = .ok (.value (.slice (some ⟨s.w.heap.size,0,none⟩) es.length es.length)) (s.w.alloc (.cells css.flatten.toArray te (css.flatten.toArray.size,css.flatten.toArray.size+1))):=by
   unfold execOp;rw [ho2];simp only [zd6 hL.size hn1,Sem.run_bind,hcv,Result.andThen_ok,Sem.run_pure]
  unfold Oper.wp;show (match (execOp _ o2).run P (s.w.alloc (.cells css.flatten.toArray te)) with | _=>_);rw [hr2];refine hK2 _ _ ?_;simp only [hd2];have h1:Has M n s0 (a.put (some d1) (.slice (some ⟨s.w.heap.size,0,none⟩) es.length es.length)) (s.push (.cells css.flatten.toArray te (css.flatten.toArray.size,css.flatten.toArray.size+1))) ((d1,Pd.any)::L):=hL.put (Ex.push s _) hn1 trivial;refine kk _ (s.push (.cells css.flatten.toArray te (css.flatten.toArray.size,css.flatten.toArray.size+1))) (h1.put (Ex.refl _) hn2 ⟨fun _=>zcf.2 ⟨some ⟨s.w.heap.size,0,none⟩,es.length,rfl,Nat.le_refl _,(fun h=>by cases h), ?_,fun _=>⟨s.w.heap.size,0,css,rfl,⟨by simp [St.push],fun h=>by have:=s.lt _ h;omega⟩,⟨hEl.1,fun i cs x a b=>(En.int .u8).psh (hEl.2 i cs x a b)⟩,zcg (heap_alloc_new s.w _)⟩⟩,fun h=>absurd hc h⟩);rw [hlen,← hk];have:k≤k*(En.int .u8).sz:=Nat.le_mul_of_pos_right k (En.int .u8).pos;simp only [lim];omega
 ·refine wpList_step fun K hK=>?_;rw [if_neg fun h=>hc ((ziy hg1 hj hb).1 h)];refine hK _ _ ?_;simp only [hd1];refine wpList_step fun K2 hK2=>?_;have hb2:(a.put (some d1) undef).eval (.tmp dj) = .bool b:=by rw [zel hne];exact hb
  rw [if_neg fun h=>hc ((ziy hg2 hj hb2).1 h)];refine hK2 _ _ ?_;simp only [hd2];have h1:Has M n s0 (a.put (some d1) undef) s ((d1,Pd.any)::L):=hL.put (Ex.refl s) hn1 trivial;exact kk _ s (h1.put (Ex.refl s) hn2 ⟨fun h=>absurd h hc,fun _=>rfl⟩)
end Go.Proofs.YtahgmdbioafmbaaGreatDoor.V
namespace Go.Proofs.YtahgmdbioafmbaaGreatDoor.V
open Go
set_option linter.unusedVariables false
def zbo.j1 (r_:(List SOn_scantling_api_State_search)) (out7:(List SOn_scantling_api_State_search)):Prop:=r_=out7
def zbo.l1 (x_:Sof_word) (l_:(List (List SItem))) (r5:(List Int)) (X1:(List SOn_scantling_api_State_search)→Prop):Nat→(List SOn_scantling_api_State_search)→Int→Prop
 | 0,_,_=>False
 | k_0+1,out11,v13=>((decide (v13<(r5.length:Int)))=true→∃e21:Int,at? r5 v13=some e21∧∃r23:(List (List SItem)),zcj x_ l_ e21 r23∧(out11.length+[(e21,r23)].length≤2147483648)∧(InR .i64 (v13+1))∧zbo.l1 x_ l_ r5 X1 k_0 (out11++[(e21,r23)]) (v13+1))∧((decide (v13<(r5.length:Int)))=false→X1 out11)
def zbo (x_:Sof_word) (l_:(List (List SItem))) (r_:(List SOn_scantling_api_State_search)):Prop:=∃r5:(List Int),zi2 x_ l_ r5∧∃k14,zbo.l1 x_ l_ r5 (zbo.j1 r_) k14 ([]:(List SOn_scantling_api_State_search)) 0
def zd0 (x_:Sof_word) (l_:(List (List SItem))) (r_:Bool):Prop:=∃r3:Bool,zih x_ l_ r3∧r_=r3
def zdp (d_:SDesc) (budget_:Int) (r_:SVerdict):Prop:=∃r7:(List (List SItem)),zhf d_ r7∧∃r9:SFound_scantling_api_State_search,zj (r7,(fun q_=>zgv q_.1 q_.2),(fun q_=>zbo d_ q_.1 q_.2),(fun q_=>zd0 d_ q_.1 q_.2)) budget_ r9∧r_=r9.1
def zju (d_:SDesc) (w_:(List Int)) (r_:Bool):Prop:=∃r3:(List (List SItem)),zcw d_ w_ r3∧∃r5:Bool,zih d_ r3 r5∧r_=r5
def zgm  (r_:Bool):Prop:=∃r3:Cl,zc3 0 255 r3∧∃r14:SDesc,zi6 4 [(2,0,0,0,0,r3,([]:Str))] [(3,0,0,0,0,(0#256),([97]:Str))] r14∧∃r21:SVerdict,zdp r14 9 r21∧∃r27:SVerdict,zdp [(2,0,0,0,0,(0#256),([]:Str))] 9 r27∧∃r34:Bool,((((r21.1==2))=true)→zb7 r21.2.1 [0,97] r34)∧∃b36:Bool,b36=((((r21.1==2)&&r34)&&(r27.1==1))&&(r27.2.2.2.2.2.2==2))∧∃r38:SVerdict,(((b36)=true)→zdp r14 1 r38)∧∃r40:Bool,((((b36&&(r38.1==3)))=true)→zju r14 [120,97] r40)∧∃r42:Bool,(((((b36&&(r38.1==3))&&r40))=true)→zju r14 [97,120] r42)∧r_=(((b36&&(r38.1==3))&&r40)&&(!r42))
def zkn (d_:SDesc) (r_:Bool):Prop:=∃r3:Bool,zdm d_ r3∧∃r5:Int,((((r3&&(decide ((d_.length:Int)≤16))))=true)→zo d_ r5)∧∃b7:Bool,b7=((r3&&(decide ((d_.length:Int)≤16)))&&(decide (r5≤60)))∧∃r9:Bool,(((b7)=true)→zhx d_ r9)∧r_=(b7&&r9)
def zgn (d_:SDesc) (a_:Int) (b_:Int) (r_:Bool):Prop:=∃r4:Bool,zgm  r4∧∃r6:Bool,((((!r4))=false)→zkn d_ r6)∧∃b8:Bool,b8=((((!r4)||(!r6))||(decide (b_<a_)))||(decide (60<b_)))∧∃r10:Bool,(((b8)=false)→zgk d_ d_ b_ r10)∧(((b8||(!r10)))=true→∃r13:Bool,zgm  r13∧r_=r13)∧(((b8||(!r10)))=false→∃r16:SVerdict,zdp d_ a_ r16∧∃r20:SVerdict,zdp d_ b_ r20∧∃b26:Bool,b26=((decide (a_<r16.2.2.2.2.2.2))||(decide (b_<r20.2.2.2.2.2.2)))∧∃r28:Bool,((((b26)=false)∧((r16.1 != 3))=true)→zi5 r16 r20 r28)∧(((b26||((r16.1 != 3)&&(!r28))))=true→r_=false)∧(((b26||((r16.1 != 3)&&(!r28))))=false→∃r32:Int,zma d_ r32∧∃r34:Int,zcl r32 r34∧∃r37:SVerdict,(((decide (300<r34))=false)→zdp d_ r34 r37)∧r_=((decide (300<r34))||(r37.1 != 3))))
set_option maxRecDepth 100000
theorem zmj {x_:Sof_word} {l_:(List (List SItem))} {r_:(List SOn_scantling_api_State_search)} (h:zbo x_ l_ r_):Fn Tryz.prog 76 [(Pd.rep En.Sof_word x_),(Pd.rep (En.slice (En.slice En.SItem)) l_)] (Ro En.SOn_scantling_api_State_search 150 r_):=by
 unfold zbo at h;refine zbx Tryz.func76 J Tryz.ntmps76 (by rfl) (by simp) fun s0 a L=>?_;refine wp_seq_k fun K1 H1=>rg (sw 2 (zcu (O 0 J) J J) L fun a s L=>?_);refine sw 4 (zb (zdg (E:=En.SOn_scantling_api_State_search) (N:=s0.w.heap.size) (te:=150)) J J) L fun a s L=>en' (H1 _ _ ?_);refine wp_seq_k fun K2 H2=>rg (sw 5 (zb (zdg (E:=En.SOn_scantling_api_State_search) (N:=s0.w.heap.size) (te:=150)) J J) L fun a s L=>?_);refine en' (H2 _ _ ?_);refine wp_seq_k fun K3 H3=>wp_seq_k fun K4 H4=>?_;obtain ⟨r5,h6,h⟩:=h;refine rg (sw 8 (zc0 (off:=0) (O 2 J) U106 J (zbw (zh _ _)) J zfl J J) L fun a s L=>?_);refine sw 9 (zt zfl (O 8 J) J J) L fun a s L=>sw 10 (zd (O 1 J) J J) L fun a s L=>sw 11 (zy ((zpq h6).frz) (xs:=[.tmp 9,.tmp 10]) (.cons (O 9 J) (.cons (O 10 J) .nil)) J J) L fun a s L=>sw 12 (zc8 (O 11 J) U26 J J) L fun a s L=>sw 13 (zd oI J J) L fun a s L=>en' (H4 _ _ ?_);refine wp_block ?_;have J9:∀(out7:(List SOn_scantling_api_State_search)) (og8:Option Nat) (a:Act) (s:St),Has N0 29 s0 a s [(5,(Pd.row En.SOn_scantling_api_State_search s0.w.heap.size 150 og8 out7))]→((zbo.j1 r_) out7)→K3 a s.w:=by
  intro out7 og8 a s L h;unfold zbo.j1 at h;show K3 a s.w;refine H3 _ _ (wp_seq_k fun K10 H10=>?_);refine rg (sw 28 (zd (O 5 J) J J) L fun a s L=>?_);refine sw 4 (zb (O 28 J) J J) L fun a s L=>en' (H10 _ _ ?_);subst h;exact wp_ret (zjn J L J)
 obtain ⟨k14,h⟩:=h;refine lpg (fun k15 a s=>∃(out11:(List SOn_scantling_api_State_search)) (v13:Int) (og12:Option Nat),Has N0 29 s0 a s [(1,(Pd.rep (En.slice (En.slice En.SItem)) l_)),(2,(Pd.ptr En.Sof_word x_)),(5,(Pd.row En.SOn_scantling_api_State_search s0.w.heap.size 150 og12 out11)),(11,(Pd.rep (En.slice (En.int .u8)) r5)),(12,(Pi (r5.length:Int))),(13,(Pi v13))]∧zbo.l1 x_ l_ r5 (zbo.j1 r_) k15 out11 v13) k14 ⟨([]:(List SOn_scantling_api_State_search)),0,none,L.keep (.k 1 (.k 2 (.cons (t:=5) J (fun _ _ h_=>h_) (.k 11 (.k 12 (.k 13 .nil)))))),h⟩ ?_;rintro k15 a s ⟨out11,v13,og12,L,h⟩ KL16 hKL16;cases k15 with
 | zero=>exact h.elim
 | succ k15=>
 unfold zbo.l1 at h;refine wp_seq_k fun K17 H17=>rg (sw 14 (zbz (O 13 J) (O 12 J) J J) L fun a s L=>?_);refine en' (H17 _ _ ?_);refine wp_seq_k fun K18 H18=>cnd L J (fun hb_=>?_) (fun hb_=>?_)
 ·replace h:=h.1 hb_;refine wp_skip ?_;show K18 a s.w;refine H18 _ _ (wp_seq_k fun K19 H19=>?_);refine wp_block (wp_seq_k fun K20 H20=>?_);obtain ⟨e21,h22,h⟩:=h;refine rg (sw 15 (zde (O 11 J) (O 13 J) h22 U26 ty5 J J) L fun a s L=>?_);refine sw 16 (zt ty5 (O 15 J) J J) L fun a s L=>sw 7 (zb (O 16 J) J J) L fun a s L=>en' (H20 _ _ ?_);obtain ⟨r23,h24,h25,h⟩:=h;refine rg (sw 17 (zd (O 5 J) J J) L fun a s L=>?_);refine sw 18 (zd (O 7 J) J J) L fun a s L=>sw 19 (zc0 (off:=0) (O 2 J) U106 J (zbw (zh _ _)) J zfl J J) L fun a s L=>sw 20 (zt zfl (O 19 J) J J) L fun a s L=>sw 21 (zd (O 1 J) J J) L fun a s L=>sw 22 (zd (O 7 J) J J) L fun a s L=>sw 23 (zy ((zo3 h24).frz) (xs:=[.tmp 20,.tmp 21,.tmp 22]) (.cons (O 20 J) (.cons (O 21 J) (.cons (O 22 J) .nil))) J J) L fun a s L=>sw 24 (zcb (x:=(e21,r23)) (ps:=[(0,.tmp 18),(1,.tmp 23)]) tyz150 J stt150 (.cons (i:=0) (O 18 J) J (zbi (zz _ _ _)) (.cons (i:=1) (O 23 J) J (zx (zz _ _ _) J) .nil)) J J) L fun a s L=>sw 25 (zec (xs:=[.tmp 24]) (.cons (O 24 J) .nil) U148 ty150 J J (by decide) J J) L fun a s L=>zev (L':=[(1,(Pd.rep (En.slice (En.slice En.SItem)) l_)),(2,(Pd.ptr En.Sof_word x_)),(11,(Pd.rep (En.slice (En.int .u8)) r5)),(12,(Pi (r5.length:Int))),(13,(Pi v13))]) 26 L (O 17 J) (O 25 J) U148 ty150 h25 J J J J (.k 1 (.k 2 (.k 11 (.k 12 (.k 13 .nil))))) fun a s og26 hg_ L=>?_;refine sw 5 (zb (O 26 J) J J) L fun a s L=>en' (H19 _ _ ?_);obtain ⟨h27,h⟩:=h;refine rg (sw 27 (zbk (O 13 J) oI h27 J J) L fun a s L=>?_);refine sw 13 (zd (O 27 J) J J) L fun a s L=>en' ?_
  exact hKL16 k15 a s (Nat.lt_succ_self _) ⟨(out11++[(e21,r23)]),(v13+1),og26,L.keep (.k 1 (.k 2 (.cons (t:=5) J (fun _ _ h_=>h_) (.k 11 (.k 12 (.k 13 .nil)))))),h⟩
 ·replace h:=h.2 hb_;refine wp_exit ?_;exact J9 out11 og12 a s (L.keep (.cons (t:=5) J (fun _ _ h_=>h_) .nil)) h
theorem zmk {x_:Sof_word} {l_:(List (List SItem))} {r_:Bool} (h:zd0 x_ l_ r_):Fn Tryz.prog 77 [(Pd.rep En.Sof_word x_),(Pd.rep (En.slice (En.slice En.SItem)) l_)] (Rq (Pd.rep En.bool r_)):=by
 unfold zd0 at h;refine zbx Tryz.func77 J Tryz.ntmps77 (by rfl) (by simp) fun s0 a L=>?_;refine wp_seq_k fun K1 H1=>rg (sw 2 (zcu (O 0 J) J J) L fun a s L=>?_);refine sw 4 (zb o_b J J) L fun a s L=>en' (H1 _ _ ?_);refine wp_seq_k fun K2 H2=>?_;obtain ⟨r3,h4,h⟩:=h;refine rg (sw 5 (zc0 (off:=0) (O 2 J) U106 J (zbw (zh _ _)) J zfl J J) L fun a s L=>?_);refine sw 6 (zt zfl (O 5 J) J J) L fun a s L=>sw 7 (zd (O 1 J) J J) L fun a s L=>sw 8 (zy (zlp h4) (xs:=[.tmp 6,.tmp 7]) (.cons (O 6 J) (.cons (O 7 J) .nil)) J J) L fun a s L=>sw 4 (zb (O 8 J) J J) L fun a s L=>en' (H2 _ _ ?_);subst h;exact wp_ret (zdu J L J)
theorem zep {d_:SDesc} {budget_:Int} {r_:SVerdict} (h:zdp d_ budget_ r_):Fn Tryz.prog 41 [(Pd.rep En.SDesc d_),(Pi budget_)] (Rq (Pd.rep En.SVerdict r_)):=by
 unfold zdp at h;refine zbx Tryz.func41 J Tryz.ntmps41 (by rfl) (by simp) fun s0 a L=>?_;refine wp_seq_k fun K1 H1=>rg (sw 2 (zcu (O 0 J) J J) L fun a s L=>?_);refine zbf En.SVerdict (z:=(0,[],[],0,0,0,0)) 4 L tyz58 J J J J fun a s g2 hg_ L=>?_;refine en' (H1 _ _ ?_);refine wp_seq_k fun K3 H3=>rg (sw 6 (zt zfl (O 2 J) J J) L fun a s L=>?_);refine sw 7 (zcb (x:=d_) (ps:=[(0,.tmp 6)]) tyz106 J stt106 (.cons (i:=0) (O 6 J) J (zj7 (zz _ _ _)) .nil) J J) L fun a s L=>?_;have lt_d5:=L.blt 4 rfl;refine zbf En.Sof_word (z:=[]) 5 L tyz106 J J J J fun a s g4 hg_ L=>?_;have d5:Dis (some g4) (some g2):=Dis.newg hg_ lt_d5;refine zby (L':=[(1,(Pi budget_)),(2,(Pd.ptr En.SDesc d_)),(4,(Pd.box En.SVerdict s0.w.heap.size g2 (0,[],[],0,0,0,0)))]) 5 L J (O 7 J) ty106 J J J (.k 1 (.k 2 (.cons (t:=4) J (Dis.bx (Dis.symm d5)) .nil))) fun s L=>?_;refine en' (H3 _ _ ?_);refine wp_seq_k fun K6 H6=>?_;obtain ⟨r7,h8,r9,h10,h⟩:=h;refine rda zcm 10 [(Pd.rep En.SDesc d_),(Pd.rep (En.slice (En.slice En.SItem)) r7),(Pd.rep En.Sof_word d_),(Pd.rep EnF109 (fun q_=>zbo d_ q_.1 q_.2)),(Pd.rep En.Sof_word d_),(Pd.rep EnF110 (fun q_=>zd0 d_ q_.1 q_.2)),(Pd.rep En.SSpace_scantling_api_State_search (r7,(fun q_=>zgv q_.1 q_.2),(fun q_=>zbo d_ q_.1 q_.2),(fun q_=>zd0 d_ q_.1 q_.2))),(Pi budget_),(Pd.rep En.SFound_scantling_api_State_search r9),(Pd.rep En.SVerdict r9.1)] L (by kernel_rfl) J J ?_ ?_
 ·refine z8.cons (zt zfl (O 2 J) J J) ?_;refine z8.cons (zy ((zka h8).frz) (xs:=[.tmp 8]) (.cons (O 8 J) .nil) J J) (z8.cons (zbr ty106 (O 5 J) J J) ?_);refine z8.cons (t_q (Pd.rep EnF109 (fun q_=>zbo d_ q_.1 q_.2)) (t_mkmeth (cs:=[.tmp 10]) (.cons (O 10 J) .nil) (ze6 Tryz.func76 J (by rfl)) (zme enc_rep zq0) (fun q_ h_=>(zmj h_).frz) J J)) (z8.cons (zbr ty106 (O 5 J) J J) ?_);refine z8.cons (t_q (Pd.rep EnF110 (fun q_=>zd0 d_ q_.1 q_.2)) (t_mkmeth (cs:=[.tmp 12]) (.cons (O 12 J) .nil) (ze6 Tryz.func77 J (by rfl)) (zme enc_rep zq0) (fun q_ h_=>zmk h_) J J)) (z8.cons (zcb (x:=(r7,(fun q_=>zgv q_.1 q_.2),(fun q_=>zbo d_ q_.1 q_.2),(fun q_=>zd0 d_ q_.1 q_.2))) (ps:=[(0,.tmp 9),(1,.func 35),(2,.tmp 11),(3,.tmp 13)]) tyz112 J stt112 (.cons (i:=0) (O 9 J) J (zbi (zz _ _ _)) (.cons (i:=1) (o_q (Pd.rep EnF43 (fun q_=>zgv q_.1 q_.2)) (o_fun (ze6 Tryz.func35 J (by rfl)) (fun q_ h_=>sets_Key_ok h_))) J (zx (zbi (zz _ _ _)) J) (.cons (i:=2) (O 11 J) J (zx (zx (zbi (zz _ _ _)) J) J) (.cons (i:=3) (O 13 J) J (zx (zx (zx (zz _ _ _) J) J) J) .nil)))) J J) ?_);refine z8.cons (zd (O 1 J) J J) (z8.cons (zy (zf0 h10) (xs:=[.tmp 14,.tmp 15]) (.cons (O 14 J) (.cons (O 15 J) .nil)) J J) ?_);refine z8.cons (t_fv (off:=0) (O 16 J) J U108 J (zm (zh _ _)) J ty58 J J) ?_;exact z8.nil
 intro a s _ L;refine zby (L':=[]) 4 L J (O 17 J) ty58 J J J .nil fun s L=>?_;refine en' (H6 _ _ ?_);subst h;exact wp_ret (retb J ty58 L J)
theorem zos {d_:SDesc} {w_:(List Int)} {r_:Bool} (h:zju d_ w_ r_):Fn Tryz.prog 43 [(Pd.rep En.SDesc d_),(Pd.rep (En.slice (En.int .u8)) w_)] (Rq (Pd.rep En.bool r_)):=by
 unfold zju at h;refine zbx Tryz.func43 J Tryz.ntmps43 (by rfl) (by simp) fun s0 a L=>?_;refine wp_seq_k fun K1 H1=>rg (sw 2 (zcu (O 0 J) J J) L fun a s L=>?_);refine sw 4 (zb o_b J J) L fun a s L=>en' (H1 _ _ ?_);refine wp_seq_k fun K2 H2=>?_;obtain ⟨r3,h4,r5,h6,h⟩:=h;refine rda zcm 5 [(Pd.rep En.SDesc d_),(Pd.rep En.SDesc d_),(Pd.rep (En.slice (En.int .u8)) w_),(Pd.rep (En.slice (En.slice En.SItem)) r3),(Pd.rep En.bool r5)] L (by kernel_rfl) J J ?_ ?_
 ·refine z8.cons (zt zfl (O 2 J) J J) ?_;refine z8.cons (zt zfl (O 2 J) J J) (z8.cons (zd (O 1 J) J J) ?_);refine z8.cons (zy ((zpr h4).frz) (xs:=[.tmp 6,.tmp 7]) (.cons (O 6 J) (.cons (O 7 J) .nil)) J J) (z8.cons (zy (zlp h6) (xs:=[.tmp 5,.tmp 8]) (.cons (O 5 J) (.cons (O 8 J) .nil)) J J) ?_);exact z8.nil
 intro a s _ L;refine sw 4 (zb (O 9 J) J J) L fun a s L=>en' (H2 _ _ ?_);subst h;exact wp_ret (zdu J L J)
theorem zjs  {r_:Bool} (h:zgm  r_):Fn Tryz.prog 37 [] (Rq (Pd.rep En.bool r_)):=by
 unfold zgm at h;refine zbx Tryz.func37 J Tryz.ntmps37 (by rfl) (by simp) fun s0 a L=>?_;refine wp_seq_k fun K1 H1=>rg (sw 0 (zb o_b J J) L fun a s L=>?_);refine en' (H1 _ _ ?_);refine wp_seq_k fun K2 H2=>?_;obtain ⟨r3,h4,h⟩:=h;refine rg (sw 7 (zy (ref01_Row_ok h4) (xs:=[.const (.int .u8 0),.const (.int .u8 255)]) (.cons (o_i (k:=.u8) (by decide)) (.cons (o_i (k:=.u8) (by decide)) .nil)) J J) L fun a s L=>?_);refine sw 8 (zcb (x:=(2,0,0,0,0,r3,([]:Str))) (ps:=[(0,.const (.int .i64 2)),(5,.tmp 7)]) zk2 J stt68 (.cons (i:=0) oI J (zbi (zz _ _ _)) (.cons (i:=5) (O 7 J) J (zx (zx (zx (zx (zx (zbi (zz _ _ _)) J) J) J) J) J) .nil)) J J) L fun a s L=>sw 9 (zec (xs:=[.tmp 8]) (.cons (O 8 J) .nil) U22 zfi J J (by decide) J J) L fun a s L=>sw 10 (zcb (x:=[(2,0,0,0,0,r3,([]:Str))]) (ps:=[(0,.tmp 9)]) zpm J stt24 (.cons (i:=0) (O 9 J) J (zj7 (zz _ _ _)) .nil) J J) L fun a s L=>zbf En.SDesc (z:=[]) 1 L zpm J J J J fun a s g5 hg_ L=>?_;refine zby (L':=[]) 1 L J (O 10 J) zfl J J J .nil fun s L=>?_;refine en' (H2 _ _ ?_);refine wp_seq_k fun K6 H6=>rg (sw 11 (zcb (x:=(3,0,0,0,0,(0#256),([97]:Str))) (ps:=[(0,.const (.int .i64 3)),(6,.const (.string ⟨#[97]⟩))]) zk2 J stt68 (.cons (i:=0) oI J (zbi (zz _ _ _)) (.cons (i:=6) (o_s (by decide)) J (zx (zx (zx (zx (zx (zx (zz _ _ _) J) J) J) J) J) J) .nil)) J J) L fun a s L=>?_);refine sw 12 (zec (xs:=[.tmp 11]) (.cons (O 11 J) .nil) U22 zfi J J (by decide) J J) L fun a s L=>sw 13 (zcb (x:=[(3,0,0,0,0,(0#256),([97]:Str))]) (ps:=[(0,.tmp 12)]) zpm J stt24 (.cons (i:=0) (O 12 J) J (zj7 (zz _ _ _)) .nil) J J) L fun a s L=>?_
 have lt_d8:=L.blt 1 rfl;refine zbf En.SDesc (z:=[]) 2 L zpm J J J J fun a s g7 hg_ L=>?_;have d8:Dis (some g7) (some g5):=Dis.newg hg_ lt_d8;refine zby (L':=[(1,(Pd.box En.SDesc s0.w.heap.size g5 [(2,0,0,0,0,r3,([]:Str))]))]) 2 L J (O 13 J) zfl J J J (.cons (t:=1) J (Dis.bx (Dis.symm d8)) .nil) fun s L=>?_;refine en' (H6 _ _ ?_);refine wp_seq_k fun K9 H9=>rg (sw 14 (zcb (x:=(2,0,0,0,0,(0#256),([]:Str))) (ps:=[(0,.const (.int .i64 2))]) zk2 J stt68 (.cons (i:=0) oI J (zbi (zz _ _ _)) .nil) J J) L fun a s L=>?_);refine sw 15 (zec (xs:=[.tmp 14]) (.cons (O 14 J) .nil) U22 zfi J J (by decide) J J) L fun a s L=>sw 16 (zcb (x:=[(2,0,0,0,0,(0#256),([]:Str))]) (ps:=[(0,.tmp 15)]) zpm J stt24 (.cons (i:=0) (O 15 J) J (zj7 (zz _ _ _)) .nil) J J) L fun a s L=>?_;have lt_d12:=L.blt 2 rfl;have lt_d11:=L.blt 1 rfl;refine zbf En.SDesc (z:=[]) 3 L zpm J J J J fun a s g10 hg_ L=>?_;have d11:Dis (some g10) (some g5):=Dis.newg hg_ lt_d11;have d12:Dis (some g10) (some g7):=Dis.newg hg_ lt_d12;refine zby (L':=[(1,(Pd.box En.SDesc s0.w.heap.size g5 [(2,0,0,0,0,r3,([]:Str))])),(2,(Pd.box En.SDesc s0.w.heap.size g7 [(3,0,0,0,0,(0#256),([97]:Str))]))]) 3 L J (O 16 J) zfl J J J (.cons (t:=1) J (Dis.bx (Dis.symm d11)) (.cons (t:=2) J (Dis.bx (Dis.symm d12)) .nil)) fun s L=>?_;refine en' (H9 _ _ ?_);refine wp_seq_k fun K13 H13=>?_;obtain ⟨r14,h15,h⟩:=h;refine rg (sw 17 (zbr zfl (O 1 J) J J) L fun a s L=>?_);refine sw 18 (zbr zfl (O 2 J) J J) L fun a s L=>sw 19 (zy (zp5 h15) (xs:=[.const (.int .i64 4),.tmp 17,.tmp 18]) (.cons oI (.cons (O 17 J) (.cons (O 18 J) .nil))) J J) L fun a s L=>?_
 have lt_d19:=L.blt 3 rfl;have lt_d18:=L.blt 2 rfl;have lt_d17:=L.blt 1 rfl;refine zbf En.SDesc (z:=[]) 4 L zpm J J J J fun a s g16 hg_ L=>?_;have d17:Dis (some g16) (some g5):=Dis.newg hg_ lt_d17;have d18:Dis (some g16) (some g7):=Dis.newg hg_ lt_d18;have d19:Dis (some g16) (some g10):=Dis.newg hg_ lt_d19;refine zby (L':=[(3,(Pd.box En.SDesc s0.w.heap.size g10 [(2,0,0,0,0,(0#256),([]:Str))]))]) 4 L J (O 19 J) zfl J J J (.cons (t:=3) J (Dis.bx (Dis.symm d19)) .nil) fun s L=>?_;refine en' (H13 _ _ ?_);refine wp_seq_k fun K20 H20=>?_;obtain ⟨r21,h22,h⟩:=h;refine rg (sw 20 (zbr zfl (O 4 J) J J) L fun a s L=>?_);refine sw 21 (zy (zep h22) (xs:=[.tmp 20,.const (.int .i64 9)]) (.cons (O 20 J) (.cons oI .nil)) J J) L fun a s L=>?_;have lt_d25:=L.blt 4 rfl;have lt_d24:=L.blt 3 rfl;refine zbf En.SVerdict (z:=(0,[],[],0,0,0,0)) 5 L tyz58 J J J J fun a s g23 hg_ L=>?_;have d24:Dis (some g23) (some g10):=Dis.newg hg_ lt_d24;have d25:Dis (some g23) (some g16):=Dis.newg hg_ lt_d25;refine zby (L':=[(3,(Pd.box En.SDesc s0.w.heap.size g10 [(2,0,0,0,0,(0#256),([]:Str))])),(4,(Pd.box En.SDesc s0.w.heap.size g16 r14))]) 5 L J (O 21 J) ty58 J J J (.cons (t:=3) J (Dis.bx (Dis.symm d24)) (.cons (t:=4) J (Dis.bx (Dis.symm d25)) .nil)) fun s L=>?_;refine en' (H20 _ _ ?_);refine wp_seq_k fun K26 H26=>?_;obtain ⟨r27,h28,h⟩:=h;refine rg (sw 22 (zbr zfl (O 3 J) J J) L fun a s L=>?_);refine sw 23 (zy (zep h28) (xs:=[.tmp 22,.const (.int .i64 9)]) (.cons (O 22 J) (.cons oI .nil)) J J) L fun a s L=>?_;have lt_d32:=L.blt 5 rfl
 have lt_d31:=L.blt 4 rfl;have lt_d30:=L.blt 3 rfl;refine zbf En.SVerdict (z:=(0,[],[],0,0,0,0)) 6 L tyz58 J J J J fun a s g29 hg_ L=>?_;have d30:Dis (some g29) (some g10):=Dis.newg hg_ lt_d30;have d31:Dis (some g29) (some g16):=Dis.newg hg_ lt_d31;have d32:Dis (some g29) (some g23):=Dis.newg hg_ lt_d32;refine zby (L':=[(4,(Pd.box En.SDesc s0.w.heap.size g16 r14)),(5,(Pd.box En.SVerdict s0.w.heap.size g23 r21))]) 6 L J (O 23 J) ty58 J J J (.cons (t:=4) J (Dis.bx (Dis.symm d31)) (.cons (t:=5) J (Dis.bx (Dis.symm d32)) .nil)) fun s L=>?_;refine en' (H26 _ _ ?_);refine wp_seq_k fun K33 H33=>?_;obtain ⟨r34,h35,b36,h37,r38,h39,r40,h41,r42,h43,h⟩:=h;refine rg (sw 24 (zbj (off:=0) (O 5 J) U58 J (zm (zh _ _)) J ty3 J J) L fun a s L=>?_);refine sw 25 (zp ty3 (O 24 J) J J) L fun a s L=>sw 26 (zbt (O 25 J) oI J J) L fun a s L=>sw 27 (zd (O 26 J) J J) L fun a s L=>sw 28 (zbg J J J (fun hc_=>zbj (off:=1) (O 5 J) U58 J (ze (zm (zh _ _)) J) J ty26 J J)) L fun a s L=>sw 29 (zbg J J J (fun hc_=>zp ty26 (o_w hc_ 28 J) J J)) L fun a s L=>sw 30 (zbg J J J (fun hc_=>zec (xs:=[.const (.int .u8 0),.const (.int .u8 97)]) (.cons (o_i (k:=.u8) (by decide)) (.cons (o_i (k:=.u8) (by decide)) .nil)) U26 ty5 J J (by decide) J J)) L fun a s L=>sw 31 (zbg J J J (fun hc_=>zy (zg4 (h35 hc_)) (xs:=[.tmp 29,.tmp 30]) (.cons (o_w hc_ 29 J) (.cons (o_w hc_ 30 J) .nil)) J J)) L fun a s L=>sw 32 (zc1 (O 27 J) (fun hc2_=>(o_w hc2_ 31 J)) J J) L fun a s L=>sw 33 (zd (O 32 J) J J) L fun a s L=>?_;refine sw 34 (zbg J J J (fun hc_=>zbj (off:=0) (O 6 J) U58 J (zm (zh _ _)) J ty3 J J)) L fun a s L=>sw 35 (zbg J J J (fun hc_=>zp ty3 (o_w hc_ 34 J) J J)) L fun a s L=>sw 36 (zbg J J J (fun hc_=>zbt (o_w hc_ 35 J) oI J J)) L fun a s L=>sw 37 (zc1 (O 33 J) (fun hc2_=>(o_w hc2_ 36 J)) J J) L fun a s L=>sw 38 (zd (O 37 J) J J) L fun a s L=>sw 39 (zbg J J J (fun hc_=>zbj (off:=6) (O 6 J) U58 J (ze (ze (ze (ze (ze (ze (zh _ _) J) J) J) J) J) J) J ty3 J J)) L fun a s L=>sw 40 (zbg J J J (fun hc_=>zp ty3 (o_w hc_ 39 J) J J)) L fun a s L=>sw 41 (zbg J J J (fun hc_=>zbt (o_w hc_ 40 J) oI J J)) L fun a s L=>sw 42 (h37 ▸ (zc1 (O 38 J) (fun hc2_=>(o_w hc2_ 41 J)) J J)) L fun a s L=>?_
 refine sw 43 (zd (O 42 J) J J) L fun a s L=>sw 44 (zbg J J J (fun hc_=>zbr zfl (O 4 J) J J)) L fun a s L=>sw 45 (zbg J J J (fun hc_=>zy (zep (h39 hc_)) (xs:=[.tmp 44,.const (.int .i64 1)]) (.cons (o_w hc_ 44 J) (.cons oI .nil)) J J)) L fun a s L=>sw 46 (zbg J J J (fun hc_=>t_fv (off:=0) (o_w hc_ 45 J) J U58 J (zm (zh _ _)) J ty3 J J)) L fun a s L=>sw 47 (zbg J J J (fun hc_=>zbt (o_w hc_ 46 J) oI J J)) L fun a s L=>sw 48 (zc1 (O 43 J) (fun hc2_=>(o_w hc2_ 47 J)) J J) L fun a s L=>sw 49 (zd (O 48 J) J J) L fun a s L=>sw 50 (zbg J J J (fun hc_=>zbr zfl (O 4 J) J J)) L fun a s L=>st_blitg (xs:=[.const (.int .u8 120),.const (.int .u8 97)]) 51 52 J J J J J L (.cons (o_i (k:=.u8) (by decide)) (.cons (o_i (k:=.u8) (by decide)) .nil)) U26 U5 ty5 J J (by decide) J J J J J J fun a s L=>?_;refine sw 53 (zbg J J J (fun hc_=>zy (zos (h41 hc_)) (xs:=[.tmp 50,.tmp 52]) (.cons (o_w hc_ 50 J) (.cons (o_w hc_ 52 J) .nil)) J J)) L fun a s L=>sw 54 (zc1 (O 49 J) (fun hc2_=>(o_w hc2_ 53 J)) J J) L fun a s L=>sw 55 (zd (O 54 J) J J) L fun a s L=>sw 56 (zbg J J J (fun hc_=>zbr zfl (O 4 J) J J)) L fun a s L=>st_blitg (xs:=[.const (.int .u8 97),.const (.int .u8 120)]) 57 58 J J J J J L (.cons (o_i (k:=.u8) (by decide)) (.cons (o_i (k:=.u8) (by decide)) .nil)) U26 U5 ty5 J J (by decide) J J J J J J fun a s L=>?_;refine sw 59 (zbg J J J (fun hc_=>zy (zos (h43 hc_)) (xs:=[.tmp 56,.tmp 58]) (.cons (o_w hc_ 56 J) (.cons (o_w hc_ 58 J) .nil)) J J)) L fun a s L=>sw 60 (zbg J J J (fun hc_=>zia (o_w hc_ 59 J) J J)) L fun a s L=>sw 61 (zc1 (O 55 J) (fun hc2_=>(o_w hc2_ 60 J)) J J) L fun a s L=>sw 0 (zb (O 61 J) J J) L fun a s L=>en' (H33 _ _ ?_)
 subst h;exact wp_ret (zdu J L J)
theorem law18_few_ok {d_:SDesc} {r_:Bool} (h:zkn d_ r_):Fn Tryz.prog 38 [(Pd.rep En.SDesc d_)] (Rq (Pd.rep En.bool r_)):=by
 unfold zkn at h;refine zbx Tryz.func38 J Tryz.ntmps38 (by rfl) (by simp) fun s0 a L=>?_;refine wp_seq_k fun K1 H1=>rg (sw 1 (zcu (O 0 J) J J) L fun a s L=>?_);refine sw 2 (zb o_b J J) L fun a s L=>en' (H1 _ _ ?_);refine wp_seq_k fun K2 H2=>?_;obtain ⟨r3,h4,r5,h6,b7,h8,r9,h10,h⟩:=h;refine rg (sw 3 (zt zfl (O 1 J) J J) L fun a s L=>?_);refine sw 4 (zy (ref04_Few_ok h4) (xs:=[.tmp 3]) (.cons (O 3 J) .nil) J J) L fun a s L=>sw 5 (zd (O 4 J) J J) L fun a s L=>sw 6 (zbg J J J (fun hc_=>zc0 (off:=0) (O 1 J) U24 J (zbw (zh _ _)) J zfj J J)) L fun a s L=>sw 7 (zbg J J J (fun hc_=>zt zfj (o_w hc_ 6 J) J J)) L fun a s L=>sw 8 (zbg J J J (fun hc_=>zc8 (o_w hc_ 7 J) U22 J J)) L fun a s L=>sw 9 (zbg J J J (fun hc_=>zji (o_w hc_ 8 J) oI J J)) L fun a s L=>sw 10 (zc1 (O 5 J) (fun hc2_=>(o_w hc2_ 9 J)) J J) L fun a s L=>sw 11 (zd (O 10 J) J J) L fun a s L=>sw 12 (zbg J J J (fun hc_=>zt zfl (O 1 J) J J)) L fun a s L=>?_;refine sw 13 (zbg J J J (fun hc_=>zy (zm5 (h6 hc_)) (xs:=[.tmp 12]) (.cons (o_w hc_ 12 J) .nil) J J)) L fun a s L=>sw 14 (zbg J J J (fun hc_=>zji (o_w hc_ 13 J) oI J J)) L fun a s L=>sw 15 (h8 ▸ (zc1 (O 11 J) (fun hc2_=>(o_w hc2_ 14 J)) J J)) L fun a s L=>sw 16 (zd (O 15 J) J J) L fun a s L=>sw 17 (zbg J J J (fun hc_=>zt zfl (O 1 J) J J)) L fun a s L=>sw 18 (zbg J J J (fun hc_=>zy (zod (h10 hc_)) (xs:=[.tmp 17]) (.cons (o_w hc_ 17 J) .nil) J J)) L fun a s L=>sw 19 (zc1 (O 16 J) (fun hc2_=>(o_w hc2_ 18 J)) J J) L fun a s L=>sw 2 (zb (O 19 J) J J) L fun a s L=>en' (H2 _ _ ?_);subst h
 exact wp_ret (zdu J L J)
theorem law18_WordBound_ok {d_:SDesc} {a_:Int} {b_:Int} {r_:Bool} (h:zgn d_ a_ b_ r_):Fn Tryz.prog 11 [(Pd.rep En.SDesc d_),(Pd.rep (En.int .u8) a_),(Pd.rep (En.int .u8) b_)] (Rq (Pd.rep En.bool r_)):=by
 unfold zgn at h;refine zbx Tryz.func11 J Tryz.ntmps11 (by rfl) (by simp) fun s0 a L=>?_;refine wp_seq_k fun K1 H1=>rg (sw 3 (zcu (O 0 J) J J) L fun a s L=>?_);refine sw 6 (zb o_b J J) L fun a s L=>en' (H1 _ _ ?_);refine wp_seq_k fun K2 H2=>wp_seq_k fun K3 H3=>?_;obtain ⟨r4,h5,r6,h7,b8,h9,r10,h11,h⟩:=h;refine rg (sw 10 (zy (zjs h5) (xs:=[]) .nil J J) L fun a s L=>?_);refine sw 11 (zia (O 10 J) J J) L fun a s L=>sw 12 (zd (O 11 J) J J) L fun a s L=>sw 13 (zbg J J J (fun hc_=>zt zfl (O 3 J) J J)) L fun a s L=>sw 14 (zbg J J J (fun hc_=>zy (law18_few_ok (h7 hc_)) (xs:=[.tmp 13]) (.cons (o_w hc_ 13 J) .nil) J J)) L fun a s L=>sw 15 (zbg J J J (fun hc_=>zia (o_w hc_ 14 J) J J)) L fun a s L=>sw 16 (zox (O 12 J) (fun hc2_=>(o_w hc2_ 15 J)) J J) L fun a s L=>sw 17 (zd (O 16 J) J J) L fun a s L=>sw 18 (zbg J J J (fun hc_=>zd (O 1 J) J J)) L fun a s L=>sw 19 (zbg J J J (fun hc_=>zd (O 2 J) J J)) L fun a s L=>?_;refine sw 20 (zbg J J J (fun hc_=>zhd (o_w hc_ 18 J) (o_w hc_ 19 J) J J)) L fun a s L=>sw 21 (zox (O 17 J) (fun hc2_=>(o_w hc2_ 20 J)) J J) L fun a s L=>sw 22 (zd (O 21 J) J J) L fun a s L=>sw 23 (zbg J J J (fun hc_=>zd (O 2 J) J J)) L fun a s L=>sw 24 (zbg J J J (fun hc_=>zhd (o_w hc_ 23 J) (o_i (k:=.u8) (by decide)) J J)) L fun a s L=>sw 25 (h9 ▸ (zox (O 22 J) (fun hc2_=>(o_w hc2_ 24 J)) J J)) L fun a s L=>sw 26 (zd (O 25 J) J J) L fun a s L=>sw 27 (zbg J J J (fun hc_=>zt zfl (O 3 J) J J)) L fun a s L=>sw 28 (zbg J J J (fun hc_=>zt zfl (O 3 J) J J)) L fun a s L=>?_;refine sw 29 (zbg J J J (fun hc_=>zd (O 2 J) J J)) L fun a s L=>sw 30 (zbg J J J (fun hc_=>t_up (o_w hc_ 29 J) (by decide) U5 U3 J J)) L fun a s L=>sw 31 (zbg J J J (fun hc_=>zy (zoh (h11 hc_)) (xs:=[.tmp 27,.tmp 28,.tmp 30]) (.cons (o_w hc_ 27 J) (.cons (o_w hc_ 28 J) (.cons (o_w hc_ 30 J) .nil))) J J)) L fun a s L=>sw 32 (zbg J J J (fun hc_=>zia (o_w hc_ 31 J) J J)) L fun a s L=>sw 33 (zox (O 26 J) (fun hc2_=>(o_w hc2_ 32 J)) J J) L fun a s L=>en' (H3 _ _ ?_)
 refine cnd L J (fun hb_=>?_) (fun hb_=>?_)
 ·replace h:=h.1 hb_;refine wp_seq_k fun K12 H12=>?_;obtain ⟨r13,h14,h⟩:=h;refine rg (sw 34 (zy (zjs h14) (xs:=[]) .nil J J) L fun a s L=>?_);refine sw 6 (zb (O 34 J) J J) L fun a s L=>en' (H12 _ _ ?_);subst h;exact wp_ret (zdu J L J)
 ·replace h:=h.2 hb_;refine wp_skip ?_;show K2 a s.w;refine H2 _ _ (wp_seq_k fun K15 H15=>?_);obtain ⟨r16,h17,h⟩:=h;refine rg (sw 35 (zt zfl (O 3 J) J J) L fun a s L=>?_);refine sw 36 (zd (O 1 J) J J) L fun a s L=>sw 37 (t_up (O 36 J) (by decide) U5 U3 J J) L fun a s L=>sw 38 (zy (zep h17) (xs:=[.tmp 35,.tmp 37]) (.cons (O 35 J) (.cons (O 37 J) .nil)) J J) L fun a s L=>zbf En.SVerdict (z:=(0,[],[],0,0,0,0)) 7 L tyz58 J J J J fun a s g18 hg_ L=>?_;refine zby (L':=[(1,(Pd.rep (En.int .u8) a_)),(2,(Pd.rep (En.int .u8) b_)),(3,(Pd.ptr En.SDesc d_))]) 7 L J (O 38 J) ty58 J J J (.k 1 (.k 2 (.k 3 .nil))) fun s L=>?_;refine en' (H15 _ _ ?_);refine wp_seq_k fun K19 H19=>?_;obtain ⟨r20,h21,h⟩:=h;refine rg (sw 39 (zt zfl (O 3 J) J J) L fun a s L=>?_);refine sw 40 (zd (O 2 J) J J) L fun a s L=>sw 41 (t_up (O 40 J) (by decide) U5 U3 J J) L fun a s L=>sw 42 (zy (zep h21) (xs:=[.tmp 39,.tmp 41]) (.cons (O 39 J) (.cons (O 41 J) .nil)) J J) L fun a s L=>?_;have lt_d23:=L.blt 7 rfl;refine zbf En.SVerdict (z:=(0,[],[],0,0,0,0)) 8 L tyz58 J J J J fun a s g22 hg_ L=>?_;have d23:Dis (some g22) (some g18):=Dis.newg hg_ lt_d23;refine zby (L':=[(1,(Pd.rep (En.int .u8) a_)),(2,(Pd.rep (En.int .u8) b_)),(3,(Pd.ptr En.SDesc d_)),(7,(Pd.box En.SVerdict s0.w.heap.size g18 r16))]) 8 L J (O 42 J) ty58 J J J (.k 1 (.k 2 (.k 3 (.cons (t:=7) J (Dis.bx (Dis.symm d23)) .nil)))) fun s L=>?_;refine en' (H19 _ _ ?_);refine wp_seq_k fun K24 H24=>wp_seq_k fun K25 H25=>?_;obtain ⟨b26,h27,r28,h29,h⟩:=h;refine rg (sw 43 (zbj (off:=6) (O 7 J) U58 J (ze (ze (ze (ze (ze (ze (zh _ _) J) J) J) J) J) J) J ty3 J J) L fun a s L=>?_)
  refine sw 44 (zp ty3 (O 43 J) J J) L fun a s L=>sw 45 (zd (O 1 J) J J) L fun a s L=>sw 46 (t_up (O 45 J) (by decide) U5 U3 J J) L fun a s L=>sw 47 (zhd (O 44 J) (O 46 J) J J) L fun a s L=>sw 48 (zd (O 47 J) J J) L fun a s L=>sw 49 (zbg J J J (fun hc_=>zbj (off:=6) (O 8 J) U58 J (ze (ze (ze (ze (ze (ze (zh _ _) J) J) J) J) J) J) J ty3 J J)) L fun a s L=>sw 50 (zbg J J J (fun hc_=>zp ty3 (o_w hc_ 49 J) J J)) L fun a s L=>sw 51 (zbg J J J (fun hc_=>zd (O 2 J) J J)) L fun a s L=>sw 52 (zbg J J J (fun hc_=>t_up (o_w hc_ 51 J) (by decide) U5 U3 J J)) L fun a s L=>?_;refine sw 53 (zbg J J J (fun hc_=>zhd (o_w hc_ 50 J) (o_w hc_ 52 J) J J)) L fun a s L=>sw 54 (h27 ▸ (zox (O 48 J) (fun hc2_=>(o_w hc2_ 53 J)) J J)) L fun a s L=>sw 55 (zd (O 54 J) J J) L fun a s L=>sw 56 (zbg J J J (fun hc_=>zbj (off:=0) (O 7 J) U58 J (zm (zh _ _)) J ty3 J J)) L fun a s L=>sw 57 (zbg J J J (fun hc_=>zp ty3 (o_w hc_ 56 J) J J)) L fun a s L=>sw 58 (zbg J J J (fun hc_=>zl1 (o_w hc_ 57 J) oI J J)) L fun a s L=>sw 59 (zbg J J J (fun hc_=>zd (o_w hc_ 58 J) J J)) L fun a s L=>sw 60 (t_g J J J (fun hc_=>zbr ty58 (O 7 J) J J)) L fun a s L=>sw 61 (t_g J J J (fun hc_=>zbr ty58 (O 8 J) J J)) L fun a s L=>?_;refine sw 62 (t_g J J J (fun hc_=>zy (zpy (h29 hc_)) (xs:=[.tmp 60,.tmp 61]) (.cons (o_w hc_ 60 J) (.cons (o_w hc_ 61 J) .nil)) J J)) L fun a s L=>sw 63 (t_g J J J (fun hc_=>zia (o_w hc_ 62 J) J J)) L fun a s L=>sw 64 (zbg J J J (fun hc_=>zc1 (o_w hc_ 59 J) (fun hc2_=>(o_w (And.intro hc_ hc2_) 63 J)) J J)) L fun a s L=>sw 65 (zox (O 55 J) (fun hc2_=>(o_w hc2_ 64 J)) J J) L fun a s L=>en' (H25 _ _ ?_)
  refine cnd L J (fun hb_=>?_) (fun hb_=>?_)
  ·replace h:=h.1 hb_;refine wp_seq_k fun K30 H30=>rg (sw 6 (zb o_b J J) L fun a s L=>?_);refine en' (H30 _ _ ?_);subst h;exact wp_ret (zdu J L J)
  ·replace h:=h.2 hb_;refine wp_skip ?_;show K24 a s.w;refine H24 _ _ (wp_seq_k fun K31 H31=>?_);obtain ⟨r32,h33,r34,h35,h⟩:=h;refine rg (sw 66 (zt zfl (O 3 J) J J) L fun a s L=>?_);refine sw 67 (zy (ref07_Of_ok h33) (xs:=[.tmp 66]) (.cons (O 66 J) .nil) J J) L fun a s L=>sw 68 (zy (zof h35) (xs:=[.tmp 67]) (.cons (O 67 J) .nil) J J) L fun a s L=>sw 9 (zb (O 68 J) J J) L fun a s L=>en' (H31 _ _ ?_);refine wp_seq_k fun K36 H36=>?_;obtain ⟨r37,h38,h⟩:=h;refine rg (sw 69 (zd (O 9 J) J J) L fun a s L=>?_);refine sw 70 (zhd (O 69 J) oI J J) L fun a s L=>sw 71 (zd (O 70 J) J J) L fun a s L=>sw 72 (zbg J J J (fun hc_=>zt zfl (O 3 J) J J)) L fun a s L=>sw 73 (zbg J J J (fun hc_=>zd (O 9 J) J J)) L fun a s L=>sw 74 (zbg J J J (fun hc_=>zy (zep (h38 hc_)) (xs:=[.tmp 72,.tmp 73]) (.cons (o_w hc_ 72 J) (.cons (o_w hc_ 73 J) .nil)) J J)) L fun a s L=>sw 75 (zbg J J J (fun hc_=>t_fv (off:=0) (o_w hc_ 74 J) J U58 J (zm (zh _ _)) J ty3 J J)) L fun a s L=>sw 76 (zbg J J J (fun hc_=>zl1 (o_w hc_ 75 J) oI J J)) L fun a s L=>sw 77 (zox (O 71 J) (fun hc2_=>(o_w hc2_ 76 J)) J J) L fun a s L=>sw 6 (zb (O 77 J) J J) L fun a s L=>?_;refine en' (H36 _ _ ?_);subst h;exact wp_ret (zdu J L J)
structure Sch (T:Type) where
 start:T
 ways:T→List (Int × T)
 hit:T→Bool
abbrev Qb (T:Type):=T × Int × Int × List Int
section
variable {T : Type} [DecidableEq T]
def hasQ (acc:List (Qb T)) (x:T):Bool:=acc.any fun q=>decide (q.1=x)
def stB (i:Nat) (w:List Int) (acc:List (Qb T)) (e:Int × T):List (Qb T):=if hasQ acc e.2=true then acc else acc++[(e.2,(i:Int),e.1,w++[e.1])]
def rdB (S:Sch T) (i:Nat) (q:Qb T) (acc:List (Qb T)):List (Qb T):=(S.ways q.1).foldl (stB i q.2.2.2) acc
def zeo (S:Sch T):Nat→List (Qb T)
 | 0=>[(S.start, -1,0,[])]
 | i+1=>match (zeo S i)[i]? with
  | some q=>rdB S i q (zeo S i)
  | none=>zeo S i
theorem hasQ_iff {acc:List (Qb T)} {x:T}:hasQ acc x=true↔∃q∈acc,q.1=x:=by simp [hasQ]
theorem hasQ_app {acc:List (Qb T)} {q:Qb T} {x:T}:hasQ (acc++[q]) x=(hasQ acc x||decide (q.1=x)):=by simp [hasQ]
theorem zjf {α:Type} {a b:List α} (h:a <+: b) {j:Nat} {q:α} (hq:a[j]?=some q):b[j]?=some q:=by
 obtain ⟨r,rfl⟩:=h;rw [List.getElem?_append_left (List.getElem?_eq_some_iff.1 hq).1];exact hq
theorem stB_pre (i:Nat) (w:List Int) (acc:List (Qb T)) (e:Int × T):acc <+: stB i w acc e:=by
 unfold stB;split
 ·exact List.prefix_refl _
 ·exact List.prefix_append _ _
theorem foldB_pre (i:Nat) (w:List Int) (es:List (Int × T)):∀acc:List (Qb T),acc <+: es.foldl (stB i w) acc:=by
 induction es with
 | nil=>intro acc;exact List.prefix_refl _
 | cons e es ih=>intro acc;exact (stB_pre i w acc e).trans (ih _)
theorem znw {S:Sch T} {i:Nat} {q:Qb T} (h:(zeo S i)[i]?=some q):zeo S (i+1)=rdB S i q (zeo S i):=by
 show (match (zeo S i)[i]? with | some q=>rdB S i q (zeo S i) | none=>zeo S i)=_;rw [h]
theorem zra {S:Sch T} {i:Nat} (h:(zeo S i)[i]?=none):zeo S (i+1)=zeo S i:=by
 show (match (zeo S i)[i]? with | some q=>rdB S i q (zeo S i) | none=>zeo S i)=_;rw [h]
theorem znv (S:Sch T) (i:Nat):zeo S i <+: zeo S (i+1):=by
 cases h:(zeo S i)[i]? with
 | none=>rw [zra h];exact List.prefix_refl _
 | some q=>rw [znw h];exact foldB_pre _ _ _ _
theorem accB_pre (S:Sch T) {i j:Nat} (h:i≤j):zeo S i <+: zeo S j:=by
 obtain ⟨d,rfl⟩:∃d,j=i+d:=⟨j-i,by omega⟩;clear h
 induction d with
 | zero=>exact List.prefix_refl _
 | succ d ih=>exact ih.trans (znv S (i+d))
theorem ziv {S:Sch T} {i:Nat} (h:(zeo S i)[i]?=none):∀d,zeo S (i+d)=zeo S i
 | 0=>rfl
 | d+1=>by
  have ih:=ziv h d;have:(zeo S (i+d))[i+d]?=none:=by
   rw [ih];rw [List.getElem?_eq_none_iff] at h ⊢;omega
  rw [← Nat.add_assoc,zra this,ih]
structure GoodB (S:Sch T) (acc:List (Qb T)):Prop where
 nd:(acc.map (·.1)).Nodup
 par:∀j q,acc[j]?=some q→(j=0∧q=(S.start, -1,0,[]))∨∃p q',q.2.1=((p:Nat):Int)∧p<j∧acc[p]?=some q'∧q.2.2.2=q'.2.2.2++[q.2.2.1]∧(q.2.2.1,q.1)∈S.ways q'.1
theorem stB_good {S:Sch T} {i:Nat} {q0:Qb T} {acc:List (Qb T)} {e:Int × T} (h:GoodB S acc) (hi:acc[i]?=some q0) (he:e∈S.ways q0.1):GoodB S (stB i q0.2.2.2 acc e):=by
 unfold stB;split
 ·exact h
 ·rename_i hno
  have hni:e.2 ∉ acc.map (·.1):=fun hm=>by
   obtain ⟨q,hq,he⟩:=List.mem_map.1 hm;exact hno (hasQ_iff.2 ⟨q,hq,he⟩)
  have hil:i<acc.length:=(List.getElem?_eq_some_iff.1 hi).1;refine ⟨?_, ?_⟩
  ·rw [List.map_append,List.nodup_append];exact ⟨h.nd,by simp,fun a ha b hb e=>by simp at hb;subst hb;subst e;exact hni ha⟩
  ·intro j q hj
   by_cases hjl:j<acc.length
   ·rw [List.getElem?_append_left hjl] at hj;rcases h.par j q hj with h1 | ⟨p,q',h1,h2,h3,h4⟩
    ·exact .inl h1
    ·exact .inr ⟨p,q',h1,h2,zjf (List.prefix_append _ _) h3,h4⟩
   ·have hjl':=(List.getElem?_eq_some_iff.1 hj).1;simp at hjl';have:j=acc.length:=by omega
    subst this;rw [List.getElem?_append_right (Nat.le_refl _)] at hj;simp at hj;subst hj;exact .inr ⟨i,q0,rfl,hil,zjf (List.prefix_append _ _) hi,rfl,he⟩
theorem foldB_good {S:Sch T} {i:Nat} {q0:Qb T} {es:List (Int × T)} (hes:∀e∈es,e∈S.ways q0.1):∀acc:List (Qb T),GoodB S acc→acc[i]?=some q0→GoodB S (es.foldl (stB i q0.2.2.2) acc):=by
 induction es with
 | nil=>intro acc h _;exact h
 | cons e es ih=>
  intro acc h hi;exact ih (fun e he=>hes e (by simp [he])) _ (stB_good h hi (hes e (by simp))) (zjf (stB_pre _ _ _ _) hi)
theorem ziw (S:Sch T):∀i,GoodB S (zeo S i)
 | 0=>⟨by simp [zeo],fun j q hj=>by
   cases j with
   | zero=>simp [zeo] at hj;subst hj;exact .inl ⟨rfl,rfl⟩
   | succ j=>simp [zeo] at hj⟩
 | i+1=>by
  have ih:=ziw S i;cases hi:(zeo S i)[i]? with
  | none=>rw [zra hi];exact ih
  | some q=>rw [znw hi];exact foldB_good (fun e he=>he) _ ih hi
omit [DecidableEq T] in
theorem GoodB.wlen {S:Sch T} {acc:List (Qb T)} (h:GoodB S acc):∀(j:Nat) (q:Qb T),acc[j]?=some q→q.2.2.2.length≤j:=by
 intro j
 induction j using Nat.strongRecOn with
 | ind j ih=>
  intro q hq
  rcases h.par j q hq with ⟨_,rfl⟩ | ⟨p,q',_,h2,h3,h4,_⟩
  ·simp
  ·have:=ih p h2 q' h3
   rw [h4];simp;omega
theorem stB_len (i:Nat) (w:List Int) (acc:List (Qb T)) (e:Int × T):(stB i w acc e).length≤acc.length+1:=by
 unfold stB;split <;> simp
theorem zno (i:Nat) (w:List Int):∀(es:List (Int × T)) (acc:List (Qb T)),(es.foldl (stB i w) acc).length≤acc.length+es.length
 | [],acc=>Nat.le_refl _
 | e::es,acc=>by
  have h1:=zno i w es (stB i w acc e);have h2:=stB_len i w acc e;rw [List.foldl_cons,List.length_cons];omega
def verdB (S:Sch T) (b:Int):Nat→Nat→Int × List Int × Int × Option T
 | 0,i=>(1,[],((zeo S i).length:Int),none)
 | f+1,i=>match (zeo S i)[i]? with
  | none=>(1,[],((zeo S i).length:Int),none)
  | some q=>if b≤(i:Int) then (3,[],max b 0,none) else if S.hit q.1=true then (2,q.2.2.2,(i:Int)+1,some q.1) else verdB S b f (i+1)
def zjv (S:Sch T) (b:Int):Int × List Int × Int × Option T:=verdB S b (b.toNat+1) 0
inductive OutB (S:Sch T) (b:Int):Int × List Int × Int × Option T→Prop
 | yes (i:Nat) (hb:(i:Int)≤b∨i=0∧b≤0) (h:(zeo S i)[i]?=none) (hno:∀j q,j<i→(zeo S i)[j]?=some q→S.hit q.1=false):OutB S b (1,[],((zeo S i).length:Int),none)
 | no (i:Nat) (q:Qb T) (hb:(i:Int)<b) (h:(zeo S i)[i]?=some q) (hh:S.hit q.1=true) (hno:∀j q,j<i→(zeo S i)[j]?=some q→S.hit q.1=false):OutB S b (2,q.2.2.2,(i:Int)+1,some q.1)
 | limit (hl:∃q,(zeo S b.toNat)[b.toNat]?=some q) (hno:∀j q,j<b.toNat→(zeo S b.toNat)[j]?=some q→S.hit q.1=false):OutB S b (3,[],max b 0,none)
theorem verdB_out (S:Sch T) (b:Int):∀(f i:Nat),f+i=b.toNat+1→i≤b.toNat→(∀j q,j<i→(zeo S i)[j]?=some q→S.hit q.1=false)→OutB S b (verdB S b f i)
 | 0,i,h1,h2,_=>by omega
 | f+1,i,h1,h2,hno=>by
  unfold verdB;cases hq:(zeo S i)[i]? with
  | none=>exact .yes i (by omega) hq hno
  | some q=>
   simp only
   by_cases hb:b≤(i:Int)
   ·rw [if_pos hb];have:i=b.toNat:=by omega
    subst this;exact .limit ⟨q,hq⟩ hno
   ·rw [if_neg hb]
    by_cases hh:S.hit q.1=true
    ·rw [if_pos hh];exact .no i q (by omega) hq hh hno
    ·rw [if_neg hh];refine verdB_out S b f (i+1) (by omega) (by omega) fun j q' hj hq'=>?_
     by_cases hji:j=i
     ·subst hji;rw [zjf (znv S j) hq] at hq';cases hq';simpa using hh
     ·have hlt:i<(zeo S i).length:=(List.getElem?_eq_some_iff.1 hq).1;obtain ⟨x,hx⟩:∃x,(zeo S i)[j]?=some x:=⟨_,List.getElem?_eq_getElem (show j<(zeo S i).length by omega)⟩;rw [zjf (znv S i) hx] at hq';cases hq';exact hno j _ (by omega) hx
theorem zms (S:Sch T) (b:Int):OutB S b (zjv S b):=verdB_out S b _ 0 (by omega) (by omega) fun j q h=>by omega
theorem zj3 {S:Sch T} {i j:Nat} (hij:i≤j):(zeo S j)[i]?=(zeo S i)[i]?:=by
 cases h:(zeo S i)[i]? with
 | some q=>exact zjf (accB_pre S hij) h
 | none=>
  have:=ziv h (j-i);rw [show i+(j-i)=j by omega] at this;rw [this,h]
theorem OutB.stays {S:Sch T} {a b:Int} (hab:a≤b) {v u:Int × List Int × Int × Option T} (h:OutB S a v) (k:OutB S b u) (hv:v.1≠3):v=u:=by
 have cmp:∀{i j:Nat},i<j→(∀q,(zeo S i)[i]?=some q→S.hit q.1=true)→(∀k q,k<j→(zeo S j)[k]?=some q→S.hit q.1=false)→(zeo S j)[i]?=none:=fun {i j} hij h1 h2=>by
  rw [zj3 (by omega)];cases hq:(zeo S i)[i]? with
  | none=>rfl
  | some q=>
   have:=h2 i q hij (by rw [zj3 (by omega)];exact hq);rw [h1 q hq] at this;cases this
 cases h with
 | limit _ _=>exact absurd rfl hv
 | yes i hb h hno=>
  have hend:∀j,i≤j→zeo S j=zeo S i:=fun j hj=>by
   have:=ziv h (j-i)
   rwa [show i+(j-i)=j by omega] at this
  have hl:=List.getElem?_eq_none_iff.1 h;cases k with
  | yes j hb' h' hno'=>
   rcases Nat.le_total i j with hij | hij
   ·rw [hend j hij]
   ·have:=ziv h' (i-j);rw [show j+(i-j)=i by omega] at this;rw [this]
  | no j q hb' h' hh hno'=>
   exfalso;rcases Nat.lt_or_ge j i with hij | hij
   ·have:=hno j q hij (by rw [zj3 (by omega)];exact h');rw [hh] at this;cases this
   ·rw [hend j hij] at h';have:=(List.getElem?_eq_some_iff.1 h').1;omega
  | limit hl' hno'=>
   exfalso;obtain ⟨q,hq⟩:=hl';rcases Nat.lt_or_ge b.toNat i with hij | hij
   ·omega
   ·rw [hend _ hij] at hq;have:=(List.getElem?_eq_some_iff.1 hq).1;omega
 | no i q hb h hh hno=>
  cases k with
  | yes j hb' h' hno'=>
   exfalso;rcases Nat.lt_or_ge i j with hij | hij
   ·have:=hno' i q hij (by rw [zj3 (by omega)];exact h);rw [hh] at this;cases this
   ·have:=ziv h' (i-j);rw [show j+(i-j)=i by omega] at this;rw [this] at h;have h1:=(List.getElem?_eq_some_iff.1 h).1;have h2:=List.getElem?_eq_none_iff.1 h';omega
  | no j q' hb' h' hh' hno'=>
   rcases Nat.lt_trichotomy i j with hij | hij | hij
   ·exfalso;have:=hno' i q hij (by rw [zj3 (by omega)];exact h);rw [hh] at this;cases this
   ·subst hij;rw [h] at h';cases h';rfl
   ·exfalso;have:=hno j q' hij (by rw [zj3 (by omega)];exact h');rw [hh'] at this;cases this
  | limit hl' hno'=>
   exfalso;have:=hno' i q (by omega) (by rw [zj3 (by omega)];exact h);rw [hh] at this;cases this
theorem OutB.made {S:Sch T} {b:Int} {v:Int × List Int × Int × Option T} (hb:0≤b) (h:OutB S b v):v.2.2.1≤b:=by
 cases h with
 | yes i hb' h hno=>
  have:=List.getElem?_eq_none_iff.1 h;simp only;omega
 | no i q hb' h hh hno=>simp only;omega
 | limit _ _=>simp only;omega
theorem lenB_sub {α:Type} [DecidableEq α]:∀{l K:List α},l.Nodup→(∀x∈l,x∈K)→l.length≤K.length
 | [],_,_,_=>Nat.zero_le _
 | x::l,K,hn,hs=>by
  rw [List.nodup_cons] at hn;have hx:=hs x (by simp);have:=lenB_sub (K:=K.erase x) hn.2 fun y hy=>(List.mem_erase_of_ne (fun e=>hn.1 (by rw [← e];exact hy))).2 (hs y (by simp [hy]));rw [List.length_erase_of_mem hx] at this;have:=List.length_pos_iff.2 (List.ne_nil_of_mem hx);rw [List.length_cons];omega
theorem OutB.room {S:Sch T} {b:Int} {v:Int × List Int × Int × Option T} (h:OutB S b v) {K:List T} (hK:∀i q,q∈zeo S i→q.1∈K) (hl:K.length≤b.toNat):v.1≠3:=by
 cases h with
 | yes i hb' h hno=>simp
 | no i q hb' h hh hno=>simp
 | limit hl' hno=>
  exfalso;obtain ⟨q,hq⟩:=hl';have h1:=(List.getElem?_eq_some_iff.1 hq).1;have h2:((zeo S b.toNat).map (·.1)).length≤K.length:=lenB_sub (ziw S b.toNat).nd fun x hx=>by
   obtain ⟨q,hq,rfl⟩:=List.mem_map.1 hx;exact hK _ q hq
  rw [List.length_map] at h2;omega
inductive Rn (step:T→Int→T→Prop) (s0:T):List Int→T→Prop
 | nil:Rn step s0 [] s0
 | snoc {w:List Int} {x:T} {c:Int} {y:T} (h:Rn step s0 w x) (hs:step x c y):Rn step s0 (w++[c]) y
theorem accB_rn {S:Sch T} {step:T→Int→T→Prop} (hs:∀x c y,(c,y)∈S.ways x→step x c y) (i:Nat):∀(j:Nat) (q:Qb T),(zeo S i)[j]?=some q→Rn step S.start q.2.2.2 q.1:=by
 intro j
 induction j using Nat.strongRecOn with
 | ind j ih=>
  intro q hq;rcases (ziw S i).par j q hq with ⟨_,rfl⟩ | ⟨p,q',_,h2,h3,h4,h5⟩
  ·exact .nil
  ·rw [h4];exact .snoc (ih p h2 q' h3) (hs _ _ _ h5)
end
end Go.Proofs.YtahgmdbioafmbaaGreatDoor.V
namespace Go.Proofs.YtahgmdbioafmbaaGreatDoor.V
open Go
set_option linter.unusedVariables false
section
variable {α : Type}
theorem zh9 {A B:List α} {x:α} {i:Int} (h:i=(A.length:Int)):at? (A++x::B) i=some x:=by
 subst h;rw [zb2];simp
theorem zhv {A B:List α} {x y:α} {i:Int} (h:i=(A.length:Int)):(A++x::B).set i.toNat y=A++y::B:=by
 subst h;rw [Int.toNat_natCast]
 induction A with
 | nil=>rfl
 | cons a A ih=>simp only [List.length_cons,List.cons_append,List.set_cons_succ,ih]
def SEq (key:α→Int) (l l':List α):Prop:=∀c,l.filter (fun x=>key x==c)=l'.filter (fun x=>key x==c)
theorem SEq.refl (key:α→Int) (l:List α):SEq key l l:=fun _=>rfl
theorem SEq.trans {key:α→Int} {a b c:List α} (h:SEq key a b) (k:SEq key b c):SEq key a c:=fun x=>(h x).trans (k x)
theorem SEq.symm {key:α→Int} {a b:List α} (h:SEq key a b):SEq key b a:=fun x=>(h x).symm
theorem SEq.app {key:α→Int} {a b c d:List α} (h:SEq key a b) (k:SEq key c d):SEq key (a++c) (b++d):=fun x=>by rw [List.filter_append,List.filter_append,h x,k x]
theorem SEq.length {key:α→Int} {a b:List α} (h:SEq key a b):a.length=b.length:=by
 have hp:a.Perm b:=by
  classical
  refine List.perm_iff_count.2 fun x=>?_;have h1:∀l:List α,l.count x=(l.filter (fun y=>key y==key x)).count x:=fun l=>by
   rw [List.count_filter];simp
  rw [h1 a,h1 b,h (key x)]
 exact hp.length_eq
theorem SEq.perm {key:α→Int} {a b:List α} (h:SEq key a b):a.Perm b:=by
 classical
 refine List.perm_iff_count.2 fun x=>?_;have h1:∀l:List α,l.count x=(l.filter (fun y=>key y==key x)).count x:=fun l=>by
  rw [List.count_filter];simp
 rw [h1 a,h1 b,h (key x)]
theorem zi3 {key:α→Int} {X Y:List α} (h:∀x∈X,∀y∈Y,key x≠key y):SEq key (X++Y) (Y++X):=fun c=>by
 rw [List.filter_append,List.filter_append]
 by_cases hx:X.filter (fun x=>key x==c)=[]
 ·rw [hx];simp
 ·have hy:Y.filter (fun x=>key x==c)=[]:=by
   rw [List.filter_eq_nil_iff];intro y hy hyc;obtain ⟨x,hxm⟩:=List.exists_mem_of_ne_nil _ hx;rw [List.mem_filter] at hxm;exact h x hxm.1 y hy (by rw [eq_of_beq hxm.2,eq_of_beq hyc])
  rw [hy];simp
def Srt (key:α→Int) (l:List α):Prop:=l.Pairwise fun x y=>key x≤key y
theorem Srt.app {key:α→Int} {a b:List α}:Srt key (a++b)↔Srt key a∧Srt key b∧∀x∈a,∀y∈b,key x≤key y:=List.pairwise_append
theorem Srt.cons {key:α→Int} {x:α} {b:List α}:Srt key (x::b)↔(∀y∈b,key x≤key y)∧Srt key b:=List.pairwise_cons
theorem srtc_uniq {key:α→Int}:∀{a b:List α},Srt key a→Srt key b→SEq key a b→a=b
 | [],b,_,_,h=>(List.eq_nil_of_length_eq_zero h.length.symm).symm
 | x::a,[],_,_,h=>absurd h.length (by simp)
 | x::a,y::b,ha,hb,h=>by
  obtain ⟨ha1,ha2⟩:=Srt.cons.1 ha;obtain ⟨hb1,hb2⟩:=Srt.cons.1 hb;have hp:=h.perm;have hxy:key x=key y:=by
   have h1:x∈y::b:=hp.mem_iff.1 (by simp);have h2:y∈x::a:=hp.mem_iff.2 (by simp);have e1:key y≤key x:=by
    rcases List.mem_cons.1 h1 with rfl | h1
    ·exact Int.le_refl _
    ·exact hb1 x h1
   have e2:key x≤key y:=by
    rcases List.mem_cons.1 h2 with rfl | h2
    ·exact Int.le_refl _
    ·exact ha1 y h2
   omega
  have h3:=h (key x);rw [List.filter_cons_of_pos (by simp),List.filter_cons_of_pos (by simp [hxy])] at h3;have e:=List.cons.inj h3;obtain ⟨rfl,_⟩:=e;refine congrArg _ (srtc_uniq ha2 hb2 fun c=>?_);have h4:=h c
  by_cases hc:key x=c
  ·rw [List.filter_cons_of_pos (by simp [hc]),List.filter_cons_of_pos (by simp [hc])] at h4;exact (List.cons.inj h4).2
  ·rw [List.filter_cons_of_neg (by simp [hc]),List.filter_cons_of_neg (by simp [hc])] at h4;exact h4
def srt (key:α→Int) (l:List α):List α:=l.mergeSort fun x y=>decide (key x≤key y)
theorem zif (key:α→Int) (l:List α):Srt key (srt key l):=by
 have:=List.pairwise_mergeSort (le:=fun x y=>decide (key x≤key y)) (fun a b c h1 h2=>by simp at *;omega) (fun a b=>by simp;omega) l;exact this.imp fun h=>by simpa using h
theorem zgi (key:α→Int) (l:List α):SEq key l (srt key l):=fun c=>by
 have hp:(srt key l).Perm l:=List.mergeSort_perm l _;have hsub:(l.filter fun x=>key x==c).Sublist (srt key l):=by
  refine List.sublist_mergeSort (le:=fun x y=>decide (key x≤key y)) (fun a b c h1 h2=>by simp at *;omega) (fun a b=>by simp;omega) ?_ List.filter_sublist;refine List.Pairwise.imp_of_mem (R:=fun _ _=>True) ?_ (List.pairwise_of_forall fun _ _=>trivial);intro a b ha hb _;have h1:=(List.mem_filter.1 ha).2;have h2:=(List.mem_filter.1 hb).2;simp at h1 h2;simp;omega
 have h2:=hsub.filter (fun x=>key x==c);rw [List.filter_filter] at h2;simp only [Bool.and_self] at h2;exact h2.eq_of_length (hp.filter _).length_eq.symm
theorem zh5 {key:α→Int} {l q:List α} (hq:Srt key q) (h:SEq key l q):q=srt key l:=srtc_uniq hq (zif key l) (h.symm.trans (zgi key l))
theorem zg3 (key:α→Int) (l:List α):(srt key l).length=l.length:=(zgi key l).length.symm
theorem zfy (l:List α) {n:Nat} (h:n≤l.length):∃A B,l=A++B∧A.length=n:=⟨l.take n,l.drop n,(List.take_append_drop n l).symm,by simp;omega⟩
theorem snoc_of {l:List α} (h:l≠[]):∃A x,l=A++[x]:=⟨l.dropLast,l.getLast h,(List.dropLast_concat_getLast h).symm⟩
end
theorem zf7 {i j:Int} (h0:0≤i+j) (h1:i+j<9223372036854775808):IntKind.wrap .i64 (shrI (IntKind.wrap .u64 (i+j)) 1)=(i+j) / 2:=by
 rw [zl6,show (i+j) % 18446744073709551616=i+j by omega];have:shrI (i+j) 1=(i+j) / 2:=by
  unfold shrI;simp
 rw [this];simp [IntKind.wrap,IntKind.signed,IntKind.bits];omega
theorem bsearch {P:Nat→Int→Int→Prop} (pr:Nat→Bool) (lo hi:Nat) (hmono:∀c d,lo≤c→c≤d→d<hi→pr d=true→pr c=true)
  (hstep:∀k (i j:Nat),lo≤i→i<j→j≤hi→(pr ((i+j) / 2)=true→P k (((i+j) / 2+1:Nat):Int) (j:Int)→P (k+1) (i:Int) (j:Int))∧(pr ((i+j) / 2)=false→P k (i:Int) (((i+j) / 2:Nat):Int)→P (k+1) (i:Int) (j:Int)))
  (hexit:∀k (i:Nat),lo≤i→i≤hi→(∀c,lo≤c→c<i→pr c=true)→(∀c,i≤c→c<hi→pr c=false)→P (k+1) (i:Int) (i:Int)) (hle:lo≤hi):∃k,P k (lo:Int) (hi:Int):=by
 have key:∀(f i j:Nat),j-i≤f→lo≤i→i≤j→j≤hi→(∀c,lo≤c→c<i→pr c=true)→(∀c,j≤c→c<hi→pr c=false)→∃k,P k (i:Int) (j:Int):=by
  intro f
  induction f with
  | zero=>
   intro i j hf h1 h2 h3 h4 h5;have:i=j:=by omega
   subst this;exact ⟨1,hexit 0 i h1 h3 h4 h5⟩
  | succ f ih=>
   intro i j hf h1 h2 h3 h4 h5
   by_cases hij:i=j
   ·subst hij;exact ⟨1,hexit 0 i h1 h3 h4 h5⟩
   ·have hlt:i<j:=by omega
    cases hp:pr ((i+j) / 2)
    ·obtain ⟨k,hk⟩:=ih i ((i+j) / 2) (by omega) h1 (by omega) (by omega) h4 (fun c hc1 hc2=>by
      cases hpc:pr c
      ·rfl
      ·have:=hmono ((i+j) / 2) c (by omega) hc1 hc2 hpc;rw [this] at hp;cases hp)
     exact ⟨k+1,(hstep k i j h1 hlt h3).2 hp hk⟩
    ·obtain ⟨k,hk⟩:=ih ((i+j) / 2+1) j (by omega) (by omega) (by omega) h3 (fun c hc1 hc2=>hmono c ((i+j) / 2) hc1 (by omega) (by omega) hp) h5;exact ⟨k+1,(hstep k i j h1 hlt h3).1 hp hk⟩
 exact key (hi-lo) lo hi (Nat.le_refl _) (Nat.le_refl _) hle (Nat.le_refl _) (fun c h1 h2=>by omega) (fun c h1 h2=>by omega)
end Go.Proofs.YtahgmdbioafmbaaGreatDoor.V
namespace Go.Proofs.YtahgmdbioafmbaaGreatDoor.V
open Go
set_option linter.unusedVariables false
def lk0 (p:Cl):Int:=p.least.1
def zgx (a p:Cl):List Cl:=[p &&& a,p &&& ~~~ a].filter fun q=>decide (0<q.count)
def zmv (ps:List Cl) (a:Cl):List Cl:=srt lk0 (ps.flatMap (zgx a))
def zgt (l:List Cl):List Cl:=l.foldl zmv [~~~ (0#256)]
def zo2 (l:List Cl):List Int:=(zgt l).map lk0
def zjr (l:List Cl) (c d:Nat):Bool:=l.all fun a=>a.has c==a.has d
def part (l:List Cl) (c:Nat):Cl:=Cl.of (zjr l c)
def zgd (l:List Cl):List Nat:=(List.range 256).filter fun c=>(List.range c).all fun d=>!zjr l d c
def parts (l:List Cl):List Cl:=(zgd l).map (part l)
theorem znj (l:List Cl) (c:Nat):zjr l c c=true:=by simp [zjr]
theorem zkm {l:List Cl} {c d:Nat} (h:zjr l c d=true):zjr l d c=true:=by
 unfold zjr at *;rw [List.all_eq_true] at *;intro a ha;have:=h a ha;rw [beq_iff_eq] at *;exact this.symm
theorem zjc {l:List Cl} {c d e:Nat} (h:zjr l c d=true) (k:zjr l d e=true):zjr l c e=true:=by
 unfold zjr at *;rw [List.all_eq_true] at *;intro a ha;have h1:=h a ha;have h2:=k a ha;rw [beq_iff_eq] at *;exact h1.trans h2
theorem zet {l:List Cl} {c d:Nat} (h:d<256):(part l c).has d=zjr l c d:=Cl.of_has _ h
theorem zgl {l:List Cl} {c:Nat}:c∈zgd l↔c<256∧∀d,d<c→zjr l d c=false:=by
 simp [zgd]
theorem part_eq {l:List Cl} {c d:Nat} (h:zjr l c d=true):part l c=part l d:=by
 apply Cl.ext;intro e he;rw [zet he,zet he];cases h1:zjr l d e
 ·cases h2:zjr l c e
  ·rfl
  ·rw [zjc (zkm h) h2] at h1;cases h1
 ·exact zjc h h1
theorem zqm {p:Cl} (h:0<p.count):∃n:Nat,n<256∧p.least=((n:Int),true)∧p.has n=true∧∀m,m<n→p.has m=false:=by
 cases hl:p.least.2
 ·have h0:=least_none hl;have:p.count=0:=by
   unfold Cl.count;rw [List.countP_eq_zero];intro m hm;rw [h0 m (by simpa using hm)];simp
  omega
 ·obtain ⟨n,hn⟩:∃n:Nat,p.least=((n:Int),true):=by
   unfold Cl.least at hl ⊢;split
   ·exact ⟨_,rfl⟩
   ·rename_i hn;rw [hn] at hl;simp at hl
  obtain ⟨h1,h2,h3⟩:=least_some hn;exact ⟨n,h1,hn,h2,h3⟩
theorem count_pos {p:Cl} {n:Nat} (hn:n<256) (h:p.has n=true):0<p.count:=by
 unfold Cl.count;rw [List.countP_pos_iff];exact ⟨n,by simpa using hn,h⟩
theorem head_of {l:List Cl} {c:Nat} (hc:c<256):∃h,h∈zgd l∧h≤c∧zjr l h c=true:=by
 obtain ⟨h,⟨h1,h2⟩,h3⟩:=exists_least (p:=fun d=>d≤c∧zjr l d c=true) ⟨c,Nat.le_refl _,znj l c⟩;refine ⟨h,zgl.2 ⟨by omega,fun d hd=>?_⟩,h1,h2⟩;cases hl:zjr l d h
 ·rfl
 ·have:=h3 d ⟨by omega,zjc hl h2⟩;omega
theorem least_part {l:List Cl} {h:Nat} (hh:h∈zgd l):(part l h).least=((h:Int),true):=by
 obtain ⟨h1,h2⟩:=zgl.1 hh;refine least_of h1 (by rw [zet h1];exact znj l h) fun m hm=>?_;rw [zet (by omega)];cases hl:zjr l h m
 ·rfl
 ·have:=h2 m hm;rw [zkm hl] at this;cases this
theorem lk_part {l:List Cl} {h:Nat} (hh:h∈zgd l):lk0 (part l h)=(h:Int):=by rw [lk0,least_part hh]
theorem zlt (l:List Cl):(zgd l).Pairwise (· < ·):=(List.pairwise_lt_range).filter _
theorem parts_lk (l:List Cl):(parts l).map lk0=(zgd l).map (fun n:Nat=>(n:Int)):=by
 unfold parts;rw [List.map_map];exact List.map_congr_left fun h hh=>lk_part hh
theorem parts_srt (l:List Cl):Srt lk0 (parts l):=by
 have h1:(zgd l).Pairwise fun a b=>lk0 (part l a)≤lk0 (part l b):=by
  refine (List.pairwise_iff_getElem.2 fun i j hi hj hij=>?_);rw [lk_part (List.getElem_mem hi),lk_part (List.getElem_mem hj)];have:=List.pairwise_iff_getElem.1 (zlt l) i j hi hj hij;omega
 exact List.pairwise_map.2 h1
theorem seq_of_mem {α:Type} {key:α→Int} {X Y:List α} (hX:(X.map key).Nodup) (hY:(Y.map key).Nodup) (h:∀x,x∈X↔x∈Y):SEq key X Y:=fun c=>by
 have one:∀{Z:List α},(Z.map key).Nodup→∀x∈Z,key x=c→Z.filter (fun z=>key z==c)=[x]:=by
  intro Z
  induction Z with
  | nil=>intro _ x hx;cases hx
  | cons z Z ih=>
   intro hn x hx hk;rw [List.map_cons,List.nodup_cons] at hn;rcases List.mem_cons.1 hx with rfl | hx
   ·rw [List.filter_cons_of_pos (by simp [hk])]
    congr 1
    rw [List.filter_eq_nil_iff];intro y hy hyc;exact hn.1 (List.mem_map.2 ⟨y,hy,by rw [hk];simpa using hyc⟩)
   ·rw [List.filter_cons_of_neg,ih hn.2 x hx hk];intro hz;exact hn.1 (List.mem_map.2 ⟨x,hx,by rw [hk];simpa using (eq_of_beq hz).symm⟩)
 by_cases hex:∃x,x∈X∧key x=c
 ·obtain ⟨x,hx,hk⟩:=hex;rw [one hX x hx hk,one hY x ((h x).1 hx) hk]
 ·have e1:X.filter (fun z=>key z==c)=[]:=by
   rw [List.filter_eq_nil_iff];intro y hy hyc;exact hex ⟨y,hy,by simpa using hyc⟩
  have e2:Y.filter (fun z=>key z==c)=[]:=by
   rw [List.filter_eq_nil_iff];intro y hy hyc;exact hex ⟨y,(h y).2 hy,by simpa using hyc⟩
  rw [e1,e2]
def Disj (p q:Cl):Prop:=∀n,n<256→p.has n=true→q.has n=false
theorem lk_ne {p q:Cl} (hp:0<p.count) (hq:0<q.count) (h:Disj p q):lk0 p≠lk0 q:=by
 obtain ⟨n,n1,n2,n3,n4⟩:=zqm hp;obtain ⟨m,m1,m2,m3,m4⟩:=zqm hq;unfold lk0;rw [n2,m2];intro he;have:n=m:=by simp at he;omega
 subst this;rw [h n n1 n3] at m3;cases m3
theorem nodup_lk {X:List Cl} (hd:X.Pairwise Disj) (hc:∀x∈X,0<x.count):(X.map lk0).Nodup:=by
 refine List.pairwise_map.2 ?_;refine hd.imp_of_mem fun {a b} ha hb h=>lk_ne (hc a ha) (hc b hb) h
theorem zhn {a p x:Cl}:x∈zgx a p↔(x=p &&& a∨x=p &&& ~~~ a)∧0<x.count:=by
 simp [zgx]
theorem zna {a p x:Cl} (h:x∈zgx a p) {n:Nat} (hx:x.has n=true):p.has n=true:=by
 rcases (zhn.1 h).1 with rfl | rfl <;> rw [zjz] at hx <;> simp at hx <;> exact hx.1
theorem pieces_disj (a p:Cl):(zgx a p).Pairwise Disj:=by
 unfold zgx;refine List.Pairwise.filter _ ?_;simp only [List.pairwise_cons,List.mem_singleton,forall_eq,List.not_mem_nil,false_implies,implies_true,List.Pairwise.nil,and_true];intro n hn h;rw [zjz] at h ⊢;rw [znn hn];simp at h ⊢;simp [h.2]
theorem zo9 (l:List Cl):(parts l).Pairwise Disj:=by
 unfold parts;refine List.pairwise_map.2 ?_;refine List.pairwise_iff_getElem.2 fun i j hi hj hij n hn h=>?_;have hlt:=List.pairwise_iff_getElem.1 (zlt l) i j hi hj hij;obtain ⟨_,h2⟩:=zgl.1 (List.getElem_mem hj);rw [zet hn] at h ⊢;cases h3:zjr l (zgd l)[j] n
 ·rfl
 ·have:=h2 _ hlt;rw [zjc h (zkm h3)] at this;cases this
theorem parts_pos {l:List Cl} {p:Cl} (h:p∈parts l):0<p.count:=by
 obtain ⟨c,hc,rfl⟩:=List.mem_map.1 h;have h1:=(zgl.1 hc).1;exact count_pos h1 (by rw [zet h1];exact znj l c)
theorem flat_disj {ps:List Cl} (h:ps.Pairwise Disj) (a:Cl):(ps.flatMap (zgx a)).Pairwise Disj:=by
 rw [List.pairwise_flatMap];refine ⟨fun p _=>pieces_disj a p,h.imp fun {p q} hpq x hx y hy n hn hxn=>?_⟩;cases hy':y.has n
 ·rfl
 ·have:=hpq n hn (zna hx hxn);rw [zna hy hy'] at this;cases this
theorem like_snoc (l:List Cl) (a:Cl) (c d:Nat):zjr (l++[a]) c d=(zjr l c d&&(a.has c==a.has d)):=by simp [zjr]
theorem mem_split (l:List Cl) (a x:Cl):x∈(parts l).flatMap (zgx a)↔x∈parts (l++[a]):=by
 have key:∀h h':Nat,zjr l h h'=true→h' < 256→∀x:Cl,(a.has h'=true∧x=part l h &&& a∨a.has h'=false∧x=part l h &&& ~~~ a)→x=part (l++[a]) h':=by
  intro h h' hh h1 x hx;apply Cl.ext;intro d hd;rw [zet hd,like_snoc];have e:zjr l h' d=zjr l h d:=by
   have:=congrArg (fun p:Cl=>p.has d) (part_eq hh);simp only [zet hd] at this;exact this.symm
  rw [e];rcases hx with ⟨h2,rfl⟩ | ⟨h2,rfl⟩
  ·rw [zjz,zet hd,h2];cases a.has d <;> simp
  ·rw [zjz,znn hd,zet hd,h2];cases a.has d <;> simp
 constructor
 ·intro hx;obtain ⟨p,hp,hxp⟩:=List.mem_flatMap.1 hx;obtain ⟨h,hh,rfl⟩:=List.mem_map.1 hp;obtain ⟨hx1,hx2⟩:=zhn.1 hxp;obtain ⟨n,n1,n2,n3,n4⟩:=zqm hx2;have hn:=zna hxp n3;rw [zet n1] at hn;have hxe:x=part (l++[a]) n:=key h n hn n1 x (by
   rcases hx1 with rfl | rfl
   ·rw [zjz] at n3;simp at n3;exact .inl ⟨n3.2,rfl⟩
   ·rw [zjz,znn n1] at n3;simp at n3;exact .inr ⟨n3.2,rfl⟩)
  refine List.mem_map.2 ⟨n,zgl.2 ⟨n1,fun d hd=>?_⟩,hxe.symm⟩;cases hl:zjr (l++[a]) d n
  ·rfl
  ·have:=n4 d hd;rw [hxe,zet (by omega),zkm hl] at this;cases this
 ·intro hx;obtain ⟨n,hn,rfl⟩:=List.mem_map.1 hx;have n1:=(zgl.1 hn).1;obtain ⟨h,hh,_,h3⟩:=head_of (l:=l) n1;have hpos:=parts_pos hx;cases ha:a.has n
  ·have e:=key h n h3 n1 _ (.inr ⟨ha,rfl⟩);exact List.mem_flatMap.2 ⟨_,List.mem_map.2 ⟨h,hh,rfl⟩,zhn.2 ⟨.inr e.symm,hpos⟩⟩
  ·have e:=key h n h3 n1 _ (.inl ⟨ha,rfl⟩);exact List.mem_flatMap.2 ⟨_,List.mem_map.2 ⟨h,hh,rfl⟩,zhn.2 ⟨.inl e.symm,hpos⟩⟩
theorem splitR_parts (l:List Cl) (a:Cl):zmv (parts l) a=parts (l++[a]):=by
 unfold zmv;refine (zh5 (parts_srt _) (seq_of_mem ?_ ?_ (mem_split l a))).symm
 ·exact nodup_lk (flat_disj (zo9 l) a) fun x hx=>by
   obtain ⟨p,_,hxp⟩:=List.mem_flatMap.1 hx;exact (zhn.1 hxp).2
 ·exact nodup_lk (zo9 _) fun x hx=>parts_pos hx
theorem parts_nil:parts []=[~~~ (0#256)]:=by
 have h:zgd []=[0]:=by decide +kernel
 unfold parts;rw [h];simp only [List.map_cons,List.map_nil,List.cons.injEq,and_true];apply Cl.ext;intro c hc;rw [zet hc,znn hc,has_zero];rfl
theorem splitP_eq (l:List Cl):zgt l=parts l:=by
 have:∀(l pre:List Cl),l.foldl zmv (parts pre)=parts (pre++l):=by
  intro l
  induction l with
  | nil=>intro pre;simp
  | cons a l ih=>intro pre;rw [List.foldl_cons,splitR_parts,ih];simp
 have:=this l [];rw [parts_nil] at this;simpa [zgt] using this
theorem heads_len (l:List Cl):(zgd l).length≤256:=by
 have:=List.length_filter_le (fun c=>(List.range c).all fun d=>!zjr l d c) (List.range 256);simpa [zgd] using this
theorem zmx (l:List Cl):zo2 l=(zgd l).map (fun n:Nat=>(n:Int)):=by rw [zo2,splitP_eq,parts_lk]
end Go.Proofs.YtahgmdbioafmbaaGreatDoor.V
