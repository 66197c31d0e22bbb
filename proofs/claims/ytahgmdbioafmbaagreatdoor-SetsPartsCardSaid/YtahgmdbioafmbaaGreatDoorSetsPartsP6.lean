/-
  The texts that the law's proof needs, part 6.
-/
import Derived.Carry
import Derived.ChangeSame
import Derived.Deep.Slices
import Derived.Handed
import Derived.KernelRfl
import Derived.LaidHandle
import Derived.LaidLaws
import Derived.LaidMore
import Derived.Laws.BytesArg
import Derived.Lib.LaidTab
import Derived.OpenShut
import Derived.ProofKit
import Derived.RowKit
import Derived.SizedLaws
import Derived.Stop.LaidErr
import Derived.Test.YtahgmdbioafmbaaGreatDoorRows
import Derived.WalkKit
import Derived.WideKeyElems2
import Derived.Test.YtahgmdbioafmbaaGreatDoorSetsPartsP5
namespace Go.Proofs.YtahgmdbioafmbaaGreatDoor.V
open Go
set_option linter.unusedVariables false
theorem at_app1 {A S B:List Cl} {c:Nat} (h1:A.length≤c) (h2:c<A.length+S.length):at? (A++S++B) (c:Int)=some (S[c-A.length]'(by omega)):=by
 rw [zb0,List.append_assoc,List.getElem?_append_right h1,List.getElem?_append_left (by omega),List.getElem?_eq_getElem (by omega)]
theorem srt_le {key:Cl→Int} {S:List Cl} (h:Srt key S) {i j:Nat} (hij:i≤j) (hj:j<S.length):key (S[i]'(by omega))≤key S[j]:=by
 rcases Nat.lt_or_ge i j with hlt | hge
 ·exact List.pairwise_iff_getElem.1 h i j (by omega) hj hlt
 ·have:i=j:=by omega
  subst this;exact Int.le_refl _
theorem sm_l1 {A B:List Cl} {x:Cl} {i:Int} {X:List Cl→Prop}:∀(Y2 Y1:List Cl),i=((A.length+Y1.length+Y2.length:Nat):Int)+1→(A++Y1++x::Y2++B).length<4611686018427387904→X (A++(Y1++Y2)++x::B) →
  ∃k,za.l1 i X k (A++Y1++x::Y2++B) ((A.length+Y1.length:Nat):Int)
 | [],Y1,hi,hl,hX=>by
  have hl':A.length+Y1.length<4611686018427387904:=by simp at hl;omega
  exact ⟨1,zk (by simp at hi;omega) (by simp at hi;omega),fun h=>absurd (dt0 h) (by simp at hi;omega),fun _=>by simpa using hX⟩
 | y::Y2,Y1,hi,hl,hX=>by
  have hl':A.length+Y1.length+Y2.length+1<4611686018427387904:=by simp at hl;omega
  have hi':=hi
  simp at hi'
  obtain ⟨k,hk⟩:=sm_l1 (A:=A) (B:=B) (x:=x) (i:=i) (X:=X) Y2 (Y1++[y]) (by rw [hi];simp;omega) (by simp at hl ⊢;omega) (by simpa using hX)
  have e1:A++Y1++x::(y::Y2)++B=(A++Y1)++x::(y::Y2++B):=by simp
  have e2:A++Y1++x::(y::Y2)++B=(A++Y1++[x])++y::(Y2++B):=by simp
  have p1:((A.length+Y1.length:Nat):Int)=((A++Y1).length:Int):=by simp
  have p2:((A.length+Y1.length:Nat):Int)+1=((A++Y1++[x]).length:Int):=by simp;omega
  have a1:at? (A++Y1++x::(y::Y2)++B) ((A.length+Y1.length:Nat):Int)=some x:=by rw [e1];exact at_mid p1
  have a2:at? (A++Y1++x::(y::Y2)++B) (((A.length+Y1.length:Nat):Int)+1)=some y:=by rw [e2];exact at_mid p2
  have s1:(A++Y1++x::(y::Y2)++B).set ((A.length+Y1.length:Nat):Int).toNat y=(A++Y1++[y])++y::(Y2++B):=by rw [e1,set_mid p1];simp
  have p2':((A.length+Y1.length:Nat):Int)+1=((A++Y1++[y]).length:Int):=by simp;omega
  refine ⟨k+1,zk (by omega) (by omega),fun _=>⟨zk (by omega) (by omega),zk (by omega) (by omega),y,a2,x,a1,x,a1,y, ?_,zk (by omega) (by omega), ?_⟩,fun h=>absurd (by omega) (df0 h)⟩
  ·rw [s1];exact at_mid p2'
  ·rw [s1,set_mid p2']
   have p3:((A.length+(Y1++[y]).length:Nat):Int)=((A.length+Y1.length:Nat):Int)+1:=by simp;omega
   rw [p3] at hk
   simpa using hk
theorem sm_l3 {A B:List Cl} {x:Cl} {i:Int} {X:List Cl→Prop}:∀(m:Nat) (Y1 Y2:List Cl),Y1.length=m→i=(A.length:Int)→(A++Y1++x::Y2++B).length<4611686018427387904→X (A++x::(Y1++Y2)++B) →
  ∃k,za.l3 i X k (A++Y1++x::Y2++B) ((A.length+Y1.length:Nat):Int):=by
 intro m
 induction m with
 | zero=>
  intro Y1 Y2 hm hi hl hX
  have:=List.eq_nil_of_length_eq_zero hm
  subst this
  exact ⟨1,fun h=>absurd (dt0 h) (by rw [hi];simp),fun _=>by simpa using hX⟩
 | succ m ih=>
  intro Y1 Y2 hm hi hl hX
  obtain ⟨Y1,y,rfl⟩:=snoc_of (l:=Y1) (by rintro rfl;simp at hm)
  have hl':A.length+Y1.length+Y2.length+1<4611686018427387904:=by simp at hl;omega
  obtain ⟨k,hk⟩:=ih Y1 (y::Y2) (by simpa using hm) hi (by simp at hl ⊢;omega) (by simpa using hX)
  have e1:A++(Y1++[y])++x::Y2++B=(A++Y1)++y::(x::Y2++B):=by simp
  have e2:A++(Y1++[y])++x::Y2++B=(A++Y1++[y])++x::(Y2++B):=by simp
  have p2:((A.length+(Y1++[y]).length:Nat):Int)=((A++Y1++[y]).length:Int):=by simp
  have p1:((A.length+(Y1++[y]).length:Nat):Int)-1=((A++Y1).length:Int):=by simp;omega
  have a2:at? (A++(Y1++[y])++x::Y2++B) ((A.length+(Y1++[y]).length:Nat):Int)=some x:=by rw [e2];exact at_mid p2
  have a1:at? (A++(Y1++[y])++x::Y2++B) (((A.length+(Y1++[y]).length:Nat):Int)-1)=some y:=by rw [e1];exact at_mid p1
  have s1:(A++(Y1++[y])++x::Y2++B).set ((A.length+(Y1++[y]).length:Nat):Int).toNat y=(A++Y1)++y::(y::Y2++B):=by rw [e2,set_mid p2];simp
  refine ⟨k+1,fun _=>⟨zk (by simp;omega) (by simp;omega),zk (by simp;omega) (by simp;omega),y,a1,x,a2,x,a2,y, ?_,zk (by simp;omega) (by simp;omega), ?_⟩,fun h=>absurd (by rw [hi];simp;omega) (df0 h)⟩
  ·rw [s1];exact at_mid p1
  ·rw [s1,set_mid p1,p1,show (((A++Y1).length:Nat):Int)=((A.length+Y1.length:Nat):Int) by simp]
   simpa using hk
theorem at_gd {A S B:List Cl} {c:Nat} (h1:A.length≤c) (h2:c<A.length+S.length):at? (A++S++B) (c:Int)=some (S.getD (c-A.length) 0#256):=by
 rw [at_app1 h1 h2,List.getD,List.getElem?_eq_getElem (by omega)];rfl
theorem gd_le {key:Cl→Int} {S:List Cl} (h:Srt key S) {i j:Nat} (hij:i≤j) (hj:j<S.length):key (S.getD i 0#256)≤key (S.getD j 0#256):=by
 have:=srt_le h hij hj
 rw [List.getD,List.getD,List.getElem?_eq_getElem (by omega),List.getElem?_eq_getElem hj];exact this
theorem getD_l {X Y:List Cl} {q:Nat} (h:q<X.length):(X++Y).getD q 0#256=X[q]:=by
 rw [List.getD,List.getElem?_append_left h,List.getElem?_eq_getElem h];rfl
theorem getD_r {X Y:List Cl} {q:Nat} (h:q<Y.length):(X++Y).getD (X.length+q) 0#256=Y[q]:=by
 rw [List.getD,List.getElem?_append_right (by omega),Nat.add_sub_cancel_left,List.getElem?_eq_getElem h];rfl
theorem sym_j7 {key:Cl→Int} {cmp:Cl × Cl × Int→Prop} {f:Nat} {A S1 S2 T1 T2 B:List Cl}
  (ih:∀(A S T B:List Cl),S.length+T.length≤f→S≠[]→T≠[]→Srt key S→Srt key T→(A++S++T++B).length<4611686018427387904 →
   za.n f (A++S++T++B) (A.length:Int) ((A.length+S.length:Nat):Int) ((A.length+S.length+T.length:Nat):Int) cmp (A++srt key (S++T)++B))
  (hS:Srt key (S1++S2)) (hT:Srt key (T1++T2)) (hlen:(A++(S1++S2)++(T1++T2)++B).length<4611686018427387904) (h1:∀t∈T1,∀s∈S2,key t<key s) (h2:∀s∈S1,∀t∈T2,key s≤key t)
  {st mid m b:Int} (hst:st=((A.length+S1.length:Nat):Int)) (hmid:mid=((A.length+S1.length+T1.length:Nat):Int)) (hm:m=((A.length+S1.length+S2.length:Nat):Int)) (hb:b=((A.length+S1.length+S2.length+T1.length+T2.length:Nat):Int))
  (hf1:S1.length+T1.length≤f) (hf2:S2.length+T2.length≤f):
  za.j7 (za.n f) (A++(S1++S2)++(T1++T2)++B) (A.length:Int) m b cmp (A++srt key ((S1++S2)++(T1++T2))++B) mid st:=by
 have hl:A.length+S1.length+S2.length+T1.length+T2.length+B.length<4611686018427387904:=by simp at hlen;omega
 obtain ⟨hS1,hS2,hSS⟩:=Srt.app.1 hS
 obtain ⟨hT1,hT2,hTT⟩:=Srt.app.1 hT
 have hres:srt key ((S1++S2)++(T1++T2))=srt key (S1++T1)++srt key (S2++T2):=by
  refine (srt_of (Srt.app.2 ⟨srt_srt _ _,srt_srt _ _,fun x hx y hy=>?_⟩) ?_).symm
  ·have hx':=(seq_srt key (S1++T1)).perm.mem_iff.2 hx
   have hy':=(seq_srt key (S2++T2)).perm.mem_iff.2 hy
   rcases List.mem_append.1 hx' with hx1 | hx1 <;> rcases List.mem_append.1 hy' with hy1 | hy1
   ·exact hSS x hx1 y hy1
   ·exact h2 x hx1 y hy1
   ·exact Int.le_of_lt (h1 x hx1 y hy1)
   ·exact hTT x hx1 y hy1
  ·have e1:SEq key (S2++T1) (T1++S2):=seq_blocks fun x hx y hy=>by have:=h1 y hy x hx;omega
   have e2:=(SEq.refl key S1).app (e1.app (SEq.refl key T2))
   have e3:=(seq_srt key (S1++T1)).app (seq_srt key (S2++T2))
   exact SEq.trans (by simpa using e2) (by simpa using e3)
 rw [hres]
 have hj5:za.j5 (za.n f) m b cmp (A++(srt key (S1++T1)++srt key (S2++T2))++B) mid st (A++srt key (S1++T1)++S2++T2++B):=by
  refine ⟨_,rfl,fun h=>?_,fun h=>?_⟩
  ·simp only [Bool.and_eq_true,decide_eq_true_eq] at h
   have hS2n:S2≠[]:=by rintro rfl;simp at hm;omega
   have hT2n:T2≠[]:=by rintro rfl;simp at hb;omega
   have:=ih (A++srt key (S1++T1)) S2 T2 B hf2 hS2n hT2n hS2 hT2 (by simp [srt_len];omega)
   refine ⟨_, ?_,rfl⟩
   have e1:(((A++srt key (S1++T1)).length:Nat):Int)=mid:=by rw [hmid];simp [srt_len];omega
   have e2:(((A++srt key (S1++T1)).length+S2.length:Nat):Int)=mid+m-st:=by rw [hmid,hm,hst];simp [srt_len];omega
   have e3:(((A++srt key (S1++T1)).length+S2.length+T2.length:Nat):Int)=b:=by rw [hb];simp [srt_len];omega
   rw [e1,e2,e3] at this
   simpa using this
  ·have:S2=[]∨T2=[]:=by
    simp only [Bool.and_eq_false_iff,decide_eq_false_iff_not] at h
    rcases h with h | h
    ·left;exact List.eq_nil_of_length_eq_zero (by omega)
    ·right;exact List.eq_nil_of_length_eq_zero (by omega)
   have e:srt key (S2++T2)=S2++T2:=by
    rcases this with rfl | rfl
    ·exact (srt_of (by simpa using hT2) (SEq.refl _ _)).symm
    ·exact (srt_of (by simpa using hS2) (SEq.refl _ _)).symm
   rw [e];simp
 have hj6:za.j6 (za.n f) (A.length:Int) m b cmp (A++(srt key (S1++T1)++srt key (S2++T2))++B) mid st (A++S1++T1++S2++T2++B):=by
  refine ⟨_,rfl,fun h=>?_,fun h=>?_⟩
  ·simp only [Bool.and_eq_true,decide_eq_true_eq] at h
   have hS1n:S1≠[]:=by rintro rfl;simp at hst;omega
   have hT1n:T1≠[]:=by rintro rfl;simp at hmid;omega
   have:=ih A S1 T1 (S2++T2++B) hf1 hS1n hT1n hS1 hT1 (by simp;omega)
   refine ⟨A++srt key (S1++T1)++S2++T2++B, ?_,hj5⟩
   rw [← hst,← hmid] at this
   simpa using this
  ·have:S1=[]∨T1=[]:=by
    simp only [Bool.and_eq_false_iff,decide_eq_false_iff_not] at h
    rcases h with h | h
    ·left;exact List.eq_nil_of_length_eq_zero (by omega)
    ·right;exact List.eq_nil_of_length_eq_zero (by omega)
   have e:srt key (S1++T1)=S1++T1:=by
    rcases this with rfl | rfl
    ·exact (srt_of (by simpa using hT1) (SEq.refl _ _)).symm
    ·exact (srt_of (by simpa using hS1) (SEq.refl _ _)).symm
   rw [e] at hj5 ⊢
   simpa using hj5
 refine ⟨zk (by omega) (by omega),_,rfl,fun h=>?_,fun h=>?_⟩
 ·simp only [Bool.and_eq_true,decide_eq_true_eq] at h
  have hS2n:S2≠[]:=by rintro rfl;simp at hm;omega
  have hT1n:T1≠[]:=by rintro rfl;simp at hmid;omega
  have:=rot_in (cmp:=cmp) (A:=A++S1) (X:=S2) (Y:=T1) (B:=T2++B) (a:=st) (m:=m) (b:=mid+m-st) (by rw [hst];simp) (by rw [hm];simp) (by rw [hmid,hm,hst];simp;omega) hS2n hT1n (by simp;omega)
  refine ⟨A++S1++T1++S2++T2++B, ?_,hj6⟩
  simpa using this
 ·have:S2=[]∨T1=[]:=by
   simp only [Bool.and_eq_false_iff,decide_eq_false_iff_not] at h
   rcases h with h | h
   ·left;exact List.eq_nil_of_length_eq_zero (by omega)
   ·right;exact List.eq_nil_of_length_eq_zero (by omega)
  have e:A++(S1++S2)++(T1++T2)++B=A++S1++T1++S2++T2++B:=by
   rcases this with rfl | rfl <;> simp
  rw [e];exact hj6
theorem sym_n {key:Cl→Int} {cmp:Cl × Cl × Int→Prop} (hc:ByKey key cmp):∀(f:Nat) (A S T B:List Cl),S.length+T.length≤f→S≠[]→T≠[]→Srt key S→Srt key T→(A++S++T++B).length<4611686018427387904 →
  za.n f (A++S++T++B) (A.length:Int) ((A.length+S.length:Nat):Int) ((A.length+S.length+T.length:Nat):Int) cmp (A++srt key (S++T)++B):=by
 intro f
 induction f with
 | zero=>intro A S T B hf hS;exact absurd (List.eq_nil_of_length_eq_zero (by omega)) hS
 | succ f ih=>
  intro A S T B hf hSn hTn hS hT hlen
  have hl:A.length+S.length+T.length+B.length<4611686018427387904:=by simp at hlen;omega
  have hs0:0<S.length:=List.length_pos_iff.2 hSn
  have ht0:0<T.length:=List.length_pos_iff.2 hTn
  have atS:∀c:Nat,A.length≤c→c<A.length+S.length→at? (A++S++T++B) (c:Int)=some (S.getD (c-A.length) 0#256):=fun c h1 h2=>by
   rw [show A++S++T++B=A++S++(T++B) by simp];exact at_gd h1 h2
  have atT:∀c:Nat,A.length+S.length≤c→c<A.length+S.length+T.length→at? (A++S++T++B) (c:Int)=some (T.getD (c-(A.length+S.length)) 0#256):=fun c h1 h2=>by
   have:=at_gd (A:=A++S) (S:=T) (B:=B) (c:=c) (by simp;omega) (by simp;omega)
   simpa using this
  refine ⟨zk (by omega) (by omega),fun h1=>?_,fun h1=>⟨zk (by omega) (by omega),fun h2=>?_,fun h2=>⟨zk (by omega) (by omega), ?_⟩⟩⟩
  ·-- one thing ahead
   have hs1:S.length=1:=by simp at h1;omega
   obtain ⟨x,rfl⟩:=List.length_eq_one_iff.1 hs1
   refine bsearch (P:=fun k i j=>za.l2 (A++[x]++T++B) (A.length:Int) cmp _ k i j) (fun c=>decide (key (T.getD (c-(A.length+1)) 0#256)<key x)) (A.length+1) (A.length+1+T.length) (fun c d h1 h2 h3 h4=>?_) (fun k i j h1 h2 h3=>?_) (fun k i h1 h2 h3 h4=>?_) (by omega)
   ·have:=gd_le hT (i:=c-(A.length+1)) (j:=d-(A.length+1)) (by omega) (by omega)
    simp only [decide_eq_true_eq] at h4 ⊢;omega
   ·have hat:=atT ((i+j) / 2) (by simp;omega) (by simp;omega)
    have hax:=atS A.length (Nat.le_refl _) (by simp)
    have hh:∀(p:Prop),(((decide ((i:Int)<(j:Int)))=true→InR .i64 ((i:Int)+j)∧∃i42:Int,i42=(IntKind.wrap .i64 (shrI (IntKind.wrap .u64 ((i:Int)+j)) 1))∧∃e45:Cl,at? (A++[x]++T++B) i42=some e45∧∃e47:Cl,at? (A++[x]++T++B) (A.length:Int)=some e47∧∃r49:Int,cmp (e45,e47,r49)∧p)→True):=fun _ _=>trivial
    constructor
    ·intro hp hk
     refine ⟨fun _=>⟨zk (by omega) (by omega),_,rfl,T.getD ((i+j) / 2-(A.length+1)) 0#256, ?_,x,by simpa using hax,_,hc _ _,fun _=>⟨?_, ?_⟩,fun h=>?_⟩,fun h=>absurd (by omega) (df0 h)⟩
     ·rw [half_of (by omega) (by omega),show ((i:Int)+j) / 2=(((i+j) / 2:Nat):Int) by omega];simpa using hat
     ·rw [half_of (by omega) (by omega)];exact zk (by omega) (by omega)
     ·rw [half_of (by omega) (by omega),show ((i:Int)+j) / 2+1=(((i+j) / 2+1:Nat):Int) by omega];exact hk
     ·exfalso;simp at h hp;omega
    ·intro hp hk
     refine ⟨fun _=>⟨zk (by omega) (by omega),_,rfl,T.getD ((i+j) / 2-(A.length+1)) 0#256, ?_,x,by simpa using hax,_,hc _ _,fun h=>?_,fun _=>?_⟩,fun h=>absurd (by omega) (df0 h)⟩
     ·rw [half_of (by omega) (by omega),show ((i:Int)+j) / 2=(((i+j) / 2:Nat):Int) by omega];simpa using hat
     ·exfalso;simp at h hp;omega
     ·rw [half_of (by omega) (by omega),show ((i:Int)+j) / 2=(((i+j) / 2:Nat):Int) by omega];exact hk
   ·refine ⟨fun h=>absurd (dt0 h) (by omega),fun _=>?_⟩
    obtain ⟨T1,T2,rfl,hT1⟩:=split_at T (show i-(A.length+1)≤T.length by omega)
    have hlt:∀y∈T1,key y<key x:=fun y hy=>by
     obtain ⟨q,hq,rfl⟩:=List.mem_iff_getElem.1 hy
     have:=h3 (A.length+1+q) (by omega) (by omega)
     rw [show A.length+1+q-(A.length+1)=q by omega,getD_l hq] at this
     exact of_decide_eq_true this
    have hge:∀y∈T2,key x≤key y:=fun y hy=>by
     obtain ⟨q,hq,rfl⟩:=List.mem_iff_getElem.1 hy
     have:=h4 (A.length+1+T1.length+q) (by omega) (by simp;omega)
     rw [show A.length+1+T1.length+q-(A.length+1)=T1.length+q by omega,getD_r hq] at this
     have:=of_decide_eq_false this
     omega
    have hres:srt key ([x]++(T1++T2))=T1++x::T2:=by
     refine (srt_of (Srt.app.2 ⟨(Srt.app.1 hT).1,Srt.cons.2 ⟨hge,(Srt.app.1 hT).2.1⟩,fun p hp q hq=>?_⟩) ?_).symm
     ·rcases List.mem_cons.1 hq with rfl | hq
      ·exact Int.le_of_lt (hlt p hp)
      ·exact (Srt.app.1 hT).2.2 p hp q hq
     ·have e1:SEq key ([x]++T1) (T1++[x]):=seq_blocks fun a ha b hb=>by simp at ha;subst ha;have:=hlt b hb;omega
      simpa using e1.app (SEq.refl key T2)
    rw [hres]
    have:=sm_l1 (A:=A) (B:=T2++B) (x:=x) (i:=(i:Int)) (X:=za.j1 (A++(T1++x::T2)++B)) T1 [] (by simp;omega) (by simp at hl ⊢;omega) (by simp [za.j1])
    show ∃k15,za.l1 (i:Int) _ k15 _ _
    simpa using this
  ·-- one thing behind
   have ht1:T.length=1:=by simp at h2;omega
   obtain ⟨y,rfl⟩:=List.length_eq_one_iff.1 ht1
   refine bsearch (P:=fun k i j=>za.l4 (A++S++[y]++B) ((A.length+S.length:Nat):Int) cmp _ k i j) (fun c=>!decide (key y<key (S.getD (c-A.length) 0#256))) A.length (A.length+S.length) (fun c d h1 h2 h3 h4=>?_) (fun k i j h1 h2 h3=>?_) (fun k i h1 h2 h3 h4=>?_) (by omega)
   ·have:=gd_le hS (i:=c-A.length) (j:=d-A.length) (by omega) (by omega)
    simp only [Bool.not_eq_true',decide_eq_false_iff_not] at h4 ⊢;omega
   ·have hat:=atS ((i+j) / 2) (by omega) (by omega)
    have hay:=atT (A.length+S.length) (Nat.le_refl _) (by simp)
    constructor
    ·intro hp hk
     refine ⟨fun _=>⟨zk (by omega) (by omega),_,rfl,y,by simpa using hay,S.getD ((i+j) / 2-A.length) 0#256, ?_,_,hc _ _,fun _=>⟨?_, ?_⟩,fun h=>?_⟩,fun h=>absurd (by omega) (df0 h)⟩
     ·rw [half_of (by omega) (by omega),show ((i:Int)+j) / 2=(((i+j) / 2:Nat):Int) by omega];exact hat
     ·rw [half_of (by omega) (by omega)];exact zk (by omega) (by omega)
     ·rw [half_of (by omega) (by omega),show ((i:Int)+j) / 2+1=(((i+j) / 2+1:Nat):Int) by omega];exact hk
     ·exfalso;simp only [Bool.not_eq_true',Bool.not_eq_false',decide_eq_true_eq,decide_eq_false_iff_not] at h hp;omega
    ·intro hp hk
     refine ⟨fun _=>⟨zk (by omega) (by omega),_,rfl,y,by simpa using hay,S.getD ((i+j) / 2-A.length) 0#256, ?_,_,hc _ _,fun h=>?_,fun _=>?_⟩,fun h=>absurd (by omega) (df0 h)⟩
     ·rw [half_of (by omega) (by omega),show ((i:Int)+j) / 2=(((i+j) / 2:Nat):Int) by omega];exact hat
     ·exfalso;simp only [Bool.not_eq_true',Bool.not_eq_false',decide_eq_true_eq,decide_eq_false_iff_not] at h hp;omega
     ·rw [half_of (by omega) (by omega),show ((i:Int)+j) / 2=(((i+j) / 2:Nat):Int) by omega];exact hk
   ·refine ⟨fun h=>absurd (dt0 h) (by omega),fun _=>?_⟩
    obtain ⟨S1,S2,rfl,hS1⟩:=split_at S (show i-A.length≤S.length by omega)
    have hle:∀x∈S1,key x≤key y:=fun x hx=>by
     obtain ⟨q,hq,rfl⟩:=List.mem_iff_getElem.1 hx
     have:=h3 (A.length+q) (by omega) (by omega)
     rw [show A.length+q-A.length=q by omega,getD_l hq] at this
     simp only [Bool.not_eq_true',decide_eq_false_iff_not] at this
     omega
    have hgt:∀x∈S2,key y<key x:=fun x hx=>by
     obtain ⟨q,hq,rfl⟩:=List.mem_iff_getElem.1 hx
     have:=h4 (A.length+S1.length+q) (by omega) (by simp;omega)
     rw [show A.length+S1.length+q-A.length=S1.length+q by omega,getD_r hq] at this
     simpa using this
    have hres:srt key ((S1++S2)++[y])=S1++y::S2:=by
     refine (srt_of (Srt.app.2 ⟨(Srt.app.1 hS).1,Srt.cons.2 ⟨fun q hq=>Int.le_of_lt (hgt q hq),(Srt.app.1 hS).2.1⟩,fun p hp q hq=>?_⟩) ?_).symm
     ·rcases List.mem_cons.1 hq with rfl | hq
      ·exact hle p hp
      ·exact (Srt.app.1 hS).2.2 p hp q hq
     ·have e1:SEq key (S2++[y]) ([y]++S2):=seq_blocks fun a ha b hb=>by simp at hb;subst hb;have:=hgt a ha;omega
      simpa using (SEq.refl key S1).app e1
    rw [hres]
    have:=sm_l3 (A:=A++S1) (B:=B) (x:=y) (i:=(i:Int)) (X:=za.j3 (A++(S1++y::S2)++B)) S2.length S2 [] rfl (by simp;omega) (by simp at hl ⊢;omega) (by simp [za.j3])
    show ∃k66,za.l3 (i:Int) _ k66 _ _
    have e:(((A++S1).length+S2.length:Nat):Int)=((A.length+(S1++S2).length:Nat):Int):=by simp;omega
    rw [e] at this
    simpa using this
  ·-- both longer
   have hs2:2≤S.length:=by simp at h1;omega
   have ht2:2≤T.length:=by simp at h2;omega
   obtain ⟨mid,hmid⟩:∃mid:Nat,mid=(A.length+(A.length+S.length+T.length)) / 2:=⟨_,rfl⟩
   have hmidI:IntKind.wrap .i64 (shrI (IntKind.wrap .u64 ((A.length:Int)+((A.length+S.length+T.length:Nat):Int))) 1)=(mid:Int):=by
    rw [half_of (by omega) (by omega)];omega
   refine ⟨_,rfl, ?_⟩
   rw [hmidI]
   have main:∀(lo hi:Nat),(lo=A.length∨lo+(A.length+S.length+T.length)=mid+(A.length+S.length))→A.length≤lo→mid+(A.length+S.length)≤lo+(A.length+S.length+T.length)→(hi=mid∨hi=A.length+S.length)→hi≤mid→hi≤A.length+S.length→lo≤hi →
     za.j8 (za.n f) (A++S++T++B) (A.length:Int) ((A.length+S.length:Nat):Int) ((A.length+S.length+T.length:Nat):Int) cmp (A++srt key (S++T)++B) (mid:Int) (lo:Int) (hi:Int):=by
    intro lo hi hlo hla hlb hhi hhm hhs hle
    refine ⟨zk (by omega) (by omega), ?_⟩
    refine bsearch (P:=fun k i j=>za.l5 (A++S++T++B) ((A.length+S.length:Nat):Int) cmp (mid:Int) _ k i j) (fun c=>!decide (key (T.getD (mid-1-c) 0#256)<key (S.getD (c-A.length) 0#256))) lo hi (fun c d h1 h2 h3 h4=>?_) (fun k i j h1 h2 h3=>?_) (fun k st h1 h2 h3 h4=>?_) hle
    ·have e1:=gd_le hS (i:=c-A.length) (j:=d-A.length) (by omega) (by omega)
     have e2:=gd_le hT (i:=mid-1-d) (j:=mid-1-c) (by omega) (by omega)
     simp only [Bool.not_eq_true',decide_eq_false_iff_not] at h4 ⊢;omega
    ·have hat:=atS ((i+j) / 2) (by omega) (by omega)
     have hay:=atT (mid+(A.length+S.length)-1-(i+j) / 2) (by omega) (by omega)
     rw [show mid+(A.length+S.length)-1-(i+j) / 2-(A.length+S.length)=mid-1-(i+j) / 2 by omega] at hay
     have hpc:(mid:Int)+((A.length+S.length:Nat):Int)-1-(((i+j) / 2:Nat):Int)=((mid+(A.length+S.length)-1-(i+j) / 2:Nat):Int):=by omega
     have hh:IntKind.wrap .i64 (shrI (IntKind.wrap .u64 ((i:Int)+(j:Int))) 1)=(((i+j) / 2:Nat):Int):=by rw [half_of (by omega) (by omega)];omega
     constructor
     ·intro hp hk
      refine ⟨fun _=>⟨zk (by omega) (by omega),_,rfl, ?_⟩,fun h=>absurd (by omega) (df0 h)⟩
      rw [hh,hpc]
      refine ⟨zk (by omega) (by omega),_,hay,_,hat,_,hc _ _,fun _=>⟨zk (by omega) (by omega),by simpa using hk⟩,fun h=>?_⟩
      exfalso;simp only [Bool.not_eq_true',Bool.not_eq_false',decide_eq_true_eq,decide_eq_false_iff_not] at h hp;omega
     ·intro hp hk
      refine ⟨fun _=>⟨zk (by omega) (by omega),_,rfl, ?_⟩,fun h=>absurd (by omega) (df0 h)⟩
      rw [hh,hpc]
      refine ⟨zk (by omega) (by omega),_,hay,_,hat,_,hc _ _,fun h=>?_,fun _=>hk⟩
      exfalso;simp only [Bool.not_eq_true',Bool.not_eq_false',decide_eq_true_eq,decide_eq_false_iff_not] at h hp;omega
    ·refine ⟨fun h=>absurd (dt0 h) (by omega),fun _=>?_⟩
     obtain ⟨S1,S2,rfl,hS1⟩:=split_at S (show st-A.length≤S.length by omega)
     obtain ⟨T1,T2,rfl,hT1⟩:=split_at T (show mid-st≤T.length by omega)
     simp only [List.length_append] at hmid hs2 ht2 hlo hla hlb hhi hhm hhs hf hl hS1 hT1 ⊢
     refine sym_j7 (key:=key) ih hS hT hlen (fun t ht s hs=>?_) (fun s hs t ht=>?_) (by omega) (by omega) (by omega) (by omega) (by omega) (by omega)
     ·-- what stands ahead of the middle behind is less
      have hs2:0<S2.length:=List.length_pos_iff.2 (List.ne_nil_of_mem hs)
      have ht1:0<T1.length:=List.length_pos_iff.2 (List.ne_nil_of_mem ht)
      obtain ⟨q,hq,rfl⟩:=List.mem_iff_getElem.1 ht
      obtain ⟨r,hr,rfl⟩:=List.mem_iff_getElem.1 hs
      have hp:=h4 st (Nat.le_refl _) (by omega)
      rw [show mid-1-st=T1.length-1 by omega,show st-A.length=S1.length+0 by omega,getD_l (by omega),getD_r hs2] at hp
      have e1:=srt_le (Srt.app.1 hT).1 (i:=q) (j:=T1.length-1) (by omega) (by omega)
      have e2:=srt_le (Srt.app.1 hS).2.1 (i:=0) (j:=r) (by omega) hr
      simp only [Bool.not_eq_false',decide_eq_true_eq] at hp
      omega
     ·have hs1:0<S1.length:=List.length_pos_iff.2 (List.ne_nil_of_mem hs)
      have ht2:0<T2.length:=List.length_pos_iff.2 (List.ne_nil_of_mem ht)
      obtain ⟨q,hq,rfl⟩:=List.mem_iff_getElem.1 ht
      obtain ⟨r,hr,rfl⟩:=List.mem_iff_getElem.1 hs
      have hp:=h3 (st-1) (by omega) (by omega)
      rw [show mid-1-(st-1)=T1.length+0 by omega,show st-1-A.length=S1.length-1 by omega,getD_r ht2,getD_l (X:=S1) (q:=S1.length-1) (by omega)] at hp
      have e1:=srt_le (Srt.app.1 hT).2.1 (i:=0) (j:=q) (by omega) hq
      have e2:=srt_le (Srt.app.1 hS).1 (i:=r) (j:=S1.length-1) (by omega) (by omega)
      simp only [Bool.not_eq_true',decide_eq_false_iff_not] at hp
      omega
   refine ⟨zk (by omega) (by omega),fun h=>⟨zk (by omega) (by omega), ?_⟩,fun h=>?_⟩
   ·have hlt:mid<A.length+S.length:=by have:=dt0 h;omega
    have:=main (mid+(A.length+S.length)-(A.length+S.length+T.length)) mid (by omega) (by omega) (by omega) (.inl rfl) (Nat.le_refl _) (by omega) (by omega)
    rw [show ((mid+(A.length+S.length)-(A.length+S.length+T.length):Nat):Int)=(mid:Int)+((A.length+S.length:Nat):Int)-((A.length+S.length+T.length:Nat):Int) by omega] at this
    exact this
   ·have hge:¬ mid<A.length+S.length:=by have:=df0 h;omega
    exact main A.length (A.length+S.length) (.inl rfl) (Nat.le_refl _) (by omega) (.inr rfl) (by omega) (Nat.le_refl _) (by omega)
end Go.Proofs.YtahgmdbioafmbaaGreatDoor.V
namespace Go.Proofs.YtahgmdbioafmbaaGreatDoor.V
open Go
set_option linter.unusedVariables false
def BS (key:Cl→Int) (n:Nat) (l:List Cl):Prop:=∀(i j:Nat) (hj:j<l.length) (hi:i≤j),i / n=j / n→key (l[i]'(by omega))≤key l[j]
theorem BS.of_srt {key:Cl→Int} {n:Nat} {l:List Cl} (h:Srt key l):BS key n l:=fun i j hj hi _=>srt_le h hi hj
theorem BS.srt {key:Cl→Int} {n:Nat} {l:List Cl} (h:BS key n l) (hl:l.length≤n):Srt key l:=by
 refine List.pairwise_iff_getElem.2 fun i j hi hj hij=>h i j hj (Nat.le_of_lt hij) ?_
 rw [Nat.div_eq_of_lt (by omega),Nat.div_eq_of_lt (by omega)]
theorem BS.app {key:Cl→Int} {n q:Nat} {P Q:List Cl} (hn:0<n) (hP:P.length=q*n) (h1:BS key n P) (h2:BS key n Q):BS key n (P++Q):=fun i j hj hi he=>by
 by_cases hjp:j<P.length
 ·rw [List.getElem_append_left (by omega),List.getElem_append_left hjp];exact h1 i j hjp hi he
 ·have hq:q≤j / n:=by rw [Nat.le_div_iff_mul_le hn];omega
  have hip:P.length≤i:=by
   rcases Nat.lt_or_ge i P.length with h | h
   ·have:i / n<q:=by rw [Nat.div_lt_iff_lt_mul hn];omega
    omega
   ·exact h
  rw [List.getElem_append_right hip,List.getElem_append_right (by omega)]
  refine h2 (i-P.length) (j-P.length) (by simp at hj;omega) (by omega) ?_
  have e1:i=(i-P.length)+q*n:=by omega
  have e2:j=(j-P.length)+q*n:=by omega
  rw [e1,e2,Nat.add_mul_div_right _ _ hn,Nat.add_mul_div_right _ _ hn] at he
  omega
theorem BS.left {key:Cl→Int} {n:Nat} {P Q:List Cl} (h:BS key n (P++Q)):BS key n P:=fun i j hj hi he=>by
 have:=h i j (by simp;omega) hi he
 rwa [List.getElem_append_left (by omega),List.getElem_append_left hj] at this
theorem BS.right {key:Cl→Int} {n q:Nat} {P Q:List Cl} (hn:0<n) (hP:P.length=q*n) (h:BS key n (P++Q)):BS key n Q:=fun i j hj hi he=>by
 have:=h (P.length+i) (P.length+j) (by simp;omega) (by omega) (by rw [hP,Nat.add_comm,Nat.add_comm (q*n) j,Nat.add_mul_div_right _ _ hn,Nat.add_mul_div_right _ _ hn,he])
 rw [List.getElem_append_right (by omega),List.getElem_append_right (by omega)] at this
 simpa using this
theorem sym_in {key:Cl→Int} {cmp:Cl × Cl × Int→Prop} (hc:ByKey key cmp) {A S T B:List Cl} {a m b:Int} (ha:a=(A.length:Int)) (hm:m=((A.length+S.length:Nat):Int)) (hb:b=((A.length+S.length+T.length:Nat):Int)) (hS:S≠[]) (hT:T≠[]) (h1:Srt key S) (h2:Srt key T)
  (hl:(A++S++T++B).length<4611686018427387904):za (A++S++T++B) a m b cmp (A++srt key (S++T)++B):=by
 subst ha;subst hm;subst hb
 exact ⟨_,sym_n hc _ A S T B (Nat.le_refl _) hS hT h1 h2 hl⟩
section
variable {key : Cl → Int} {cmp : Cl × Cl × Int → Prop} {xs : List Cl} {r : List Cl}
theorem st_l2 (hc:ByKey key cmp) (hn:xs.length<1152921504606846976) {bs:Nat} (hbs:0<bs) (hbn:bs<xs.length) {L1:List Cl→Int→Prop} (hL:∀Q,BS key (2*bs) Q→SEq key xs Q→L1 Q ((bs:Int)*2)):
  ∀(f:Nat) (P R:List Cl) (q:Nat),R.length≤f→P.length=q*(2*bs)→BS key (2*bs) P→BS key bs R→SEq key xs (P++R) →
   ∃k,ze.l2 (xs.length:Int) cmp (bs:Int) (ze.j2 L1 (xs.length:Int) cmp (bs:Int)) k (P++R) (P.length:Int) ((P.length:Int)+2*(bs:Int)):=by
 intro f
 induction f with
 | zero=>
  intro P R q hf hP h1 h2 h3
  have:=List.eq_nil_of_length_eq_zero (show R.length=0 by omega)
  subst this
  have hl:=h3.length
  simp at hl
  refine ⟨1,fun h=>absurd (dt0 h) (by omega),fun _=>⟨zk (by omega) (by omega),fun h=>absurd (dt0 h) (by omega),fun _=>⟨zk (by omega) (by omega), ?_⟩⟩⟩
  rw [List.append_nil] at h3 ⊢
  exact hL P h1 h3
 | succ f ih=>
  intro P R q hf hP h1 h2 h3
  have hl:=h3.length
  simp at hl
  by_cases hle:P.length+2*bs≤xs.length
  ·obtain ⟨S,R1,rfl,hS⟩:=split_at R (show bs≤R.length by omega)
   simp at hl
   obtain ⟨T,R2,rfl,hT⟩:=split_at R1 (show bs≤R1.length by omega)
   simp at hl hf
   have hSs:=h2.left.srt (by omega)
   have h2':=BS.right hbs (q:=1) (by omega) h2
   have hTs:=h2'.left.srt (by omega)
   have h2'':=BS.right hbs (q:=1) (by omega) h2'
   have hP2:(P++srt key (S++T)).length=(q+1)*(2*bs):=by simp [srt_len,hP,Nat.add_mul];omega
   obtain ⟨k,hk⟩:=ih (P++srt key (S++T)) R2 (q+1) (by omega) hP2 (BS.app (by omega) hP h1 (BS.of_srt (srt_srt _ _))) h2'' (h3.trans (by
    have:=(SEq.refl key P).app ((seq_srt key (S++T)).app (SEq.refl key R2))
    simpa using this))
   refine ⟨k+1,fun _=>⟨zk (by omega) (by omega),P++srt key (S++T)++R2, ?_,zk (by omega) (by omega),zk (by omega) (by omega), ?_⟩,fun h=>absurd (by omega) (df0 h)⟩
   ·have:=sym_in hc (A:=P) (S:=S) (T:=T) (B:=R2) (a:=(P.length:Int)) (m:=(P.length:Int)+(bs:Int)) (b:=(P.length:Int)+2*(bs:Int)) rfl (by omega) (by omega) (by rintro rfl;simp at hS;omega) (by rintro rfl;simp at hT;omega) hSs hTs (by simp;omega)
    simpa using this
   ·have e:(((P++srt key (S++T)).length:Nat):Int)=(P.length:Int)+2*(bs:Int):=by simp [srt_len];omega
    rw [e] at hk
    exact hk
  ·by_cases hm:P.length+bs<xs.length
   ·obtain ⟨S,T,rfl,hS⟩:=split_at R (show bs≤R.length by omega)
    simp at hl
    have hSs:=h2.left.srt (by omega)
    have hTs:=(BS.right hbs (q:=1) (by omega) h2).srt (by omega)
    refine ⟨1,fun h=>absurd (dt0 h) (by omega),fun _=>⟨zk (by omega) (by omega),fun _=>⟨P++srt key (S++T)++[], ?_,zk (by omega) (by omega), ?_⟩,fun h=>absurd (by omega) (df0 h)⟩⟩
    ·have:=sym_in hc (A:=P) (S:=S) (T:=T) (B:=[]) (a:=(P.length:Int)) (m:=(P.length:Int)+(bs:Int)) (b:=(xs.length:Int)) rfl (by omega) (by omega) (by rintro rfl;simp at hS;omega) (by rintro rfl;simp at hl;omega) hSs hTs (by simp;omega)
     simpa using this
    ·rw [List.append_nil]
     exact hL _ (BS.app (by omega) hP h1 (BS.of_srt (srt_srt _ _))) (h3.trans (by
      have:=(SEq.refl key P).app (seq_srt key (S++T))
      simpa using this))
   ·refine ⟨1,fun h=>absurd (dt0 h) (by omega),fun _=>⟨zk (by omega) (by omega),fun h=>absurd (dt0 h) (by omega),fun _=>⟨zk (by omega) (by omega), ?_⟩⟩⟩
    exact hL _ (BS.app (by omega) hP h1 (BS.of_srt (h2.srt (by omega)))) h3
theorem st_l1 (hc:ByKey key cmp) (hn:xs.length<1152921504606846976):∀(f:Nat) (bs:Nat) (Q:List Cl),xs.length-bs≤f→0<bs→BS key bs Q→SEq key xs Q →
  ze.l1 (xs.length:Int) cmp (ze.j1 (srt key xs)) (f+1) Q (bs:Int):=by
 intro f
 induction f with
 | zero=>
  intro bs Q hf hbs h1 h2
  have hl:=h2.length
  exact ⟨fun h=>absurd (dt0 h) (by omega),fun _=>(srt_of (h1.srt (by omega)) h2).symm⟩
 | succ f ih=>
  intro bs Q hf hbs h1 h2
  have hl:=h2.length
  by_cases hlt:bs<xs.length
  ·refine ⟨fun _=>⟨zk (by omega) (by omega), ?_⟩,fun h=>absurd (by omega) (df0 h)⟩
   have:=st_l2 hc hn hbs hlt (L1:=ze.l1 (xs.length:Int) cmp (ze.j1 (srt key xs)) (f+1)) (fun Q' hb hs=>by
    have:=ih (2*bs) Q' (by omega) (by omega) hb hs
    rwa [show (((2*bs:Nat)):Int)=(bs:Int)*2 by omega] at this) Q.length [] Q 0 (Nat.le_refl _) (by simp) (fun i j hj=>by simp at hj) h1 (by simpa using h2)
   simpa using this
  ·exact ⟨fun h=>absurd (dt0 h) (by omega),fun _=>(srt_of (h1.srt (by omega)) h2).symm⟩
theorem st_l3 (hc:ByKey key cmp) (hn:xs.length<1152921504606846976):∀(f:Nat) (P R:List Cl) (q:Nat),R.length≤f→P.length=q*20→BS key 20 P→SEq key xs (P++R) →
  ∃k,ze.l3 (xs.length:Int) cmp (ze.j3 (xs.length:Int) cmp (srt key xs)) k (P++R) (P.length:Int) ((P.length:Int)+20):=by
 intro f
 have fin:∀(P R:List Cl) (q:Nat),P.length=q*20→BS key 20 P→SEq key xs (P++R)→R.length≤20→ze.j3 (xs.length:Int) cmp (srt key xs) (P++R) (P.length:Int):=by
  intro P R q hP h1 h3 hR
  have hl:=h3.length
  simp at hl
  have:=ins_in hc (A:=P) (S:=R) (B:=[]) (a:=(P.length:Int)) (b:=(xs.length:Int)) rfl (by omega) (by simp;omega)
  refine ⟨P++srt key R,by simpa using this,_,st_l1 hc hn xs.length 20 _ (by omega) (by omega) (BS.app (by omega) hP h1 (BS.of_srt (srt_srt _ _))) (h3.trans ((SEq.refl key P).app (seq_srt key R)))⟩
 induction f with
 | zero=>
  intro P R q hf hP h1 h3
  have hl:=h3.length
  simp at hl
  exact ⟨1,fun h=>absurd (dt0 h) (by omega),fun _=>fin P R q hP h1 h3 (by omega)⟩
 | succ f ih=>
  intro P R q hf hP h1 h3
  have hl:=h3.length
  simp at hl
  by_cases hle:P.length+20≤xs.length
  ·obtain ⟨S,R1,rfl,hS⟩:=split_at R (show 20≤R.length by omega)
   simp at hl hf
   have hP2:(P++srt key S).length=(q+1)*20:=by simp [srt_len,hP,Nat.add_mul];omega
   obtain ⟨k,hk⟩:=ih (P++srt key S) R1 (q+1) (by omega) hP2 (BS.app (by omega) hP h1 (BS.of_srt (srt_srt _ _))) (h3.trans (by
    have:=(SEq.refl key P).app ((seq_srt key S).app (SEq.refl key R1))
    simpa using this))
   refine ⟨k+1,fun _=>⟨P++srt key S++R1, ?_,zk (by omega) (by omega), ?_⟩,fun h=>absurd (by omega) (df0 h)⟩
   ·have:=ins_in hc (A:=P) (S:=S) (B:=R1) (a:=(P.length:Int)) (b:=(P.length:Int)+20) rfl (by omega) (by simp;omega)
    simpa using this
   ·have e:(((P++srt key S).length:Nat):Int)=(P.length:Int)+20:=by simp [srt_len];omega
    rw [e] at hk
    exact hk
  ·exact ⟨1,fun h=>absurd (dt0 h) (by omega),fun _=>fin P R q hP h1 h3 (by omega)⟩
theorem stable_in (hc:ByKey key cmp) (hn:xs.length<1152921504606846976):zbe xs cmp (srt key xs):=by
 have:=st_l3 hc hn xs.length [] xs 0 (Nat.le_refl _) (by simp) (fun i j hj=>by simp at hj) (SEq.refl _ _)
 refine ⟨_, ?_,rfl⟩
 unfold ze
 simpa using this
end
end Go.Proofs.YtahgmdbioafmbaaGreatDoor.V
namespace Go.Proofs.YtahgmdbioafmbaaGreatDoor.V
open Go
set_option linter.unusedVariables false
theorem lk0_le (p:Cl):0≤lk0 p∧lk0 p≤255:=by
 unfold lk0
 by_cases h:0<p.count
 ·obtain ⟨n,h1,h2,_,_⟩:=lk_spec h
  rw [h2];simp;omega
 ·have:p.least=(0,false):=least_of_none fun m hm=>by
   cases hb:p.has m
   ·rfl
   ·exact absurd (count_pos hm hb) h
  rw [this];simp
theorem split_cmp:ByKey lk0 (fun q_=>zdw q_.1 q_.2.1 (fun q_=>zdh q_.1 q_.2) q_.2.2):=fun x y=>by
 have h1:=lk0_le x
 have h2:=lk0_le y
 exact ⟨lk0 x,⟨_,class_Least_in,rfl⟩,lk0 y,⟨_,class_Least_in,rfl⟩,zk (by omega) (by omega),rfl⟩
theorem flat_len2 (a:Cl) (l:List Cl):(l.flatMap (pieces a)).length≤2*l.length:=by
 induction l with
 | nil=>simp
 | cons p l ih=>
  rw [List.flatMap_cons,List.length_append]
  have:(pieces a p).length≤2:=by
   have:=List.length_filter_le (fun q:Cl=>decide (0<q.count)) [p &&& a,p &&& ~~~ a]
   simpa [pieces] using this
  rw [List.length_cons];omega
theorem split_Refine_in {ps:List Cl} {a:Cl} (hl:ps.length≤1073741823):zy ps a (splitR ps a):=by
 refine upto (P:=fun k (s:List Cl) v=>zy.l1 ps a _ k s v) ps.length (fun i s=>s=(ps.take i).flatMap (pieces a)) ?_ ?_ _ (by simp)
 ·rintro i s hi rfl
  refine .inr ⟨_,rfl,fun k h=>⟨fun _=>⟨ps[i],by rw [zb0];simp [hi],_,class_Both_in,_,class_Not_in,_,class_Both_in, ?_⟩,fun h=>absurd (by omega) (df h)⟩⟩
  have hb:=flat_len2 a (ps.take i)
  simp only [List.length_take] at hb
  refine upto (P:=fun k (s:List Cl) v=>zy.l2 _ _ _ k s v) 2 (fun j s=>s=(ps.take i).flatMap (pieces a)++([ps[i] &&& a,ps[i] &&& ~~~ a].take j).filter fun q=>decide (0<q.count)) ?_ ?_ _ (by simp)
  ·rintro j s hj rfl
   have hlen:(([ps[i] &&& a,ps[i] &&& ~~~ a].take j).filter fun q=>decide (0<q.count)).length≤1:=by
    have:=List.length_filter_le (fun q:Cl=>decide (0<q.count)) ([ps[i] &&& a,ps[i] &&& ~~~ a].take j)
    simp at this;omega
   refine .inr ⟨_,rfl,fun k h=>⟨fun _=>⟨[ps[i] &&& a,ps[i] &&& ~~~ a][j],by rw [zb0];simp [hj],_,class_Count_in,fun hc=>?_,fun hc=>?_⟩,fun h=>absurd (by simp;omega) (df h)⟩⟩
   ·have hc:=dt hc
    rw [List.take_succ_eq_append_getElem (by simpa using hj),List.filter_append,List.filter_cons_of_pos (by simp;omega),List.filter_nil,← List.append_assoc] at h
    exact ⟨by simp only [List.length_append,List.length_cons,List.length_nil];omega,zk (by omega) (by omega),h⟩
   ·have hc:=df hc
    rw [List.take_succ_eq_append_getElem (by simpa using hj),List.filter_append,List.filter_cons_of_neg (by simp;omega),List.filter_nil,List.append_nil] at h
    exact ⟨zk (by omega) (by omega),h⟩
  ·rintro s rfl k2
   refine ⟨fun h=>absurd (dt h) (by simp),fun _=>⟨zk (by omega) (by omega), ?_⟩⟩
   rw [List.take_succ_eq_append_getElem hi,List.flatMap_append] at h
   simpa [pieces] using h
 ·rintro s rfl k
  refine ⟨fun h=>absurd (dt h) (by omega),fun _=>⟨_,stable_in split_cmp ?_, ?_⟩⟩
  ·have:=flat_len2 a (ps.take ps.length)
   simp only [List.length_take,Nat.min_self] at this
   omega
  ·simp [splitR]
theorem splitP_take (l:List Cl) (i:Nat):(splitP (l.take i)).length≤256:=by
 rw [splitP_eq]
 have:=heads_len (l.take i)
 simpa [parts] using this
theorem split_Parts_in {l:List Cl} (hl:l.length≤1073741823):zb1 l (splitP l):=by
 refine ⟨_,class_Not_in, ?_⟩
 refine upto (P:=fun k (s:List Cl) v=>zb1.l1 l _ k s v) l.length (fun i s=>s=splitP (l.take i)) ?_ ?_ _ (by simp [splitP])
 ·rintro i s hi rfl
  have:=splitP_take l i
  refine .inr ⟨_,rfl,fun k h=>⟨fun _=>⟨l[i],by rw [zb0];simp [hi],_,split_Refine_in (by omega),zk (by omega) (by omega), ?_⟩,fun h=>absurd (by omega) (df h)⟩⟩
  have e:splitP (l.take i++[l[i]])=splitR (splitP (l.take i)) l[i]:=by unfold splitP;rw [List.foldl_append];rfl
  rw [List.take_succ_eq_append_getElem hi,e] at h
  exact h
 ·rintro s rfl k
  exact ⟨fun h=>absurd (dt h) (by omega),fun _=>by rw [List.take_length];rfl⟩
theorem split_Heads_in {l:List Cl} (hl:l.length≤1073741823):zb2 l (splitH l):=by
 refine ⟨_,split_Parts_in hl, ?_⟩
 have hlen:=splitP_take l l.length
 rw [List.take_length] at hlen
 refine upto (P:=fun k (s:List Int) v=>zb2.l1 (splitP l) _ k s v) (splitP l).length (fun i s=>s=((splitP l).take i).map lk0) ?_ ?_ _ (by simp)
 ·rintro i s hi rfl
  refine .inr ⟨_,rfl,fun k h=>⟨fun _=>⟨(splitP l)[i],by rw [zb0];simp [hi],_,class_Least_in,by simp;omega,zk (by omega) (by omega), ?_⟩,fun h=>absurd (by omega) (df h)⟩⟩
  rw [List.take_succ_eq_append_getElem hi,List.map_append] at h
  exact h
 ·rintro s rfl k
  exact ⟨fun h=>absurd (dt h) (by omega),fun _=>by rw [List.take_length];rfl⟩
theorem ref02_Bytes_in {a b:List Int} (ha:a.length<9223372036854775807):zbx a b (decide (a=b)):=by
 refine ⟨fun h=>?_,fun h=>?_⟩
 ·simp at h
  exact decide_eq_false fun e=>by subst e;omega
 ·have hl:a.length=b.length:=by simp at h;omega
  refine upto (P:=fun k (_:Unit) v=>zbx.l1 a b (decide (a=b)) _ k v) a.length (fun i _=>∀j (hj:j<i) (h1:j<a.length),a[j]=b[j]'(by omega)) ?_ ?_ () (by intro j hj;omega)
  ·intro i s hi hs
   have hat:at? a (i:Int)=some a[i]:=by rw [zb0];simp [hi]
   have hbt:at? b (i:Int)=some (b[i]'(by omega)):=by rw [zb0];simp [show i<b.length by omega]
   by_cases he:a[i]=b[i]'(by omega)
   ·refine .inr ⟨(),fun j hj h1=>?_,fun k h=>⟨fun _=>⟨_,hat,_,hbt,fun h=>by simp [he] at h,fun _=>⟨zk (by omega) (by omega),h⟩⟩,fun h=>absurd (by omega) (df h)⟩⟩
    by_cases hji:j=i
    ·subst hji;exact he
    ·exact hs j (by omega) h1
   ·exact .inl fun k=>⟨fun _=>⟨_,hat,_,hbt,fun _=>decide_eq_false fun e=>he (by subst e;rfl),fun h=>by simp at h;exact absurd h he⟩,fun h=>absurd (by omega) (df h)⟩
  ·intro s hs k
   refine ⟨fun h=>absurd (dt h) (by omega),fun _=>?_⟩
   show decide (a=b)=true
   exact decide_eq_true (List.ext_getElem hl fun j h1 h2=>hs j h1 h1)
end Go.Proofs.YtahgmdbioafmbaaGreatDoor.V
namespace Go.Proofs.YtahgmdbioafmbaaGreatDoor.V
open Go
set_option linter.unusedVariables false
theorem zdj {α:Type} {xs:List α} {i:Nat} (h:i<xs.length):at? xs (i:Int)=some xs[i]:=by rw [zb0];exact List.getElem?_eq_getElem h
theorem nodup_perm {α:Type} [DecidableEq α]:∀{a b:List α},a.Nodup→b.Nodup→(∀x,x∈a↔x∈b)→a.Perm b
 | [],b,_,_,h=>by
  cases b with
  | nil=>exact .refl _
  | cons y b=>exact absurd ((h y).2 (by simp)) (by simp)
 | x::a,b,ha,hb,h=>by
  rw [List.nodup_cons] at ha
  have hx:=(h x).1 (by simp)
  refine (List.Perm.cons x (nodup_perm ha.2 (hb.erase x) fun y=>?_)).trans (List.perm_cons_erase hx).symm
  rw [hb.mem_erase_iff]
  constructor
  ·intro hy
   exact ⟨fun e=>ha.1 (by rw [← e];exact hy),(h y).1 (by simp [hy])⟩
  ·rintro ⟨h1,h2⟩
   exact (List.mem_cons.1 ((h y).2 h2)).resolve_left h1
theorem item_StartS {d:List SNode} (h:d≠[]) (hl:d.length≤1000):item_Start d (stS d):=by
 have:=List.length_pos_iff.2 h
 exact ⟨zk (by omega) (by omega),rfl⟩
theorem sets_Start_in {d:List SNode} (h:d≠[]) (hl:d.length≤1000):sets_Start d [stS d]:=⟨_,item_StartS h hl,rfl⟩
def mS (L:List (List SItem)):List (Str × List SItem):=L.foldl (fun m t=>mput m (keyS t) t) []
theorem mS_snoc (L:List (List SItem)) (t:List SItem):mS (L++[t])=mput (mS L) (keyS t) t:=by unfold mS;rw [List.foldl_append];rfl
theorem mS_inv (L:List (List SItem)):((mS L).map (·.2)).Nodup∧∀p,p∈mS L↔p.2∈L∧p.1=keyS p.2:=by
 have:∀n (L:List (List SItem)),L.length=n→((mS L).map (·.2)).Nodup∧∀p,p∈mS L↔p.2∈L∧p.1=keyS p.2:=by
  intro n
  induction n with
  | zero=>intro L hL;rw [List.length_eq_zero_iff.1 hL];exact ⟨List.nodup_nil,by simp [mS]⟩
  | succ n ih=>
   intro L hL
   have hne:L≠[]:=fun e=>by subst e;simp at hL
   rw [← List.dropLast_concat_getLast hne]
   obtain ⟨i1,i2⟩:=ih L.dropLast (by simp [hL])
   generalize L.dropLast=A at *
   generalize L.getLast hne=t at *
   rw [mS_snoc]
   unfold mput
   cases hh:mhas (mS A) (keyS t)
   ·simp only [cond_false]
    have hno:t ∉ A:=fun h=>by
     have h1:=(i2 (keyS t,t)).2 ⟨h,rfl⟩
     have:mhas (mS A) (keyS t)=true:=by
      unfold mhas
      rw [List.any_eq_true]
      exact ⟨_,h1,by simp⟩
     rw [hh] at this;cases this
    refine ⟨?_,fun p=>?_⟩
    ·rw [List.map_append,List.nodup_append]
     refine ⟨i1,by simp,fun a ha b hb e=>?_⟩
     simp at hb
     subst hb;subst e
     obtain ⟨p,hp,rfl⟩:=List.mem_map.1 ha
     exact hno ((i2 p).1 hp).1
    ·rw [List.mem_append,i2,List.mem_singleton,List.mem_append,List.mem_singleton]
     constructor
     ·rintro (⟨h1,h2⟩ | rfl)
      ·exact ⟨.inl h1,h2⟩
      ·exact ⟨.inr rfl,rfl⟩
     ·rintro ⟨h1 | h1,h2⟩
      ·exact .inl ⟨h1,h2⟩
      ·exact .inr (Prod.ext (by rw [h2,h1]) h1)
   ·have hh':=hh
    unfold mhas at hh'
    rw [List.any_eq_true] at hh'
    obtain ⟨q,hq1,hq2⟩:=hh'
    have hqk:q.1=keyS t:=by simpa using hq2
    have hq3:=(i2 q).1 hq1
    have hqt:q.2=t:=keyS_iff.1 (by rw [← hq3.2,hqk])
    have hta:t∈A:=by rw [← hqt];exact hq3.1
    simp only [cond_true]
    have hmap:∀f:Str × List SItem→Str × List SItem,(∀p∈mS A,f p=p)→(mS A).map f=mS A:=fun f hf=>by
     conv=>rhs;rw [← List.map_id (mS A)]
     exact List.map_congr_left hf
    rw [hmap _ fun p hp=>?_]
    rotate_left
    ·by_cases hpk:p.1=keyS t
     ·have hp3:=(i2 p).1 hp
      have:p.2=t:=keyS_iff.1 (by rw [← hp3.2,hpk])
      have e:p=(keyS t,t):=Prod.ext hpk this
      rw [e];simp
     ·exact (congrArg (fun b=>bif b then (keyS t,t) else p) (decide_eq_false hpk)).trans rfl
    refine ⟨i1,fun p=>?_⟩
    rw [i2,List.mem_append,List.mem_singleton]
    constructor
    ·rintro ⟨h1,h2⟩;exact ⟨.inl h1,h2⟩
    ·rintro ⟨h1 | h1,h2⟩
     ·exact ⟨h1,h2⟩
     ·exact ⟨by rw [h1];exact hta,h2⟩
 exact this _ L rfl
structure Room (d:List SNode) (c:Int) (l:List (List SItem)):Prop where
 sm:∀s∈l,Sm d s
 len:l.length≤2000000000
 cov:∃K:List (List SItem),K.length≤2000000000∧∀s∈l,∀t∈stepL d c s,t∈K
theorem step_short {d:List SNode} {s:List SItem} (h:Sm d s) {c:Int} (hc:InR .u8 c) {t:List SItem} (ht:t∈stepL d c s):t.length≤1000:=by
 have:=(step_ok h.rt.toROk h.form hc t ht).2
 have:=h.slen
 have:=h.len
 omega
theorem sets_On_in {d:List SNode} {l:List (List SItem)} {c:Int} (hr:Room d c l) (hc:InR .u8 c):zbp d l c (onS d c l):=by
 have hll:=hr.len
 obtain ⟨K,k1,k2⟩:=hr.cov
 refine uptoK (P:=fun k m v=>zbp.l1 d l c _ k m v) l.length (fun i m=>m=mS ((l.take i).flatMap fun s=>setOf (stepL d c s))) ?_ ?_ _ (by simp [mS])
 ·rintro i m k hi rfl hk
  have hsm:=hr.sm _ (List.getElem_mem hi)
  obtain ⟨o,o1,_,o3⟩:=on_step hsm hc
  have ho:o.map (·.1)=setOf (stepL d c l[i]):=can_set o3 fun t=>by rw [← List.count_pos_iff];omega
  have hol:o.length≤2000000000:=by
   have:=setOf_len (A:=stepL d c l[i]) (K:=K) fun t ht=>k2 _ (List.getElem_mem hi) t ht
   rw [← ho,List.length_map] at this
   omega
  refine ⟨fun _=>⟨_,zdj hi,o,o1, ?_⟩,fun h=>absurd (by omega) (df h)⟩
  refine uptoK (P:=fun k m v=>zbp.l2 o _ k m v) o.length (fun j m=>m=mS (((l.take i).flatMap fun s=>setOf (stepL d c s))++(o.map (·.1)).take j)) ?_ ?_ _ (by simp)
  ·rintro j m k' hj rfl hk'
   have hmem:o[j].1∈stepL d c l[i]:=zdm.1 (by rw [← ho];exact List.mem_map.2 ⟨_,List.getElem_mem hj,rfl⟩)
   have hlen:=step_short hsm hc hmem
   refine ⟨fun _=>⟨_,zdj hj,_,item_Key_in hlen,zk (by omega) (by omega),hk' _ ?_⟩,fun h=>absurd (by omega) (df h)⟩
   rw [List.take_succ_eq_append_getElem (by simpa using hj),← List.append_assoc,mS_snoc]
   simp
  ·rintro m rfl k'
   refine ⟨fun h=>absurd (dt h) (by omega),fun _=>⟨zk (by omega) (by omega),hk _ ?_⟩⟩
   rw [List.take_of_length_le (l:=o.map (·.1)) (by simp),List.take_succ_eq_append_getElem hi,List.flatMap_append,ho]
   simp
 ·rintro m rfl k
  refine ⟨fun h=>absurd (dt h) (by omega),fun _=>?_⟩
  rw [List.take_length]
  obtain ⟨i1,i2⟩:=mS_inv (l.flatMap fun s=>setOf (stepL d c s))
  have hmm:∀t,t∈(mS (l.flatMap fun s=>setOf (stepL d c s))).map (·.2)↔t∈onS d c l:=fun t=>by
   rw [onS_mem,List.mem_map]
   constructor
   ·rintro ⟨p,hp,rfl⟩
    obtain ⟨s,h1,h2⟩:=List.mem_flatMap.1 ((i2 p).1 hp).1
    exact ⟨s,h1,zdm.1 h2⟩
   ·rintro ⟨s,h1,h2⟩
    exact ⟨(keyS t,t),(i2 _).2 ⟨List.mem_flatMap.2 ⟨s,h1,zdm.2 h2⟩,rfl⟩,rfl⟩
  refine ⟨fun b hb=>?_, ?_,nodup_perm (rs_nodup (zd7 _)) i1 fun t=>(hmm t).symm,zd7 _⟩
  ·obtain ⟨s,h1,h2⟩:=onS_mem.1 ((hmm b).1 hb)
   exact step_short (hr.sm s h1) hc h2
  ·have:=len_sub (U:=K) i1 fun t ht=>by
    obtain ⟨s,h1,h2⟩:=onS_mem.1 ((hmm t).1 ht)
    exact k2 s h1 t h2
   omega
theorem idxS_in {s:List (List SItem)} {f:List SItem × Bool→Prop} {g:List SItem→Bool} (hf:∀x∈s,f (x,g x)) (hl:s.length≤140737488351232):zbh s f (s.any g):=by
 have key:∃i:Int,zn s f i∧(decide (0≤i))=s.any g:=by
  cases hc:s.any g
  ·refine ⟨-1, ?_,by decide⟩
   rw [List.any_eq_false] at hc
   refine upto (P:=fun k (_:Unit) v=>zn.l1 s f (-1) _ k v) s.length (fun _ _=>True) ?_ ?_ () trivial
   ·intro j _ hj _
    exact .inr ⟨(),trivial,fun k hk=>⟨fun _=>⟨_,zdj hj,_,hf _ (List.getElem_mem hj),fun h=>absurd h (hc _ (List.getElem_mem hj)),fun _=>⟨zk (by omega) (by omega),hk⟩⟩,fun h=>absurd (by omega) (df h)⟩⟩
   ·intro _ _ k
    exact ⟨fun h=>absurd (dt h) (by omega),fun _=>rfl⟩
  ·rw [List.any_eq_true] at hc
   obtain ⟨x,hx,hgx⟩:=hc
   have hex:∃i,∃(h:i<s.length),g s[i]=true:=by
    obtain ⟨i,hi,rfl⟩:=List.mem_iff_getElem.1 hx
    exact ⟨i,hi,hgx⟩
   obtain ⟨i,⟨hi,hi2⟩,hmin⟩:=exists_least hex
   refine ⟨(i:Int), ?_,by simp⟩
   refine upto (P:=fun k (_:Unit) v=>zn.l1 s f (i:Int) _ k v) (i+1) (fun j _=>j≤i) ?_ ?_ () (by omega)
   ·intro j _ hj hle
    have hat:=zdj (show j<s.length by omega)
    have hfj:=hf _ (List.getElem_mem (show j<s.length by omega))
    by_cases hji:j=i
    ·subst hji
     rw [hi2] at hfj
     exact .inl fun k=>⟨fun _=>⟨_,hat,true,hfj,fun _=>rfl,(fun h=>by cases h)⟩,fun h=>absurd (by omega) (df h)⟩
    ·have hno:g (s[j]'(by omega))=false:=by
      cases hg:g (s[j]'(by omega))
      ·rfl
      ·have:=hmin j ⟨by omega,hg⟩;omega
     rw [hno] at hfj
     exact .inr ⟨(),by omega,fun k hk=>⟨fun _=>⟨_,hat,false,hfj,(fun h=>by cases h),fun _=>⟨zk (by omega) (by omega),hk⟩⟩,fun h=>absurd (by omega) (df h)⟩⟩
   ·intro _ h k;omega
 obtain ⟨i,h1,h2⟩:=key
 exact ⟨i,h1,h2.symm⟩
theorem sat_pos (n:Nat):decide (0<sat n)=decide (n≠0):=by
 by_cases h:n=0
 ·subst h;simp [sat]
 ·rw [decide_eq_true (by unfold sat;omega),decide_eq_true h]
theorem zd1 {d:List SNode} {l:List (List SItem)} (hl:∀s∈l,Sm d s) (hn:l.length≤2000000000):zc7 d l (endS d l):=by
 refine ⟨_,idxS_in (g:=fun s=>decide ((hds d s).count []≠0)) (fun s hs=>⟨_,(ends_both (hl s hs)).1, ?_⟩) (by omega),rfl⟩
 exact (sat_pos _).symm
theorem sets_Classes_in {d:List SNode} {l:List (List SItem)} (hl:∀s∈l,Sm d s) (hn:l.length≤2000000000) (hc:(clsL d l).length*32≤140737488355328):zbr d l (clsL d l):=by
 refine upto (P:=fun k out v=>zbr.l1 d l _ k out v) l.length (fun i out=>out=clsL d (l.take i)) ?_ ?_ _ (by simp [clsL])
 ·rintro i out hi rfl
  have e:clsL d (l.take (i+1))=clsL d (l.take i)++clsA d l[i]:=by
   unfold clsL
   rw [List.take_succ_eq_append_getElem hi,List.flatMap_append];simp
  refine .inr ⟨_,rfl,fun k hk=>⟨fun _=>⟨_,zdj hi,_,(clsA_in (hl _ (List.getElem_mem hi))).1, ?_,zk (by omega) (by omega),by rw [← e];exact hk⟩,fun h=>absurd (by omega) (df h)⟩⟩
  have h2:clsL d l=clsL d (l.take (i+1))++clsL d (l.drop (i+1)):=by unfold clsL;rw [← List.flatMap_append,List.take_append_drop]
  have h3:=congrArg List.length h2
  rw [e,List.length_append,List.length_append] at h3
  omega
 ·rintro out rfl k
  refine ⟨fun h=>absurd (dt h) (by omega),fun _=>?_⟩
  show clsL d l=_
  rw [List.take_length]
theorem sets_Once_in {l:List Cl} (hn:l.length≤140737488351232) (ho:(onceL l).length≤2147483647):zcs l (onceL l):=by
 have hpre:∀i,(onceL (l.take i)).length≤(onceL l).length:=fun i=>by
  refine len_sub (onceL_nodup _) fun x hx=>(onceL_mem l).2 (List.mem_of_mem_take ((onceL_mem _).1 hx))
 refine upto (P:=fun k (s:List (Cl × Bool) × List Cl) v=>zcs.l1 l _ k s.1 s.2 v) l.length (fun i s=>s.2=onceL (l.take i)∧∀x,mget s.1 x false=decide (x∈l.take i)) ?_ ?_ ([],[]) ⟨by simp [onceL],fun x=>by simp [mget]⟩
 ·rintro i ⟨met,out⟩ hi ⟨h1,h2⟩
  simp only at h1 h2
  subst h1
  have htk:l.take (i+1)=l.take i++[l[i]]:=List.take_succ_eq_append_getElem hi
  have hnext:∀x,mget (mput met l[i] true) x false=decide (x∈l.take (i+1)):=fun x=>by
   rw [mget_mput,h2,htk]
   by_cases hx:l[i]=x
   ·rw [if_pos hx]
    exact (decide_eq_true (List.mem_append.2 (.inr (by rw [← hx];exact List.mem_singleton.2 rfl)))).symm
   ·rw [if_neg hx]
    exact decide_eq_decide.2 ⟨fun h=>List.mem_append.2 (.inl h),fun h=>(List.mem_append.1 h).resolve_right fun e=>hx (List.mem_singleton.1 e).symm⟩
  have hp1:=hpre (i+1)
  by_cases hm:l[i]∈l.take i
  ·refine .inr ⟨(mput met l[i] true,onceL (l.take i)),⟨?_,hnext⟩,fun k hk=>⟨fun _=>⟨_,zdj hi,fun h=>?_,fun _=>⟨zk (by omega) (by omega),hk⟩⟩,fun h=>absurd (by omega) (df h)⟩⟩
   ·rw [htk,onceL_snoc,if_pos ((onceL_mem _).2 hm)]
   ·rw [h2,decide_eq_true hm] at h;cases h
  ·have e:onceL (l.take (i+1))=onceL (l.take i)++[l[i]]:=by rw [htk,onceL_snoc,if_neg fun h=>hm ((onceL_mem _).1 h)]
   refine .inr ⟨(mput met l[i] true,onceL (l.take i)++[l[i]]),⟨e.symm,hnext⟩,fun k hk=>⟨fun _=>⟨_,zdj hi,fun _=>⟨?_,zk (by omega) (by omega),hk⟩,fun h=>?_⟩,fun h=>absurd (by omega) (df h)⟩⟩
   ·rw [e] at hp1
    simp only [List.length_append,List.length_cons,List.length_nil] at hp1 ⊢
    omega
   ·rw [h2,decide_eq_false hm] at h;cases h
 ·rintro ⟨met,out⟩ ⟨h1,h2⟩ k
  simp only at h1
  subst h1
  refine ⟨fun h=>absurd (dt h) (by omega),fun _=>?_⟩
  show onceL l=_
  rw [List.take_length]
end Go.Proofs.YtahgmdbioafmbaaGreatDoor.V
namespace Go.Proofs.YtahgmdbioafmbaaGreatDoor.V
open Go
set_option linter.unusedVariables false
theorem sets_Bytes_in {d:List SNode} {l:List (List SItem)} (hl:∀s∈l,Sm d s) (hn:l.length≤2000000000) (hc:(clsL d l).length≤1000000000):sets_Bytes d l (bytS d l):=by
 have ho:=onceL_len (clsL d l)
 exact ⟨_,sets_Classes_in hl hn (by omega),_,sets_Once_in (by omega) (by omega),_,split_Heads_in (by omega),rfl⟩
theorem room_after {d:List SNode} (h:Rt d) (hl:d.length≤24) (ht:Txt d) {w:List Int} (hw:∀c∈w,InR .u8 c) {c:Int} (hc:InR .u8 c) (hp:pas d.length (w.length+1)≤2000000000):Room d c (aftS d w):=by
 refine ⟨fun s hs=>(aftS_sm h hl ht hw hs).1, ?_, ?_⟩
 ·have:=aftS_len h hw
  have:=pas_more d.length w.length
  omega
 ·have hw2:∀b∈w++[c],InR .u8 b:=fun b hb=>(List.mem_append.1 hb).elim (hw b) fun e=>by rw [List.mem_singleton.1 e];exact hc
  obtain ⟨K,k1,k2⟩:=after_cov h fun b hb=>(inR_u8.1 (hw2 b hb)).1
  rw [List.length_append,List.length_singleton] at k1
  refine ⟨K,by omega,fun s hs t hts=>k2 t ?_⟩
  show t∈endsL d (w++[c]) (stS d)
  rw [← aftS_mem,aftS_snoc,onS_mem]
  exact ⟨s,hs,hts⟩
theorem pas_le2 {m k m' k':Nat} (h1:m≤m') (h2:k≤k') {n:Nat} (h:pas m' k'≤n):pas m k≤n:=Nat.le_trans (Nat.le_trans (pas_mono h1 k) (pas_long m' h2)) h
theorem pas_16_17:pas 16 17≤2000000000:=pas_le (by decide +kernel)
theorem sets_After_in {d:List SNode} (h:Rt d) (hl:d.length≤24) (ht:Txt d) {w:List Int} (hw:∀c∈w,InR .u8 c) (hn:w.length≤1000) (hp:pas d.length w.length≤2000000000):zb9 d w (aftS d w):=by
 refine ⟨_,sets_Start_in h.ne (by omega), ?_⟩
 refine upto (P:=fun k l v=>zb9.l1 d w _ k l v) w.length (fun i l=>l=aftS d (w.take i)) ?_ ?_ _ (by rw [List.take_zero,aftS_nil])
 ·rintro i l hi rfl
  have hsn:aftS d (w.take (i+1))=onS d w[i] (aftS d (w.take i)):=by rw [List.take_succ_eq_append_getElem hi,aftS_snoc]
  have hr:=room_after h hl ht (w:=w.take i) (fun c hc=>hw c (List.mem_of_mem_take hc)) (hw _ (List.getElem_mem hi)) (pas_le2 (Nat.le_refl _) (by rw [List.length_take];omega) hp)
  exact .inr ⟨_,rfl,fun k hk=>⟨fun _=>⟨_,zdj hi,_,sets_On_in hr (hw _ (List.getElem_mem hi)),zk (by omega) (by omega),by rw [← hsn];exact hk⟩,fun h=>absurd (by omega) (df h)⟩⟩
 ·rintro l rfl k
  refine ⟨fun h=>absurd (dt h) (by omega),fun _=>?_⟩
  show aftS d w=_
  rw [List.take_length]
theorem ref16_Same_in {a b:List (List SItem)} (ha:∀x∈a,x.length≤1000) (hb:∀x∈b,x.length≤1000) (hl:a.length≤140737488351232):zca a b (decide (a=b)):=by
 by_cases hne:a.length=b.length
 ·refine ⟨fun h=>absurd h (by simp [hne]),fun _=>?_⟩
  refine upto (P:=fun k (_:Unit) v=>zca.l1 a b (decide (a=b)) _ k v) a.length (fun i _=>a.take i=b.take i) ?_ ?_ () (by simp)
  ·intro i _ hi ht
   have hib:i<b.length:=by omega
   have hs:=ref13_Same_in (ha _ (List.getElem_mem hi)) (hb _ (List.getElem_mem hib))
   by_cases hab:a[i]=b[i]
   ·refine .inr ⟨(),by rw [List.take_succ_eq_append_getElem hi,List.take_succ_eq_append_getElem hib,ht,hab],fun k hk=>⟨fun _=>⟨_,zdj hi,_,zdj hib,_,hs,fun h=>?_,fun _=>⟨zk (by omega) (by omega),hk⟩⟩,fun h=>absurd (by omega) (df h)⟩⟩
    rw [hab] at h;simp at h
   ·refine .inl fun k=>⟨fun _=>⟨_,zdj hi,_,zdj hib,_,hs,fun _=>?_,fun h=>?_⟩,fun h=>absurd (by omega) (df h)⟩
    ·simp only [decide_eq_false_iff_not]
     intro e
     subst e;exact hab rfl
    ·simp at h;exact absurd h hab
  ·intro _ ht k
   refine ⟨fun h=>absurd (dt h) (by omega),fun _=>?_⟩
   show decide (a=b)=true
   rw [List.take_length,hne,List.take_length] at ht
   simp [ht]
 ·refine ⟨fun _=>?_,fun h=>absurd (Int.ofNat.inj (by simpa using h)) hne⟩
  simp only [decide_eq_false_iff_not]
  intro e
  subst e;exact hne rfl
structure Fs (d:List SNode) (l:List (List SItem)):Prop where
 sm:∀s∈l,Sm d s∧s.length≤8
 srt:Rs l
 len:l.length≤6
def stepK (d:List SNode) (c:Int) (s:List SItem):List (List SItem):=(setOf (hds d s)).filterMap fun t=>if (readF d t c).2=true then some (readF d t c).1 else none
theorem stepK_len {d:List SNode} {s:List SItem} (h:Sm d s) (c:Int):(stepK d c s).length≤10001:=by
 have h1:=heads_few h (canB_can d s)
 unfold canB at h1
 rw [List.length_map] at h1
 exact Nat.le_trans (List.length_filterMap_le _ _) h1
theorem stepK_mem {d:List SNode} {c:Int} {s t:List SItem} (h:t∈stepL d c s):t∈stepK d c s:=by
 unfold stepL at h
 obtain ⟨u,h1,h2⟩:=List.mem_filterMap.1 h
 exact List.mem_filterMap.2 ⟨u,zdm.2 h1,h2⟩
theorem flatS_len (f:List SItem→List (List SItem)) (m:Nat):∀l:List (List SItem),(∀s∈l,(f s).length≤m)→(l.flatMap f).length≤m*l.length
 | [],_=>by simp
 | s::l,h=>by
  have h1:=h s (by simp)
  have h2:=flatS_len f m l fun u hu=>h u (by simp [hu])
  rw [List.flatMap_cons,List.length_append,List.length_cons,Nat.mul_add]
  omega
theorem room_few {d:List SNode} {l:List (List SItem)} (h:∀s∈l,Sm d s) (hl:l.length≤100000) (c:Int):Room d c l:=by
 refine ⟨h,by omega,l.flatMap (stepK d c), ?_,fun s hs t ht=>List.mem_flatMap.2 ⟨s,hs,stepK_mem ht⟩⟩
 have:=flatS_len (stepK d c) 10001 l fun s hs=>stepK_len (h s hs) c
 omega
theorem cls_few {d:List SNode} {l:List (List SItem)} (h:∀s∈l,Sm d s) (hl:l.length≤300):(clsL d l).length≤1000000000:=by
 have:∀l:List (List SItem),(∀s∈l,Sm d s)→(clsL d l).length≤256*10001*l.length:=by
  intro l
  induction l with
  | nil=>intro _;simp [clsL]
  | cons s l ih=>
   intro h
   have h1:=(clsA_in (h s (by simp))).2.2
   have h2:=ih fun u hu=>h u (by simp [hu])
   have e:clsL d (s::l)=clsA d s++clsL d l:=by simp [clsL]
   rw [e,List.length_append,List.length_cons,Nat.mul_add]
   omega
 have:=this l h
 omega
def fitB (d:List SNode) (s:List SItem):Bool:=(decide ((d.length:Int)≤24)&&decide ((s.length:Int)≤8))&&formS d s
theorem fits16 {d:List SNode} {s:List SItem}:ref14_Fits d s (fitB d s):=by
 refine ⟨_,rfl,formS d s,fun h=>?_,rfl⟩
 simp only [Bool.and_eq_true,decide_eq_true_eq] at h
 exact ref13_Form_in (by omega)
theorem rs_chain {l:List (List SItem)} (h:∀i,0<i→∀(hi:i<l.length),cmpS (l[i-1]'(by omega)) l[i] < 0):Rs l:=by
 unfold Rs
 rw [List.pairwise_iff_getElem]
 intro i j hi hj hij
 obtain ⟨n,rfl⟩:∃n,j=i+1+n:=⟨j-i-1,by omega⟩
 clear hij
 induction n with
 | zero=>exact h (i+1) (by omega) hj
 | succ n ih=>exact cmpS_trans (ih (by omega)) (h (i+1+(n+1)) (by omega) hj)
theorem ref16_Form_ex {d:List SNode} {l:List (List SItem)} (hR:Rt d) (ht:Txt d) (hl:l.length≤140737488351232):∃r,zb5 d l r∧(r=true→Fs d l∧d.length≤24):=by
 have hfl:∀s,fitB d s=true→s.length≤8:=fun s h=>by
  unfold fitB at h
  simp only [Bool.and_eq_true,decide_eq_true_eq] at h
  omega
 let bad:Nat→Prop:=fun i=>∃(h:i<l.length),fitB d l[i]=false∨(0<i∧¬ cmpS (l[i-1]'(by omega)) l[i] < 0)
 rcases Classical.em (∃i,bad i) with hb | hb
 ·refine ⟨false, ?_,(fun h=>by cases h)⟩
  refine upto (P:=fun k (_:Unit) v=>zb5.l1 d l false _ k v) l.length (fun i _=>∀j,j<i→¬ bad j) ?_ ?_ () (by intro j hj;omega)
  ·intro i _ hi hI
   by_cases hbi:bad i
   ·refine .inl fun k=>⟨fun _=>⟨_,zdj hi,_,fits16,fun _=>zk (by omega) (by omega), ?_⟩,fun h=>absurd (by omega) (df h)⟩
    cases hf:fitB d l[i]
    ·exact ⟨default,(fun h=>by simp at h),default,(fun h=>by simp at h),0,(fun h=>by simp at h),_,rfl,fun _=>rfl,(fun h=>by simp at h)⟩
    ·obtain ⟨_,h | ⟨h0,h⟩⟩:=hbi
     ·rw [hf] at h;cases h
     have hp:=hI (i-1) (by omega)
     have hfp:fitB d (l[i-1]'(by omega))=true:=by
      cases hq:fitB d (l[i-1]'(by omega))
      ·exact absurd ⟨by omega,.inl hq⟩ hp
      ·rfl
     refine ⟨l[i-1]'(by omega),fun _=>by rw [show (i:Int)-1=((i-1:Nat):Int) by omega];exact zdj (by omega),l[i],fun _=>zdj hi,_,fun _=>zdf (by have:=hfl _ hfp;omega) (by have:=hfl _ hf;omega),_,rfl,fun _=>rfl,fun hh=>?_⟩
     exfalso
     simp only [Bool.not_true,Bool.false_or,Bool.and_eq_false_iff,decide_eq_false_iff_not] at hh
     omega
   ·refine .inr ⟨(),fun j hj=>?_,fun k hk=>⟨fun _=>⟨_,zdj hi,_,fits16,fun _=>zk (by omega) (by omega), ?_⟩,fun h=>absurd (by omega) (df h)⟩⟩
    ·by_cases hji:j=i
     ·subst hji;exact hbi
     ·exact hI j (by omega)
    have hf:fitB d l[i]=true:=by
     cases hq:fitB d l[i]
     ·exact absurd ⟨hi,.inl hq⟩ hbi
     ·rfl
    by_cases h0:0<i
    ·have hc:cmpS (l[i-1]'(by omega)) l[i] < 0:=Classical.byContradiction fun hc=>hbi ⟨hi,.inr ⟨h0,hc⟩⟩
     have hfp:fitB d (l[i-1]'(by omega))=true:=by
      cases hq:fitB d (l[i-1]'(by omega))
      ·exact absurd ⟨by omega,.inl hq⟩ (hI (i-1) (by omega))
      ·rfl
     refine ⟨l[i-1]'(by omega),fun _=>by rw [show (i:Int)-1=((i-1:Nat):Int) by omega];exact zdj (by omega),l[i],fun _=>zdj hi,_,fun _=>zdf (by have:=hfl _ hfp;omega) (by have:=hfl _ hf;omega),_,rfl,fun _=>rfl,fun _=>⟨zk (by omega) (by omega),hk⟩⟩
    ·have:i=0:=by omega
     subst this
     refine ⟨default,(fun h=>by simp at h),default,(fun h=>by simp at h),0,(fun h=>by simp at h),_,rfl,fun _=>rfl,fun _=>⟨zk (by omega) (by omega),hk⟩⟩
  ·intro _ hI k
   obtain ⟨i,hbi⟩:=hb
   exact absurd hbi (hI i hbi.1)
 ·have hall:∀i (hi:i<l.length),fitB d l[i]=true∧(0<i→cmpS (l[i-1]'(by omega)) l[i] < 0):=fun i hi=>by
   refine ⟨?_,fun h0=>Classical.byContradiction fun hc=>hb ⟨i,hi,.inr ⟨h0,hc⟩⟩⟩
   cases hq:fitB d l[i]
   ·exact absurd ⟨i,hi,.inl hq⟩ hb
   ·rfl
  refine ⟨((decide ((l.length:Int)≤6))&&(decide ((d.length:Int)≤24))), ?_,fun h=>?_⟩
  rotate_left
  ·simp only [Bool.and_eq_true,decide_eq_true_eq] at h
   refine ⟨⟨fun s hs=>?_,rs_chain fun i h0 hi=>(hall i hi).2 h0,by omega⟩,by omega⟩
   obtain ⟨i,hi,rfl⟩:=List.mem_iff_getElem.1 hs
   have hf:=(hall i hi).1
   unfold fitB at hf
   simp only [Bool.and_eq_true,decide_eq_true_eq] at hf
   exact ⟨⟨hR,by omega,ht,hf.2,by omega⟩,by omega⟩
  ·refine upto (P:=fun k (_:Unit) v=>zb5.l1 d l _ _ k v) l.length (fun i _=>True) ?_ ?_ () trivial
   ·intro i _ hi _
    refine .inr ⟨(),trivial,fun k hk=>⟨fun _=>⟨_,zdj hi,_,fits16,fun _=>zk (by omega) (by omega), ?_⟩,fun h=>absurd (by omega) (df h)⟩⟩
    obtain ⟨hf,hc⟩:=hall i hi
    by_cases h0:0<i
    ·have hfp:=(hall (i-1) (by omega)).1
     have hc:=hc h0
     refine ⟨l[i-1]'(by omega),fun _=>by rw [show (i:Int)-1=((i-1:Nat):Int) by omega];exact zdj (by omega),l[i],fun _=>zdj hi,_,fun _=>zdf (by have:=hfl _ hfp;omega) (by have:=hfl _ hf;omega),_,rfl,fun hh=>?_,fun _=>⟨zk (by omega) (by omega),hk⟩⟩
     exfalso
     rw [hf] at hh
     simp only [Bool.not_true,Bool.false_or,Bool.and_eq_true,decide_eq_true_eq] at hh
     omega
    ·have:i=0:=by omega
     subst this
     refine ⟨default,(fun h=>by simp at h),default,(fun h=>by simp at h),0,(fun h=>by simp at h),_,rfl,fun hh=>?_,fun _=>⟨zk (by omega) (by omega),hk⟩⟩
     exfalso
     rw [hf] at hh
     simp at hh
   ·intro _ _ k
    exact ⟨fun h=>absurd (dt h) (by omega),fun _=>⟨_,rfl,rfl⟩⟩
end Go.Proofs.YtahgmdbioafmbaaGreatDoor.V
namespace Go.Proofs.YtahgmdbioafmbaaGreatDoor.V
open Go
set_option linter.unusedVariables false
def d6:List SNode:=wrapD 6 d5
theorem d6_rt:Rt d6:=wrap_rt d5_rt (.inl rfl) fun _=>by decide +kernel
theorem d6_txt:Txt d6:=small_txt (by decide +kernel)
theorem d5_txt:Txt d5:=small_txt (by decide +kernel)
theorem d6_sm {s:List SItem} (hf:formS d6 s=true) (hs:s.length≤40):Sm d6 s:=⟨d6_rt,by decide +kernel,d6_txt,hf,by omega⟩
theorem heads_nil:heads ([]:List Cl)=[0]:=by decide +kernel
theorem bytC_nil:bytC []=[0]:=by rw [bytC_eq,heads_nil];rfl
theorem bytS_nil (d:List SNode):bytS d []=[0]:=bytC_nil
theorem sets_Key_in {l:List (List SItem)} (h1:l.length≤1000000000) (h2:∀s∈l,s.length≤1000):sets_Key l (keyL l):=⟨h1,h2,rfl⟩
theorem awake16:law16_awake true:=by
 have u8:∀c:Int,0≤c∧c≤255→InR .u8 c:=fun c h=>inR_u8.2 h
 have sm:∀s∈[stS d6],Sm d6 s:=fun s hs=>by
  rw [List.mem_singleton.1 hs];exact d6_sm (by decide +kernel) (by decide)
 have smN:∀s∈([]:List (List SItem)),Sm d6 s:=fun s hs=>by cases hs
 have sm5:∀s∈[stS d5],Sm d5 s:=fun s hs=>by
  rw [List.mem_singleton.1 hs];exact d5_sm (by decide +kernel) (by decide)
 have sm5e:∀s∈[([]:List SItem)],Sm d5 s:=fun s hs=>by
  rw [List.mem_singleton.1 hs];exact d5_sm rfl (by decide)
 have o1:zbp d6 [stS d6] 5 [stS d6]:=by
  have:=sets_On_in (room_few sm (by decide) 5) (u8 5 (by decide))
  rwa [show onS d6 5 [stS d6]=[stS d6] by decide +kernel] at this
 have o2:zbp d6 [stS d6] 7 []:=by
  have:=sets_On_in (room_few sm (by decide) 7) (u8 7 (by decide))
  rwa [show onS d6 7 [stS d6]=[] by decide +kernel] at this
 have e1:zc7 d6 [stS d6] true:=by
  have:=zd1 sm (by decide)
  rwa [show endS d6 [stS d6]=true by decide +kernel] at this
 have e2:zc7 d6 [] false:=zd1 smN (by decide)
 have e3:zc7 d5 [stS d5] false:=by
  have:=zd1 sm5 (by decide)
  rwa [show endS d5 [stS d5]=false by decide +kernel] at this
 have a1:zb9 d5 [6] [[]]:=by
  have:=sets_After_in d5_rt (by decide) d5_txt (w:=[6]) (fun c hc=>by rw [List.mem_singleton.1 hc];exact u8 6 (by decide)) (by decide) (pas_le2 (m':=16) (k':=17) (by decide) (by decide) pas_16_17)
  rwa [show aftS d5 [6]=[[]] by decide +kernel] at this
 have e4:zc7 d5 [[]] true:=by
  have:=zd1 sm5e (by decide)
  rwa [show endS d5 [[]]=true by decide +kernel] at this
 have b1:sets_Bytes d6 [stS d6] [0,5]:=by
  have:=sets_Bytes_in sm (by decide) (cls_few sm (by decide))
  have e:bytS d6 [stS d6]=[0,5]:=by
   unfold bytS
   rw [bytC_eq,show clsL d6 [stS d6]=[Cl.row 5 6] by decide +kernel,show heads [Cl.row 5 6]=[0,5] by decide +kernel];rfl
  rwa [e] at this
 have b2:sets_Bytes d6 [] [0]:=by
  have:=sets_Bytes_in smN (by decide) (cls_few smN (by decide))
  rwa [bytS_nil] at this
 have k1:sets_Key [stS d6] (keyL [stS d6]):=sets_Key_in (by decide) (by decide)
 have k2:sets_Key [] (keyL []):=sets_Key_in (by decide) (by decide)
 refine ⟨Cl.row 5 6,ref01_Row_in (u8 5 (by decide)) (u8 6 (by decide)),d6,Wrap_in d5_rt.tr (by decide),[stS d6],sets_Start_in d6_rt.ne (by decide +kernel),_,o1,_,o2,_,rfl,(fun h=>by simp at h),fun _=>⟨_,ref16_Same_in (by decide) (by decide) (by decide),_,fun _=>e1,_,fun _=>e2,_,rfl,_,fun _=>sets_Start_in d5_rt.ne (by decide),_,fun _=>e3,_,fun _=>a1,_,fun _=>e4,_,fun _=>b1,_,fun _=>ref02_Bytes_in (by decide),_,fun _=>b2,_,fun _=>ref02_Bytes_in (by decide),_,fun _=>k1,_,fun _=>k1,_,rfl,_,fun _=>k1,_,fun _=>k2, ?_⟩⟩
 simp [keyL]
theorem onS_short {d:List SNode} {c:Int} {l:List (List SItem)} (hl:∀s∈l,Sm d s) (hc:InR .u8 c):∀t∈onS d c l,t.length≤1000:=fun t ht=>by
 obtain ⟨s,h1,h2⟩:=onS_mem.1 ht
 exact step_short (hl s h1) hc h2
theorem Room.out {d:List SNode} {c:Int} {l:List (List SItem)} (h:Room d c l):(onS d c l).length≤2000000000:=by
 obtain ⟨K,k1,k2⟩:=h.cov
 refine Nat.le_trans (setOf_len fun t ht=>?_) k1
 obtain ⟨s,h1,h2⟩:=List.mem_flatMap.1 ht
 exact k2 s h1 t h2
theorem form_guard {d:List SNode} {l:List (List SItem)} (ht:Txt d) (hl:l.length≤140737488351232) {r6 r8:Bool} (h:r6=true→r8=true→Rt d):∃r,((r6&&r8)=true→zb5 d l r)∧((r6&&r8)=true→r=true→Fs d l∧d.length≤24):=by
 cases hb:(r6&&r8)
 ·exact ⟨false,(fun h=>by cases h),(fun h=>by cases h)⟩
 ·rw [Bool.and_eq_true] at hb
  obtain ⟨r,h1,h2⟩:=ref16_Form_ex (l:=l) (h hb.1 hb.2) ht hl
  exact ⟨r,fun _=>h1,fun _=>h2⟩
theorem law16_SetsParts_true {d:List SNode} {l:List (List SItem)} {c:Int} (ht:Txt d) (hl:l.length≤140737488351232) (hc:InR .u8 c):zm d l c true:=by
 obtain ⟨r6,r8,h6,h6b,h8,h8b⟩:=guard15 ht
 obtain ⟨r10,h10,h10b⟩:=form_guard (l:=l) ht hl h8b
 refine ⟨true,awake16,r6,fun _=>h6,r8,fun h=>h8 (by simpa using h),r10,fun h=>h10 (by simpa using h),fun _=>⟨true,awake16,rfl⟩,fun hb=>?_⟩
 simp only [Bool.not_true,Bool.false_or,Bool.or_eq_false_iff,Bool.not_eq_false'] at hb
 obtain ⟨⟨g1,g2⟩,g3⟩:=hb
 have hR:=h8b g1 g2
 obtain ⟨hF,hd⟩:=h10b (by simp [g1,g2]) g3
 have hsm:∀s∈l,Sm d s:=fun s hs=>(hF.sm s hs).1
 have hll:=hF.len
 have hon:=onS_short hsm hc
 have hr:=room_few hsm (by omega) c
 have hout:=hr.out
 have sm1:∀s∈l,∀u∈[s],Sm d u:=fun s hs u hu=>by rw [List.mem_singleton.1 hu];exact hsm s hs
 have one_len:∀s∈l,(onS d c [s]).length≤10001:=fun s hs=>by
  refine Nat.le_trans (setOf_len (K:=stepK d c s) fun t hts=>?_) (stepK_len (hsm s hs) c)
  rw [List.flatMap_cons,List.flatMap_nil,List.append_nil] at hts
  exact stepK_mem hts
 have tk_len:∀i,((l.take i).flatMap fun s=>onS d c [s]).length≤10001*6:=fun i=>by
  have h1:=flatS_len (fun s=>onS d c [s]) 10001 (l.take i) fun s hs=>one_len s (List.mem_of_mem_take hs)
  have:(l.take i).length≤6:=by rw [List.length_take];omega
  omega
 refine ⟨_,sets_On_in hr hc, ?_⟩
 refine uptoK (P:=fun k (s:Bool × Int) v=>zm.l1 d l c (onS d c l) true _ k s.1 s.2 v) l.length (fun i s=>s.1=endS d (l.take i)∧s.2=(((l.take i).flatMap fun s=>onS d c [s]).length:Int)) ?_ ?_ (false,0) ⟨by simp [endS],by simp⟩
 ·rintro i ⟨e,m⟩ k hi ⟨h1,h2⟩ hk
  simp only at h1 h2
  subst h1 h2
  have hmem:=List.getElem_mem hi
  have htk:l.take (i+1)=l.take i++[l[i]]:=List.take_succ_eq_append_getElem hi
  have hsuml:(((l.take i).flatMap fun s=>onS d c [s]).length:Int)+((onS d c [l[i]]).length:Int)=(((l.take (i+1)).flatMap fun s=>onS d c [s]).length:Int):=by
   rw [htk,List.flatMap_append];simp
  have hb1:=tk_len (i+1)
  refine ⟨fun _=>⟨_,zdj hi,_,fun _=>zd1 (sm1 _ hmem) (by simp),_,sets_On_in (room_few (sm1 _ hmem) (by simp) c) hc,zk (by omega) (by omega), ?_⟩,fun h=>absurd (by omega) (df h)⟩
  have honm:=onS_short (sm1 _ hmem) hc
  have hone:=one_len _ hmem
  refine uptoK (P:=fun k2 (_:Unit) v=>zm.l2 (onS d c l) (onS d c [l[i]]) true _ k2 v) (onS d c [l[i]]).length (fun _ _=>True) ?_ ?_ () trivial
  ·intro j _ k2 hj _ hk2
   refine ⟨fun _=>?_,fun h=>absurd (by omega) (df h)⟩
   refine upto (P:=fun k3 f v=>zm.l3 (onS d c l) (onS d c [l[i]]) (j:Int) _ k3 f v) (onS d c l).length (fun p f=>f=true↔(onS d c [l[i]])[j]∈(onS d c l).take p) ?_ ?_ false (by simp)
   ·intro p f hp hI
    have hs:=ref16_Same_in (a:=[(onS d c [l[i]])[j]]) (b:=[(onS d c l)[p]]) (fun x hx=>by rw [List.mem_singleton.1 hx];exact honm _ (List.getElem_mem hj)) (fun x hx=>by rw [List.mem_singleton.1 hx];exact hon _ (List.getElem_mem hp)) (by simp)
    refine .inr ⟨_, ?_,fun k3 hk3=>⟨fun _=>⟨_,fun _=>zdj hj,_,fun _=>zdj hp,_,fun _=>hs,zk (by omega) (by omega),hk3⟩,fun h=>absurd (by omega) (df h)⟩⟩
    rw [Bool.or_eq_true,hI,List.take_succ_eq_append_getElem hp,List.mem_append,List.mem_singleton,decide_eq_true_iff]
    simp
   ·intro f hI k3
    refine ⟨fun h=>absurd (dt h) (by omega),fun _=>?_⟩
    rw [List.take_length] at hI
    have hf:f=true:=hI.2 (by
     obtain ⟨s,h1,h2⟩:=onS_mem.1 (List.getElem_mem hj)
     rw [List.mem_singleton] at h1
     subst h1
     exact onS_mem.2 ⟨_,hmem,h2⟩)
    subst hf
    exact ⟨(fun h=>by cases h),fun _=>⟨zk (by omega) (by omega),hk2 () trivial⟩⟩
  ·intro _ _ k2
   refine ⟨fun h=>absurd (dt h) (by omega),fun _=>⟨zk (by omega) (by omega),hk (_,_) ⟨?_,hsuml⟩⟩⟩
   rw [htk]
   show (endS d (l.take i)||endS d [l[i]])=_
   unfold endS
   rw [List.any_append]
 ·rintro ⟨e,m⟩ ⟨h1,h2⟩ k
  simp only at h1 h2
  subst h1 h2
  refine ⟨fun h=>absurd (dt h) (by omega),fun _=>?_⟩
  rw [List.take_length]
  have hsub:∀t,t∈onS d c l↔t∈l.flatMap fun s=>onS d c [s]:=fun t=>by
   rw [onS_mem,List.mem_flatMap]
   exact ⟨fun ⟨s,a,b⟩=>⟨s,a,onS_mem.2 ⟨s,List.mem_singleton.2 rfl,b⟩⟩,fun ⟨s,a,b⟩=>by
    obtain ⟨u,hu,hb⟩:=onS_mem.1 b
    rw [List.mem_singleton] at hu
    subst hu
    exact ⟨_,a,hb⟩⟩
  have hle:(onS d c l).length≤(l.flatMap fun s=>onS d c [s]).length:=len_sub (rs_nodup (zd7 _)) fun t h=>(hsub t).1 h
  have hpos:0<(l.flatMap fun s=>onS d c [s]).length→0<(onS d c l).length:=fun h=>by
   obtain ⟨t,h⟩:=List.exists_mem_of_length_pos h
   exact List.length_pos_of_mem ((hsub t).2 h)
  refine ⟨_,zd1 hsm (by omega),_,rfl,_,rfl, ?_⟩
  rw [decide_eq_true (show (((onS d c l).length:Int)≤((l.flatMap fun s=>onS d c [s]).length:Int)) by omega)]
  have:decide (0<((onS d c l).length:Int))=decide (0<((l.flatMap fun s=>onS d c [s]).length:Int)):=decide_eq_decide.2 ⟨fun h=>by omega,fun h=>by have:=hpos (by omega);omega⟩
  rw [this];simp
end Go.Proofs.YtahgmdbioafmbaaGreatDoor.V
namespace Go.Proofs.YtahgmdbioafmbaaGreatDoor.V
open Go Go.ChangeShapes Go.WideShapes Go.RowKit
set_option linter.unusedVariables false
structure Rd (P:Program) (t:TypeId) {α:Type} (E:En α) (G:α→Prop):Prop where
 sz:P.cellsOf t=E.sz
 rd:∀{H:Type} (enc:TypeId × Value→H) (w:World) (fuel:Nat) (cs:List Value) (x:DataW H × List MemPlace),
  DataW.trod enc P w 0 (fun _=>true) true fuel t cs=some x→(∀n∈x.1.weights P t,n≤reachBytes)→∃y,E.R w (fun b=>b<w.heap.size) cs y∧G y
 vl:∀(w:World) (v:Value),Value.okWide P w .any 0 t v→(∃y,E.R w (fun b=>b<w.heap.size) v.cells.toList y)→v=E.val v.cells.toList
theorem Rd.int {P:Program} {t:TypeId} {k:IntKind} (ht:P.underlying t=some (.int k)) (hc:P.cellsOf t=1):Rd P t (En.int k) (InR k):=by
 refine ⟨hc, ?_, ?_⟩
 ·intro H enc w fuel cs x h _
  obtain ⟨n,rfl,_,hw⟩:=DataW.trod_int ht h
  have:InR k n:=by simpa [Lit.wf,InR] using hw
  exact ⟨n,⟨rfl,this⟩,this⟩
 ·intro w v hv _
  obtain ⟨n,rfl⟩:=okWide_int ht hv
  rfl
theorem Rd.str {P:Program} {t:TypeId} (ht:P.underlying t=some .string) (hc:P.cellsOf t=1):Rd P t En.str (fun y=>y.length≤140737488351232):=by
 refine ⟨hc, ?_, ?_⟩
 ·intro H enc w fuel cs x h hwt
  obtain ⟨s,rfl,hx,hs⟩:=DataW.trod_string ht h
  have hl:s.data.toList.length≤9223372036854775807:=by simpa [maxLen] using hs
  have h2:s.data.toList.length≤140737488351232:=hwt _ (by rw [hx];simp [DataW.weights])
  exact ⟨s.data.toList,⟨rfl,hl⟩,h2⟩
 ·intro w v hv _
  simp only [Value.okWide,ht,Cell.okWide,Cell.ok] at hv
  cases v <;> simp at hv
  rfl
theorem weights_all {H:Type} {P:Program} {e:TypeId}:∀{l:List (DataW H)} {d:DataW H},d∈l→∀n∈d.weights P e,n∈DataW.weightsAll P e l
 | [],_,h,_,_=>by cases h
 | d'::l,d,h,n,hn=>by
  simp only [DataW.weightsAll,List.mem_append]
  rcases List.mem_cons.1 h with rfl | h
  ·exact .inl hn
  ·exact .inr (weights_all h n hn)
theorem Rd.slice {P:Program} {t e:TypeId} {α:Type} {E:En α} {G:α→Prop} (ht:P.underlying t=some (.slice e)) (hc:P.cellsOf t=1) (hby:Nat.blt 0 (P.bytesOf e)=true) (he:Rd P e E G):
  Rd P t (En.slice E) (fun xs=>xs.length≤140737488351232∧∀y∈xs,G y):=by
 refine ⟨hc, ?_, ?_⟩
 ·intro H enc w fuel cs x h hwt
  rcases Deep.open_slice ht h with ⟨rfl,_⟩ | ⟨a,len,cap,m,n,D,Pl,rfl,hb,hl,hm,hmm,hxe,hx⟩
  ·exact ⟨[],⟨_,rfl,slV_nil E _ _⟩,Nat.zero_le _,by simp⟩
  ·simp only [if_true] at hmm
   subst hmm
   have hall:∀i,i<len→∃p:α × List Value,w.cells? 0 (a.add (i*P.cellsOf e)) (P.cellsOf e)=some p.2∧E.R w (fun b=>b<w.heap.size) p.2 p.1∧G p.1:=fun i hi=>by
    obtain ⟨cs',h1,h2⟩:=hx i (by omega)
    obtain ⟨y,h3,h4⟩:=he.rd enc w n cs' _ h2 fun q hq=>hwt q (by
     rw [hxe]
     simp only [DataW.weights,ht,List.mem_cons,List.mem_append]
     exact .inr (.inl (weights_all (List.mem_map.2 ⟨i,by simpa using hi,rfl⟩) q hq)))
    exact ⟨(y,cs'),h1,h3,h4⟩
   have hmax2:len≤140737488351232:=by
    have h1:=hwt ((len+(m-len))*P.bytesOf e) (by rw [hxe];simp [DataW.weights,ht])
    have h2:0<P.bytesOf e:=Nat.le_of_ble_eq_true hby
    have h3:(len+(m-len))*1≤(len+(m-len))*P.bytesOf e:=Nat.mul_le_mul_left _ h2
    have h4:reachBytes=140737488351232:=rfl
    omega
   have hmax:len≤lim:=by have:maxLen≤lim:=by decide
                         omega
   by_cases h0:len=0
   ·subst h0
    exact ⟨[],⟨_,rfl,some a,m,rfl,Nat.zero_le _,(fun h=>by cases h),Nat.zero_le _,fun h=>absurd rfl h⟩,Nat.zero_le _,by simp⟩
   have hinh:Inhabited (α × List Value):=⟨(hall 0 (by omega)).choose⟩
   obtain ⟨f,hf⟩:=Deep.choose_lt hall
   have hsz:=E.pos
   rw [← he.sz] at hsz
   obtain ⟨hcell0,hblk⟩:a.spot=none∧a.block<w.heap.size:=by
    obtain ⟨_,hl2,hcl⟩:=World.cells?_some (hf 0 (by omega)).1
    have h2:=hcl 0 hsz
    rw [List.getElem?_eq_getElem (by omega)] at h2
    simp only [Nat.zero_mul,Addr.add,if_true,World.cell?] at h2
    cases hb2:w.heap[a.block]? with
    | none=>simp [hb2] at h2
    | some o=>
     refine ⟨?_,(Array.getElem?_eq_some_iff.1 hb2).1⟩
     cases o <;> simp [hb2] at h2
     exact h2.1
   refine ⟨(List.range len).map (fun i=>(f i).1),⟨_,rfl,some a,m, ?_,by simpa using hl,(fun h=>by cases h),by simpa using hmax,fun _=>⟨a.block,a.off,(List.range len).map (fun i=>(f i).2), ?_,hblk,⟨by simp, ?_⟩, ?_⟩⟩,by simpa using hmax2, ?_⟩
   ·simp
   ·cases a;simp at hcell0;subst hcell0;rfl
   ·intro i c y hc1 hy1
    have hi:i<len:=by have:=(List.getElem?_eq_some_iff.1 hc1).1;simpa using this
    simp [hi] at hc1 hy1
    subst hc1;subst hy1
    exact (hf i hi).2.1
   ·have hlens:∀c∈(List.range len).map (fun i=>(f i).2),c.length=E.sz:=by
     intro c hc
     simp only [List.mem_map,List.mem_range] at hc
     obtain ⟨i,hi,rfl⟩:=hc
     rw [(World.cells?_some (hf i hi).1).2.1,he.sz]
    intro j u hj
    have hjl:j<len*E.sz:=by
     have:=(List.getElem?_eq_some_iff.1 hj).1
     rw [flat_len hlens] at this;simpa using this
    have hp:0<E.sz:=E.pos
    have hi:j / E.sz<len:=Nat.div_lt_of_lt_mul (by rw [Nat.mul_comm];exact hjl)
    have hk:j % E.sz<E.sz:=Nat.mod_lt _ hp
    obtain ⟨_,hl2,hcl⟩:=World.cells?_some (hf _ hi).1
    have hcell:=hcl (j % E.sz) (by rw [he.sz];exact hk)
    rw [he.sz] at hl2
    have hg:=flat_get hlens (i:=j / E.sz) (cs:=(f (j / E.sz)).2) (j:=j % E.sz) (u:=(f (j / E.sz)).2[j % E.sz]'(by omega)) (by simp [hi]) (by simp)
    rw [Nat.mul_comm,Nat.div_add_mod] at hg
    rw [hg] at hj
    rw [List.getElem?_eq_getElem (by omega),hj,Deep.add_add,he.sz,Nat.mul_comm,Nat.div_add_mod] at hcell
    rw [← hcell]
    cases a;simp at hcell0;subst hcell0;rw [zdv]
   ·intro y hy
    simp only [List.mem_map,List.mem_range] at hy
    obtain ⟨i,hi,rfl⟩:=hy
    exact (hf i hi).2.2
 ·intro w v hv _
  simp only [Value.okWide,ht,Cell.okWide,Cell.ok] at hv
  cases v <;> simp at hv
  rfl
theorem u64_word {n:Int} (h:InR .u64 n):∃m:Nat,m<2 ^ 64∧n=m:=by
 simp [InR,IntKind.min,IntKind.max,IntKind.signed,IntKind.bits] at h
 exact ⟨n.toNat,by omega,by omega⟩
theorem Rd.cls {P:Program} {t e:TypeId} (ht:P.underlying t=some (.array 4 e)) (hc:P.cellsOf t=4) (he:P.underlying e=some (.int .u64)) (hce:P.cellsOf e=1):Rd P t En.cls (fun _=>True):=by
 refine ⟨hc, ?_, ?_⟩
 ·intro H enc w fuel cs x h _
  obtain ⟨xs,m,rfl,rfl,hlen,hn,hx⟩:=DataW.trod_array ht h
  rw [hc] at hlen
  match cs,hlen with
  | [u0,u1,u2,u3],_=>
   have hx':∀i (hi:i<4) u,[u0,u1,u2,u3][i]?=some u→∃q:Nat,q<2 ^ 64∧u = .int .u64 q:=by
    intro i hi u hu
    have h1:=hx i hi
    rw [hce,Nat.mul_one,List.getElem?_eq_getElem (by omega)] at h1
    have h2:List.take 1 (List.drop i [u0,u1,u2,u3])=[u]:=by
     match i,hi with
     | 0,_ | 1,_ | 2,_ | 3,_=>simp at hu;subst hu;rfl
    rw [h2] at h1
    obtain ⟨n,h3,_,h4⟩:=DataW.trod_int he h1
    obtain ⟨q,hq,rfl⟩:=u64_word (n:=n) (by simpa [Lit.wf,InR] using h4)
    simp at h3
    exact ⟨q,hq,h3⟩
   obtain ⟨q0,h0,rfl⟩:=hx' 0 (by omega) u0 rfl
   obtain ⟨q1,h1,rfl⟩:=hx' 1 (by omega) u1 rfl
   obtain ⟨q2,h2,rfl⟩:=hx' 2 (by omega) u2 rfl
   obtain ⟨q3,h3,rfl⟩:=hx' 3 (by omega) u3 rfl
   refine ⟨Cl.ofWords q0 q1 q2 q3, ?_,trivial⟩
   obtain ⟨e0,e1,e2,e3⟩:=Cl.ofWords_word h0 h1 h2 h3
   show _=zbo _
   unfold zbo
   rw [e0,e1,e2,e3]
 ·intro w v hv _
  simp only [Value.okWide,ht] at hv
  obtain ⟨cs,rfl,_⟩:=hv
  simp [En.val,En.cls,Value.cells]
structure RdF (P:Program) (fs:List Field) (o:Nat) {α:Type} (E:En α) (G:α→Prop):Prop where
 rd:∀{H:Type} (enc:TypeId × Value→H) (w:World) (fuel:Nat) (cs:List Value) (xs:List (DataW H × List MemPlace)),xs.length=fs.length →
  (∀(i:Nat) (f:Field),fs[i]?=some f→DataW.trod enc P w 0 (fun _=>true) true fuel f.type ((cs.drop f.offset).take (P.cellsOf f.type))=xs[i]?) →
  (∀n∈DataW.weightsEach P (fs.map (·.type)) (xs.map (·.1)),n≤reachBytes)→∃y,E.R w (fun b=>b<w.heap.size) ((cs.drop o).take E.sz) y∧G y
theorem RdF.last {P:Program} {f:Field} {o:Nat} {α:Type} {E:En α} {G:α→Prop} (h:Rd P f.type E G) (ho:f.offset=o):RdF P [f] o E G:=⟨by
 intro H enc w fuel cs xs hl hx hw
 obtain ⟨x,rfl⟩:∃x,xs=[x]:=List.length_eq_one_iff.1 hl
 have h1:=hx 0 f rfl
 rw [ho,h.sz] at h1
 exact h.rd enc w fuel _ x h1 fun n hn=>hw n (by simp [DataW.weightsEach,hn])⟩
theorem RdF.solo {P:Program} {fs:List Field} {o:Nat} {α:Type} {E:En α} {G:α→Prop} (h:RdF P fs o E G):RdF P fs o E.solo G:=⟨h.rd⟩
theorem take_add_split {xs:List Value} {o m n:Nat}:(xs.drop o).take (m+n)=(xs.drop o).take m++(xs.drop (o+m)).take n:=by
 rw [List.take_add,List.drop_drop]
theorem RdF.cons {P:Program} {f:Field} {fs:List Field} {o:Nat} {α β:Type} {E:En α} {F:En β} {G:α→Prop} {K:β→Prop} (h:Rd P f.type E G) (ho:f.offset=o) (hr:RdF P fs (o+E.sz) F K):RdF P (f::fs) o (E.cat F) (fun x=>G x.1∧K x.2):=⟨by
 intro H enc w fuel cs xs hl hx hw
 obtain ⟨x,xs',rfl⟩:∃x xs',xs=x::xs':=by
  cases xs with
  | nil=>simp at hl
  | cons x xs'=>exact ⟨x,xs',rfl⟩
 have h1:=hx 0 f rfl
 rw [ho,h.sz] at h1
 obtain ⟨y,hy1,hy2⟩:=h.rd enc w fuel _ x h1 fun n hn=>hw n (by simp [DataW.weightsEach,hn])
 obtain ⟨z,hz1,hz2⟩:=hr.rd enc w fuel cs xs' (by simpa using hl) (fun i g hg=>by have:=hx (i+1) g (by simpa using hg);simpa using this) fun n hn=>hw n (by
  simp only [List.map_cons,DataW.weightsEach,List.mem_append];exact .inr hn)
 exact ⟨(y,z),⟨_,_,take_add_split,hy1,hz1⟩,hy2,hz2⟩⟩
theorem Rd.struct {P:Program} {t:TypeId} {fs:Array Field} {α:Type} {E:En α} {G:α→Prop} (ht:P.underlying t=some (.struct fs)) (ha:E.agg=true) (hc:P.cellsOf t=E.sz) (h:RdF P fs.toList 0 E G):Rd P t E G:=by
 refine ⟨hc, ?_, ?_⟩
 ·intro H enc w fuel cs x hx hw
  obtain ⟨xs,n,rfl,rfl,hlen,hxl,hf⟩:=DataW.trod_struct ht hx
  obtain ⟨y,hy1,hy2⟩:=h.rd enc w n cs xs (by simpa using hxl) (fun i f hi=>hf i f (by simpa using hi)) fun q hq=>hw q (by
   simp only [DataW.weights,ht];exact hq)
  rw [List.drop_zero,List.take_of_length_le (by rw [hlen,hc];exact Nat.le_refl _)] at hy1
  exact ⟨y,hy1,hy2⟩
 ·intro w v hv _
  obtain ⟨cs,rfl,_⟩:=okWide_struct ht hv
  unfold En.val
  rw [ha]
  simp [Value.cells]
theorem Rd.open {P:Program} {t:TypeId} {α:Type} {E:En α} {G:α→Prop} (hr:Rd P t E G) {H:Type} {enc:TypeId × Value→H} {W:World} {v:Value} {d:DataW H} {p:List MemPlace}
  (hv:Value.okWide P W .any 0 t v) (hd:DataW.Trod enc P W 0 (fun _=>true) true t v d p) (hw:∀n∈d.weights P t,n≤reachBytes):∃y,(Pd.rep E y).p ⟨W,fun _=>False,fun _ h=>h.elim⟩ v∧G y:=by
 obtain ⟨fuel,h⟩:=hd
 obtain ⟨y,hy,hg⟩:=hr.rd enc W fuel _ _ h hw
 refine ⟨y,⟨v.cells.toList,hr.vl W v hv ⟨y,hy⟩, ?_⟩,hg⟩
 exact E.mono (fun b hb=>⟨hb,fun h=>h⟩) hy
theorem Ex.below {s s':St} (h:Ex s s'):Below s.w.heap.size s.w s'.w:=⟨h.mv.os,h.mv.tape,h.mv.output,h.mv.size,fun k hk=>h.mv.blk k hk (fun h=>h)⟩
theorem okWide_any {P:Program} {W:World} {b:Nat} {t:TypeId} {v:Value} (h:Value.okWide P W .any b t v):Value.okWide P W .any 0 t v:=by
 unfold Value.okWide Row.okWide Cell.okWide Cell.ok World.has at *
 exact h
section
variable {H : Type} {enc : TypeId × Value → H} {P : Program}
theorem stays {W W':World} (hl:laidOutB P=true) (hb:Below W.heap.size W W') {sp:Nat→Bool}:∀{ts:List TypeId} {vs:List Value} {ds:List (DataW H)} {ps:List MemPlace},
  (ts.all fun t=>P.readableRec t&&decide (t<P.types.size))=true→DataW.TrodAll enc P W 0 (fun _=>true) true ts vs ds ps→(∀p∈ps,p.block<W.heap.size)→(∀p∈ps,sp p.block=true) →
  DataW.TrodAll enc P W' 0 sp true ts vs ds ps
 | [],vs,ds,ps,_,h,_,_=>by
  obtain ⟨rfl,rfl,rfl⟩:=trodAll_nil h
  exact trodAll_mk0
 | t::ts,vs,ds,ps,ha,h,hlt,hsp=>by
  obtain ⟨v,vs',d,ds',p,q,rfl,rfl,rfl,h1,h2⟩:=trodAll_cons h
  simp only [List.all_cons,Bool.and_eq_true,decide_eq_true_eq] at ha
  refine trodAll_cons_mk (WideElems.Trod_stays hl ha.1.1 ha.1.2 h1 (fun x hx=>hb.same (hlt x (List.mem_append_left _ hx))) fun x hx=>hsp x (List.mem_append_left _ hx)) ?_
  exact stays hl hb (by simpa using ha.2) h2 (fun x hx=>hlt x (List.mem_append_right _ hx)) fun x hx=>hsp x (List.mem_append_right _ hx)
theorem post_law {f:Func} {s:ChangeSpec} {apart fresh handsOn again:Bool} {W W':World} {args:Array Value} {v:Value} {ds gs:List (DataW H)} {before:List MemPlace} {tb:TypeId}
  (hW:DataW.Whole enc P f.params.toList s.vars apart W args.toList ds gs before) (hb:Below W.heap.size W W') (hl:laidOutB P=true)
  (hrd:(f.params.toList.all fun t=>P.readableRec t&&decide (t<P.types.size))=true) (hs:s.vars=[]) (hrt:f.resultTypes = #[tb]) (hub:P.underlying tb=some .bool) (hv:v = .bool true)
  (hres:(s.fn H (ds++gs)).results=[.lit (.bool true)]) (hargs:(s.fn H (ds++gs)).args=ds) (hvars:(s.fn H (ds++gs)).vars=[]):s.post enc P f apart fresh handsOn again W args v W':=by
 subst hv
 have hlt:=hW.lt
 have hW':=hW
 obtain ⟨p,q,hA,hV,rfl,hz,hn⟩:=hW
 rw [hs] at hV
 obtain ⟨rfl,rfl⟩:=trodVars_none hV
 have hsub:∀x∈p,x∈p++([]:List MemPlace):=fun x hx=>by simpa using hx
 have harg:∀sp:Nat→Bool,(∀x∈p++([]:List MemPlace),sp x.block=true)→DataW.TrodAll enc P W' 0 sp true f.params.toList args.toList (s.fn H (ds++[])).args p:=fun sp hsp=>by
  rw [hargs]
  exact stays hl hb hrd hA (fun x hx=>hlt x (hsub x hx)) fun x hx=>hsp x (hsub x hx)
 have hvar:∀sp:Nat→Bool,DataW.TrodVars enc P W' sp s.vars (s.fn H (ds++[])).vars []:=fun sp=>by rw [hs,hvars];exact rfl
 have hr:∀(b:Nat) (sp:Nat→Bool) (hd:Bool),DataW.TrodAll enc P W' b sp hd f.resultTypes.toList ((Value.bool true).resultList f.resultTypes.size) (s.fn H (ds++[])).results []:=fun b sp hd=>by
  rw [hres,hrt]
  exact trodAll_cons_mk (shut_bool hub _) trodAll_mk0
 have hold:∀x∈p++([]:List MemPlace),(fun b=>decide (b<W.heap.size)) x.block=true:=fun x hx=>by simpa using hlt x hx
 refine ⟨ds,[],p++[],[],p,[],hW',hr _ _ _,harg _ hold,hvar _,World.keptBut_mono (fun x hx=>⟨hx, ?_⟩) (hb.frame (·∈p++[])),fun _=>?_⟩
 ·simpa using hx
 ·refine ⟨ok_one hrt rfl (okWide_bool_mk hub _),_,_,([]++p)++[],⟨[]++p,[],trodAll_append (harg _ (fun _ _=>rfl)) (hr _ _ _),hvar _,rfl, ?_, ?_⟩, ?_⟩
  ·intro b off hp
   have hp':MemPlace.cell b off∈p++([]:List MemPlace):=by simpa using hp
   rw [hb.frozen (p:=⟨b,off,none⟩) (hlt _ hp')]
   exact hz b off hp'
  ·intro ha
   simpa using hn ha
  ·intro x hx _
   simpa using hx
end
end Go.Proofs.YtahgmdbioafmbaaGreatDoor.V
namespace Go.Proofs.YtahgmdbioafmbaaGreatDoor.V
open Go Go.ChangeShapes Go.WideShapes Go.RowKit
set_option linter.unusedVariables false
def lst4:List (String × DataW Unit):=[("math/bits.deBruijn32tab",Rows.laid_math_bits_deBruijn32tab),("math/bits.deBruijn64tab",Rows.laid_math_bits_deBruijn64tab),("internal/strconv.uint64pow10",Rows.laid_internal_strconv_uint64pow10),("scantling/heads.readies",Rows.laid_scantling_heads_readies)]
def lst:List (String × DataW Unit):=[("math/bits.deBruijn32tab",Rows.laid_math_bits_deBruijn32tab),("math/bits.deBruijn64tab",Rows.laid_math_bits_deBruijn64tab),("internal/strconv.uint64pow10",Rows.laid_internal_strconv_uint64pow10),("scantling/heads.readies",Rows.laid_scantling_heads_readies),("scantling/next.steps",Rows.laid_scantling_next_steps)]
theorem cells_of_bools {H:Type} {enc:TypeId × Value→H} {P:Program} {w:World} {base:Nat} {sp:Nat→Bool} {held:Bool} {fuel:Nat} {t e:TypeId} {n:Nat} {cs:List Value} {bs:List Bool} {p:List MemPlace}
  (ht:P.underlying t=some (.array n e)) (he:P.underlying e=some .bool) (hce:P.cellsOf e=1) (hct:P.cellsOf t=n)
  (h:DataW.trod enc P w base sp held fuel t cs=some (.agg (bs.map fun b=>.lit (.bool b)),p)):cs=bs.map Value.bool:=by
 obtain ⟨xs,m,rfl,hx,hl,hn,hf⟩:=DataW.trod_array ht h
 have hx1:=congrArg Prod.fst hx
 simp only [DataW.agg.injEq] at hx1
 have hbl:bs.length=n:=by
  have:=congrArg List.length hx1
  simp at this;omega
 apply List.ext_getElem?
 intro i
 by_cases hi:i<n
 ·have h1:=hf i hi
  rw [hce,Nat.mul_one,List.getElem?_eq_getElem (by omega)] at h1
  obtain ⟨b,hc,hb⟩:=DataW.trod_bool he h1
  have h2:cs[i]?=some (.bool b):=by
   have:=congrArg (·[0]?) hc
   simpa [List.getElem?_take,List.getElem?_drop] using this
  have h3:(bs.map fun b=>(DataW.lit (.bool b):DataW H))[i]?=some (.lit (.bool b)):=by
   rw [hx1,List.getElem?_map,List.getElem?_eq_getElem (by omega),hb];rfl
  rw [List.getElem?_map,Option.map_eq_some_iff] at h3
  obtain ⟨b',hb',e⟩:=h3
  cases e
  rw [h2,List.getElem?_map,hb'];rfl
 ·rw [List.getElem?_eq_none (by omega),List.getElem?_eq_none (by simp;omega)]
def nameB1:List UInt8:=[40,115,99,97,110,116,108,105,110,103,47,110,101,120,116,46,115,116,101,112,41,46,110,111,100,101]
def nameB3:List UInt8:=[40,115,99,97,110,116,108,105,110,103,47,110,101,120,116,46,115,116,101,112,41,46,116,101,120,116]
def nameB4:List UInt8:=[40,115,99,97,110,116,108,105,110,103,47,110,101,120,116,46,115,116,101,112,41,46,104,97,108,102]
def stepsD:DataW Unit:=.map [(.int .i64 1,.iface "func" (.lit (.string nameB1))),(.int .i64 3,.iface "func" (.lit (.string nameB3))),(.int .i64 4,.iface "func" (.lit (.string nameB4)))]
def stepsL:List (Lit × DataW (List UInt8)):=[(.int .i64 1,.held nameB1),(.int .i64 3,.held nameB3),(.int .i64 4,.held nameB4)]
theorem key_int {P:Program} {k:TypeId} (hk:P.underlying k=some (.int .i64)) {v:Value} {l:Lit} (h:keyOf P k v=some l):∃n:Int,v = .int .i64 n∧l = .int .i64 n∧InR .i64 n:=by
 rw [keyOf_int hk] at h
 unfold mapKey at h
 rw [hk] at h
 cases v <;> simp at h
 obtain ⟨⟨rfl,h2⟩,rfl⟩:=h
 exact ⟨_,rfl,rfl,by simpa [Lit.wf,InR] using h2⟩
theorem one_of_formed {P:Program} {t:TypeId} {ps rs:Array TypeId} {va:Bool} {v:Value} (ht:P.underlying t=some (.func ps rs va)) (h:v.formed P t=true):v.cells.toList=[v]:=by
 cases v <;> simp [Value.formed,ht] at h <;> rfl
def entY (e:MapEntry):Int × Option Nat:=match e.key with | .int _ n=>(n,mget gfmS n none) | _=>(0,none)
def entL (q:Lit × DataW (List UInt8)):Int × Option Nat:=match q.1 with | .int _ n=>(n,mget gfmS n none) | _=>(0,none)
def Steps (W:World):Prop:=∃m t fr es clock ys,W.heap[0]?=some (.cells #[.map (some m)] t fr)∧W.heap[m]?=some (.map es clock)∧Fmst es clock ys∧ys.Perm gfmS
theorem steps_of_funcs {W:World} (h:funcsAt Tryz.prog W "scantling/next.steps" stepsD):Steps W:=by
 obtain ⟨g,t,cs,fuel,p,hg,ht,hv,hd⟩:=h
 have hg':Tryz.prog.globalNamed "scantling/next.steps"=some 0:=by kernel_rfl
 have hty:(Tryz.prog.globals[0]?).map (·.type)=some 167:=by kernel_rfl
 obtain rfl:=Option.some.inj (hg'.symm.trans hg)
 obtain rfl:=Option.some.inj (hty.symm.trans ht)
 have e:DataW.funcsOut stepsD = .map stepsL:=by kernel_rfl
 rw [e] at hd
 have hkt:Tryz.prog.underlying 3=some (.int .i64):=Tryz.underlying3
 rcases WideElems.open_map Tryz.underlying167 hd with ⟨_,hx⟩ | ⟨m,es,clock,n,rfl,hcs,hb,_,F,hx⟩
 ·simp at hx
 ·simp only [Prod.mk.injEq,DataW.map.injEq] at hx
  have hp:stepsL.Perm (es.toList.map (WideElems.rg Tryz.prog 3 (WideElems.elemAt (funcToken Tryz.prog) Tryz.prog W 0 (fun _=>true) true n 165))):=by
   rw [hx.1];exact sorted_perm _
  have ent:∀x∈es.toList,∃i:Int,x.key = .int .i64 i∧InR .i64 i∧entL (WideElems.rg Tryz.prog 3 (WideElems.elemAt (funcToken Tryz.prog) Tryz.prog W 0 (fun _=>true) true n 165) x)=(i,mget gfmS i none)∧x.val=fidV (mget gfmS i none):=by
   intro x hx'
   obtain ⟨y,hy⟩:=F.reads x hx'
   have hrg:=WideElems.rg_of hy
   have hm:y∈stepsL:=hp.mem_iff.2 (List.mem_map.2 ⟨x,hx',hrg⟩)
   obtain ⟨i,hk1,hk2,hk3⟩:=key_int hkt (WideElems.rd_key hy)
   obtain ⟨z,hz1,hz2⟩:=WideElems.rd_val hy
   unfold WideElems.elemAt at hz1
   split at hz1
   case isFalse=>cases hz1
   rename_i hf
   rw [one_of_formed Tryz.underlying165 hf] at hz1
   refine ⟨i,hk1,hk3,by rw [hrg];simp only [entL,hk2], ?_⟩
   unfold stepsL at hm
   simp only [List.mem_cons,List.not_mem_nil,or_false] at hm
   rcases hm with rfl | rfl | rfl
   ·simp only [Lit.int.injEq,true_and] at hk2
    subst hk2
    obtain ⟨z1,z2⟩:=z
    simp only at hz2
    subst hz2
    exact func_of_trod (f0:=209) Tryz.underlying165 (by kernel_rfl) hz1
   ·simp only [Lit.int.injEq,true_and] at hk2
    subst hk2
    obtain ⟨z1,z2⟩:=z
    simp only at hz2
    subst hz2
    exact func_of_trod (f0:=210) Tryz.underlying165 (by kernel_rfl) hz1
   ·simp only [Lit.int.injEq,true_and] at hk2
    subst hk2
    obtain ⟨z1,z2⟩:=z
    simp only at hz2
    subst hz2
    exact func_of_trod (f0:=207) Tryz.underlying165 (by kernel_rfl) hz1
  obtain ⟨o,ho,hcell⟩:∃t fr,W.heap[0]?=some (.cells #[.map (some m)] t fr):=by
   unfold World.var? at hv
   rw [hg'] at hv
   simp only [Option.bind_some] at hv
   split at hv
   ·rename_i cs' t' fr' hc
    refine ⟨t',fr', ?_⟩
    rw [hc]
    simp only [Option.some.injEq] at hv
    rw [hv,← Array.toArray_toList (xs:=cs),hcs]
   ·cases hv
  refine ⟨m,o,ho,es,clock,es.toList.map entY,hcell,hb,⟨F.stamped,by simp,fun i e q h1 h2=>?_⟩, ?_⟩
  ·have hm:=List.mem_of_getElem? h1
   obtain ⟨j,hk1,hk3,_,hval⟩:=ent e hm
   rw [List.getElem?_map,h1] at h2
   simp only [Option.map_some,Option.some.injEq] at h2
   subst h2
   have hr:=inR_i64.1 hk3
   simp only [entY,hk1]
   exact ⟨trivial,hr,hval⟩
  ·have h3:=(hp.map entL).symm
   have e1:stepsL.map entL=gfmS:=by kernel_rfl
   rw [e1,List.map_map] at h3
   refine List.Perm.trans (List.Perm.of_eq (List.map_congr_left fun x hx'=>?_)) h3
   obtain ⟨j,hk1,_,hL,_⟩:=ent x hx'
   simp only [Function.comp,entY,hk1]
   exact hL.symm
def Tabs (W:World):Prop:=(Lib.TabIs Tryz.prog W "internal/strconv.uint64pow10" .u64 Lib.pow10Tab∧W.var? Tryz.prog "scantling/heads.readies"=some (gdat1.map Value.bool).toArray)∧Steps W
theorem tab_of_laid {W:World} (h:laidMetH Tryz.prog lst W):Tabs W:=by
 have hs:("scantling/next.steps",(DataW.iface "func table" stepsD:DataW Unit))∈lst:=by
  have e:(Rows.laid_scantling_next_steps:DataW Unit)=DataW.iface "func table" stepsD:=by kernel_rfl
  unfold lst
  rw [e]
  simp
 have h3:=steps_of_funcs (h.funcs hs)
 have e0:laidMetH Tryz.prog lst W=(laidMet Tryz.prog lst4 W∧handlesMet Tryz.prog [("scantling/next.steps",Rows.laid_scantling_next_steps)] W):=by kernel_rfl
 rw [e0] at h
 have h':=h.1
 unfold lst4 at h'
 refine ⟨⟨?_, ?_⟩,h3⟩
 ·have e:(Rows.laid_internal_strconv_uint64pow10:DataW Unit)=Lib.tabData .u64 Lib.pow10Tab:=by kernel_rfl
  have h2:=h'.tail.tail
  rw [e] at h2
  exact Lib.tabIs_of_head (g:=2) (t:=227) (e:=49) (n:=20) (by kernel_rfl) (by kernel_rfl) Tryz.underlying227 Tryz.underlying49 (by kernel_rfl) (by kernel_rfl) h2
 ·have e:(Rows.laid_scantling_heads_readies:DataW Unit) = .agg (gdat1.map fun b=>.lit (.bool b)):=by kernel_rfl
  have h2:=h'.tail.tail.tail
  rw [e] at h2
  obtain ⟨ps,⟨g',t',cs,fuel,p,q,hg',ht',hvar,hd,_,_⟩,_⟩:=h2
  have hg:Tryz.prog.globalNamed "scantling/heads.readies"=some 1:=by kernel_rfl
  have hty:(Tryz.prog.globals[1]?).map (·.type)=some 213:=by kernel_rfl
  obtain rfl:=Option.some.inj (hg.symm.trans hg')
  obtain rfl:=Option.some.inj (hty.symm.trans ht')
  rw [hvar,← cells_of_bools Tryz.underlying213 (e:=4) Tryz.underlying4 (by kernel_rfl) (by kernel_rfl) hd]
theorem gl_of_tab {W:World} (h:Tabs W):Gl ⟨W,fun _=>False,fun _ h=>h.elim⟩:=by
 obtain ⟨⟨h1,h2⟩,h3⟩:=h
 refine ⟨fun p hp=>?_,fun p hp=>?_⟩
 ·unfold gtab at hp
  rcases List.mem_cons.1 hp with rfl | hp
  ·refine ⟨fun h=>h, ?_⟩
   unfold Lib.TabIs World.var? at h1
   have hg:Tryz.prog.globalNamed "internal/strconv.uint64pow10"=some 2:=by kernel_rfl
   rw [hg] at h1
   simp only [Option.bind_some] at h1
   split at h1
   ·rename_i cs t fr hc
    refine ⟨t,fr, ?_⟩
    show W.heap[2]?=_
    rw [hc]
    simp only [Option.some.injEq] at h1
    rw [h1]
    simp [Lib.pow10Tab]
   ·cases h1
  ·obtain rfl:=List.mem_singleton.1 hp
   refine ⟨fun h=>h, ?_⟩
   unfold World.var? at h2
   have hg:Tryz.prog.globalNamed "scantling/heads.readies"=some 1:=by kernel_rfl
   rw [hg] at h2
   simp only [Option.bind_some] at h2
   split at h2
   ·rename_i cs t fr hc
    refine ⟨t,fr, ?_⟩
    show W.heap[1]?=_
    rw [hc]
    simp only [Option.some.injEq] at h2
    rw [h2]
   ·cases h2
 ·unfold gmap at hp
  obtain rfl:=List.mem_singleton.1 hp
  obtain ⟨m,t,fr,es,clock,ys,k1,k2,k3,k4⟩:=h3
  exact ⟨fun h=>h,m,t,fr,es,clock,ys,k1,fun h=>h,k2,k3,k4⟩
noncomputable def laidWorld (os:Os):World:=World.doorLaid Tryz.prog 400 os
theorem laid_met (os:Os) (args:Array Value):laidMetH Tryz.prog lst ((laidWorld os).forCall (fun _ _=>0) ⟨#[],args,[]⟩).memory:=
 laidMetH_of_parts3 (fuel:=8) (laidMet_of_run' 8 (by kernel_rfl) (by kernel_rfl)) (by kernel_rfl) (by kernel_rfl)
theorem weigh {H:Type} {P:Program} {ts:List TypeId} {ds:List (DataW H)} (h:(DataW.weightsEach P ts ds).all (·≤reachBytes)=true) (j:Nat) {t:TypeId} {d:DataW H} (ht:ts[j]?=some t) (hd:ds[j]?=some d):∀n∈d.weights P t,n≤reachBytes:=fun n hn=>by
 have:=List.all_eq_true.1 h n (DataW.weights_mem_each ht hd n hn)
 simpa using this
end Go.Proofs.YtahgmdbioafmbaaGreatDoor.V
