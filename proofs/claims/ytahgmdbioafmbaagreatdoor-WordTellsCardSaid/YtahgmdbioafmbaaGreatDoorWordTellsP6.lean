/-
  The texts that the law's proof needs, part 6.
-/
import Derived.Carry
import Derived.ChangeSame
import Derived.Deep.Slices
import Derived.Handed
import Derived.KernelRfl
import Derived.LaidHandle
import Derived.LaidLaws
import Derived.LaidMore
import Derived.Lib.LaidTab
import Derived.OpenShut
import Derived.ProofKit
import Derived.RowKit
import Derived.SizedLaws
import Derived.Stop.LaidErr
import Derived.Test.YtahgmdbioafmbaaGreatDoorRows
import Derived.WalkKit
import Derived.WideKeyElems2
import Derived.Test.YtahgmdbioafmbaaGreatDoorWordTellsP5

namespace Go.Proofs.YtahgmdbioafmbaaGreatDoor.V
open Go
set_option linter.unusedVariables false
theorem at_app1 {A S B:List Cl} {c:Nat} (h1:A.length≤c) (h2:c<A.length+S.length):at? (A++S++B) (c:Int)=some (S[c-A.length]'(by omega)):=by
 rw [zbw,List.append_assoc,List.getElem?_append_right h1,List.getElem?_append_left (by omega),List.getElem?_eq_getElem (by omega)]
theorem zqw {key:Cl→Int} {S:List Cl} (h:Srt key S) {i j:Nat} (hij:i≤j) (hj:j<S.length):key (S[i]'(by omega))≤key S[j]:=by
 rcases Nat.lt_or_ge i j with hlt | hge
 ·exact List.pairwise_iff_getElem.1 h i j (by omega) hj hlt
 ·have:i=j:=by omega
  subst this;exact Int.le_refl _
theorem sm_l1 {A B:List Cl} {x:Cl} {i:Int} {X:List Cl→Prop}:∀(Y2 Y1:List Cl),i=((A.length+Y1.length+Y2.length:Nat):Int)+1→(A++Y1++x::Y2++B).length<4611686018427387904→X (A++(Y1++Y2)++x::B) →
  ∃k,za.l1 i X k (A++Y1++x::Y2++B) ((A.length+Y1.length:Nat):Int)
 | [],Y1,hi,hl,hX=>by
  have hl':A.length+Y1.length<4611686018427387904:=by simp at hl;omega
  exact ⟨1,zh (by simp at hi;omega) (by simp at hi;omega),fun h=>absurd (dt0 h) (by simp at hi;omega),fun _=>by simpa using hX⟩
 | y::Y2,Y1,hi,hl,hX=>by
  have hl':A.length+Y1.length+Y2.length+1<4611686018427387904:=by simp at hl;omega
  have hi':=hi;simp at hi';obtain ⟨k,hk⟩:=sm_l1 (A:=A) (B:=B) (x:=x) (i:=i) (X:=X) Y2 (Y1++[y]) (by rw [hi];simp;omega) (by simp at hl ⊢;omega) (by simpa using hX);have e1:A++Y1++x::(y::Y2)++B=(A++Y1)++x::(y::Y2++B):=by simp
  have e2:A++Y1++x::(y::Y2)++B=(A++Y1++[x])++y::(Y2++B):=by simp
  have p1:((A.length+Y1.length:Nat):Int)=((A++Y1).length:Int):=by simp
  have p2:((A.length+Y1.length:Nat):Int)+1=((A++Y1++[x]).length:Int):=by simp;omega
  have a1:at? (A++Y1++x::(y::Y2)++B) ((A.length+Y1.length:Nat):Int)=some x:=by rw [e1];exact zja p1
  have a2:at? (A++Y1++x::(y::Y2)++B) (((A.length+Y1.length:Nat):Int)+1)=some y:=by rw [e2];exact zja p2
  have s1:(A++Y1++x::(y::Y2)++B).set ((A.length+Y1.length:Nat):Int).toNat y=(A++Y1++[y])++y::(Y2++B):=by rw [e1,ziq p1];simp
  have p2':((A.length+Y1.length:Nat):Int)+1=((A++Y1++[y]).length:Int):=by simp;omega
  refine ⟨k+1,zh (by omega) (by omega),fun _=>⟨zh (by omega) (by omega),zh (by omega) (by omega),y,a2,x,a1,x,a1,y, ?_,zh (by omega) (by omega), ?_⟩,fun h=>absurd (by omega) (df0 h)⟩
  ·rw [s1];exact zja p2'
  ·rw [s1,ziq p2'];have p3:((A.length+(Y1++[y]).length:Nat):Int)=((A.length+Y1.length:Nat):Int)+1:=by simp;omega
   rw [p3] at hk;simpa using hk
theorem sm_l3 {A B:List Cl} {x:Cl} {i:Int} {X:List Cl→Prop}:∀(m:Nat) (Y1 Y2:List Cl),Y1.length=m→i=(A.length:Int)→(A++Y1++x::Y2++B).length<4611686018427387904→X (A++x::(Y1++Y2)++B) →
  ∃k,za.l3 i X k (A++Y1++x::Y2++B) ((A.length+Y1.length:Nat):Int):=by
 intro m
 induction m with
 | zero=>
  intro Y1 Y2 hm hi hl hX;have:=List.eq_nil_of_length_eq_zero hm;subst this;exact ⟨1,fun h=>absurd (dt0 h) (by rw [hi];simp),fun _=>by simpa using hX⟩
 | succ m ih=>
  intro Y1 Y2 hm hi hl hX;obtain ⟨Y1,y,rfl⟩:=snoc_of (l:=Y1) (by rintro rfl;simp at hm);have hl':A.length+Y1.length+Y2.length+1<4611686018427387904:=by simp at hl;omega
  obtain ⟨k,hk⟩:=ih Y1 (y::Y2) (by simpa using hm) hi (by simp at hl ⊢;omega) (by simpa using hX);have e1:A++(Y1++[y])++x::Y2++B=(A++Y1)++y::(x::Y2++B):=by simp
  have e2:A++(Y1++[y])++x::Y2++B=(A++Y1++[y])++x::(Y2++B):=by simp
  have p2:((A.length+(Y1++[y]).length:Nat):Int)=((A++Y1++[y]).length:Int):=by simp
  have p1:((A.length+(Y1++[y]).length:Nat):Int)-1=((A++Y1).length:Int):=by simp;omega
  have a2:at? (A++(Y1++[y])++x::Y2++B) ((A.length+(Y1++[y]).length:Nat):Int)=some x:=by rw [e2];exact zja p2
  have a1:at? (A++(Y1++[y])++x::Y2++B) (((A.length+(Y1++[y]).length:Nat):Int)-1)=some y:=by rw [e1];exact zja p1
  have s1:(A++(Y1++[y])++x::Y2++B).set ((A.length+(Y1++[y]).length:Nat):Int).toNat y=(A++Y1)++y::(y::Y2++B):=by rw [e2,ziq p2];simp
  refine ⟨k+1,fun _=>⟨zh (by simp;omega) (by simp;omega),zh (by simp;omega) (by simp;omega),y,a1,x,a2,x,a2,y, ?_,zh (by simp;omega) (by simp;omega), ?_⟩,fun h=>absurd (by rw [hi];simp;omega) (df0 h)⟩
  ·rw [s1];exact zja p1
  ·rw [s1,ziq p1,p1,show (((A++Y1).length:Nat):Int)=((A.length+Y1.length:Nat):Int) by simp];simpa using hk
theorem at_gd {A S B:List Cl} {c:Nat} (h1:A.length≤c) (h2:c<A.length+S.length):at? (A++S++B) (c:Int)=some (S.getD (c-A.length) 0#256):=by
 rw [at_app1 h1 h2,List.getD,List.getElem?_eq_getElem (by omega)];rfl
theorem gd_le {key:Cl→Int} {S:List Cl} (h:Srt key S) {i j:Nat} (hij:i≤j) (hj:j<S.length):key (S.getD i 0#256)≤key (S.getD j 0#256):=by
 have:=zqw h hij hj;rw [List.getD,List.getD,List.getElem?_eq_getElem (by omega),List.getElem?_eq_getElem hj];exact this
theorem getD_l {X Y:List Cl} {q:Nat} (h:q<X.length):(X++Y).getD q 0#256=X[q]:=by
 rw [List.getD,List.getElem?_append_left h,List.getElem?_eq_getElem h];rfl
theorem getD_r {X Y:List Cl} {q:Nat} (h:q<Y.length):(X++Y).getD (X.length+q) 0#256=Y[q]:=by
 rw [List.getD,List.getElem?_append_right (by omega),Nat.add_sub_cancel_left,List.getElem?_eq_getElem h];rfl
theorem sym_j7 {key:Cl→Int} {cmp:Cl × Cl × Int→Prop} {f:Nat} {A S1 S2 T1 T2 B:List Cl}
  (ih:∀(A S T B:List Cl),S.length+T.length≤f→S≠[]→T≠[]→Srt key S→Srt key T→(A++S++T++B).length<4611686018427387904 →
   za.n f (A++S++T++B) (A.length:Int) ((A.length+S.length:Nat):Int) ((A.length+S.length+T.length:Nat):Int) cmp (A++srt key (S++T)++B))
  (hS:Srt key (S1++S2)) (hT:Srt key (T1++T2)) (hlen:(A++(S1++S2)++(T1++T2)++B).length<4611686018427387904) (h1:∀t∈T1,∀s∈S2,key t<key s) (h2:∀s∈S1,∀t∈T2,key s≤key t)
  {st mid m b:Int} (hst:st=((A.length+S1.length:Nat):Int)) (hmid:mid=((A.length+S1.length+T1.length:Nat):Int)) (hm:m=((A.length+S1.length+S2.length:Nat):Int)) (hb:b=((A.length+S1.length+S2.length+T1.length+T2.length:Nat):Int))
  (hf1:S1.length+T1.length≤f) (hf2:S2.length+T2.length≤f):
  za.j7 (za.n f) (A++(S1++S2)++(T1++T2)++B) (A.length:Int) m b cmp (A++srt key ((S1++S2)++(T1++T2))++B) mid st:=by
 have hl:A.length+S1.length+S2.length+T1.length+T2.length+B.length<4611686018427387904:=by simp at hlen;omega
 obtain ⟨hS1,hS2,hSS⟩:=Srt.app.1 hS;obtain ⟨hT1,hT2,hTT⟩:=Srt.app.1 hT;have hres:srt key ((S1++S2)++(T1++T2))=srt key (S1++T1)++srt key (S2++T2):=by
  refine (zi4 (Srt.app.2 ⟨zjg _ _,zjg _ _,fun x hx y hy=>?_⟩) ?_).symm
  ·have hx':=(zg5 key (S1++T1)).perm.mem_iff.2 hx;have hy':=(zg5 key (S2++T2)).perm.mem_iff.2 hy;rcases List.mem_append.1 hx' with hx1 | hx1 <;> rcases List.mem_append.1 hy' with hy1 | hy1
   ·exact hSS x hx1 y hy1
   ·exact h2 x hx1 y hy1
   ·exact Int.le_of_lt (h1 x hx1 y hy1)
   ·exact hTT x hx1 y hy1
  ·have e1:SEq key (S2++T1) (T1++S2):=zka fun x hx y hy=>by have:=h1 y hy x hx;omega
   have e2:=(SEq.refl key S1).app (e1.app (SEq.refl key T2));have e3:=(zg5 key (S1++T1)).app (zg5 key (S2++T2));exact SEq.trans (by simpa using e2) (by simpa using e3)
 rw [hres];have hj5:za.j5 (za.n f) m b cmp (A++(srt key (S1++T1)++srt key (S2++T2))++B) mid st (A++srt key (S1++T1)++S2++T2++B):=by
  refine ⟨_,rfl,fun h=>?_,fun h=>?_⟩
  ·simp only [Bool.and_eq_true,decide_eq_true_eq] at h;have hS2n:S2≠[]:=by rintro rfl;simp at hm;omega
   have hT2n:T2≠[]:=by rintro rfl;simp at hb;omega
   have:=ih (A++srt key (S1++T1)) S2 T2 B hf2 hS2n hT2n hS2 hT2 (by simp [zhr];omega);refine ⟨_, ?_,rfl⟩;have e1:(((A++srt key (S1++T1)).length:Nat):Int)=mid:=by rw [hmid];simp [zhr];omega
   have e2:(((A++srt key (S1++T1)).length+S2.length:Nat):Int)=mid+m-st:=by rw [hmid,hm,hst];simp [zhr];omega
   have e3:(((A++srt key (S1++T1)).length+S2.length+T2.length:Nat):Int)=b:=by rw [hb];simp [zhr];omega
   rw [e1,e2,e3] at this;simpa using this
  ·have:S2=[]∨T2=[]:=by
    simp only [Bool.and_eq_false_iff,decide_eq_false_iff_not] at h;rcases h with h | h
    ·left;exact List.eq_nil_of_length_eq_zero (by omega)
    ·right;exact List.eq_nil_of_length_eq_zero (by omega)
   have e:srt key (S2++T2)=S2++T2:=by
    rcases this with rfl | rfl
    ·exact (zi4 (by simpa using hT2) (SEq.refl _ _)).symm
    ·exact (zi4 (by simpa using hS2) (SEq.refl _ _)).symm
   rw [e];simp
 have hj6:za.j6 (za.n f) (A.length:Int) m b cmp (A++(srt key (S1++T1)++srt key (S2++T2))++B) mid st (A++S1++T1++S2++T2++B):=by
  refine ⟨_,rfl,fun h=>?_,fun h=>?_⟩
  ·simp only [Bool.and_eq_true,decide_eq_true_eq] at h;have hS1n:S1≠[]:=by rintro rfl;simp at hst;omega
   have hT1n:T1≠[]:=by rintro rfl;simp at hmid;omega
   have:=ih A S1 T1 (S2++T2++B) hf1 hS1n hT1n hS1 hT1 (by simp;omega);refine ⟨A++srt key (S1++T1)++S2++T2++B, ?_,hj5⟩;rw [← hst,← hmid] at this;simpa using this
  ·have:S1=[]∨T1=[]:=by
    simp only [Bool.and_eq_false_iff,decide_eq_false_iff_not] at h;rcases h with h | h
    ·left;exact List.eq_nil_of_length_eq_zero (by omega)
    ·right;exact List.eq_nil_of_length_eq_zero (by omega)
   have e:srt key (S1++T1)=S1++T1:=by
    rcases this with rfl | rfl
    ·exact (zi4 (by simpa using hT1) (SEq.refl _ _)).symm
    ·exact (zi4 (by simpa using hS1) (SEq.refl _ _)).symm
   rw [e] at hj5 ⊢;simpa using hj5
 refine ⟨zh (by omega) (by omega),_,rfl,fun h=>?_,fun h=>?_⟩
 ·simp only [Bool.and_eq_true,decide_eq_true_eq] at h;have hS2n:S2≠[]:=by rintro rfl;simp at hm;omega
  have hT1n:T1≠[]:=by rintro rfl;simp at hmid;omega
  have:=rot_in (cmp:=cmp) (A:=A++S1) (X:=S2) (Y:=T1) (B:=T2++B) (a:=st) (m:=m) (b:=mid+m-st) (by rw [hst];simp) (by rw [hm];simp) (by rw [hmid,hm,hst];simp;omega) hS2n hT1n (by simp;omega);refine ⟨A++S1++T1++S2++T2++B, ?_,hj6⟩;simpa using this
 ·have:S2=[]∨T1=[]:=by
   simp only [Bool.and_eq_false_iff,decide_eq_false_iff_not] at h;rcases h with h | h
   ·left;exact List.eq_nil_of_length_eq_zero (by omega)
   ·right;exact List.eq_nil_of_length_eq_zero (by omega)
  have e:A++(S1++S2)++(T1++T2)++B=A++S1++T1++S2++T2++B:=by
   rcases this with rfl | rfl <;> simp
  rw [e];exact hj6
theorem sym_n {key:Cl→Int} {cmp:Cl × Cl × Int→Prop} (hc:ztt key cmp):∀(f:Nat) (A S T B:List Cl),S.length+T.length≤f→S≠[]→T≠[]→Srt key S→Srt key T→(A++S++T++B).length<4611686018427387904 →
  za.n f (A++S++T++B) (A.length:Int) ((A.length+S.length:Nat):Int) ((A.length+S.length+T.length:Nat):Int) cmp (A++srt key (S++T)++B):=by
 intro f
 induction f with
 | zero=>intro A S T B hf hS;exact absurd (List.eq_nil_of_length_eq_zero (by omega)) hS
 | succ f ih=>
  intro A S T B hf hSn hTn hS hT hlen;have hl:A.length+S.length+T.length+B.length<4611686018427387904:=by simp at hlen;omega
  have hs0:0<S.length:=List.length_pos_iff.2 hSn;have ht0:0<T.length:=List.length_pos_iff.2 hTn;have atS:∀c:Nat,A.length≤c→c<A.length+S.length→at? (A++S++T++B) (c:Int)=some (S.getD (c-A.length) 0#256):=fun c h1 h2=>by
   rw [show A++S++T++B=A++S++(T++B) by simp];exact at_gd h1 h2
  have atT:∀c:Nat,A.length+S.length≤c→c<A.length+S.length+T.length→at? (A++S++T++B) (c:Int)=some (T.getD (c-(A.length+S.length)) 0#256):=fun c h1 h2=>by
   have:=at_gd (A:=A++S) (S:=T) (B:=B) (c:=c) (by simp;omega) (by simp;omega);simpa using this
  refine ⟨zh (by omega) (by omega),fun h1=>?_,fun h1=>⟨zh (by omega) (by omega),fun h2=>?_,fun h2=>⟨zh (by omega) (by omega), ?_⟩⟩⟩
  ·-- one thing ahead
   have hs1:S.length=1:=by simp at h1;omega
   obtain ⟨x,rfl⟩:=List.length_eq_one_iff.1 hs1;refine bsearch (P:=fun k i j=>za.l2 (A++[x]++T++B) (A.length:Int) cmp _ k i j) (fun c=>decide (key (T.getD (c-(A.length+1)) 0#256)<key x)) (A.length+1) (A.length+1+T.length) (fun c d h1 h2 h3 h4=>?_) (fun k i j h1 h2 h3=>?_) (fun k i h1 h2 h3 h4=>?_) (by omega)
   ·have:=gd_le hT (i:=c-(A.length+1)) (j:=d-(A.length+1)) (by omega) (by omega);simp only [decide_eq_true_eq] at h4 ⊢;omega
   ·have hat:=atT ((i+j) / 2) (by simp;omega) (by simp;omega);have hax:=atS A.length (Nat.le_refl _) (by simp);have hh:∀(p:Prop),(((decide ((i:Int)<(j:Int)))=true→InR .i64 ((i:Int)+j)∧∃i42:Int,i42=(IntKind.wrap .i64 (zqx (IntKind.wrap .u64 ((i:Int)+j)) 1))∧∃e45:Cl,at? (A++[x]++T++B) i42=some e45∧∃e47:Cl,at? (A++[x]++T++B) (A.length:Int)=some e47∧∃r49:Int,cmp (e45,e47,r49)∧p)→True):=fun _ _=>trivial;constructor
    ·intro hp hk;refine ⟨fun _=>⟨zh (by omega) (by omega),_,rfl,T.getD ((i+j) / 2-(A.length+1)) 0#256, ?_,x,by simpa using hax,_,hc _ _,fun _=>⟨?_, ?_⟩,fun h=>?_⟩,fun h=>absurd (by omega) (df0 h)⟩
     ·rw [zgn (by omega) (by omega),show ((i:Int)+j) / 2=(((i+j) / 2:Nat):Int) by omega];simpa using hat
     ·rw [zgn (by omega) (by omega)];exact zh (by omega) (by omega)
     ·rw [zgn (by omega) (by omega),show ((i:Int)+j) / 2+1=(((i+j) / 2+1:Nat):Int) by omega];exact hk
     ·exfalso;simp at h hp;omega
    ·intro hp hk;refine ⟨fun _=>⟨zh (by omega) (by omega),_,rfl,T.getD ((i+j) / 2-(A.length+1)) 0#256, ?_,x,by simpa using hax,_,hc _ _,fun h=>?_,fun _=>?_⟩,fun h=>absurd (by omega) (df0 h)⟩
     ·rw [zgn (by omega) (by omega),show ((i:Int)+j) / 2=(((i+j) / 2:Nat):Int) by omega];simpa using hat
     ·exfalso;simp at h hp;omega
     ·rw [zgn (by omega) (by omega),show ((i:Int)+j) / 2=(((i+j) / 2:Nat):Int) by omega];exact hk
   ·refine ⟨fun h=>absurd (dt0 h) (by omega),fun _=>?_⟩;obtain ⟨T1,T2,rfl,hT1⟩:=zf4 T (show i-(A.length+1)≤T.length by omega);have hlt:∀y∈T1,key y<key x:=fun y hy=>by
     obtain ⟨q,hq,rfl⟩:=List.mem_iff_getElem.1 hy;have:=h3 (A.length+1+q) (by omega) (by omega);rw [show A.length+1+q-(A.length+1)=q by omega,getD_l hq] at this;exact of_decide_eq_true this
    have hge:∀y∈T2,key x≤key y:=fun y hy=>by
     obtain ⟨q,hq,rfl⟩:=List.mem_iff_getElem.1 hy;have:=h4 (A.length+1+T1.length+q) (by omega) (by simp;omega);rw [show A.length+1+T1.length+q-(A.length+1)=T1.length+q by omega,getD_r hq] at this;have:=of_decide_eq_false this;omega
    have hres:srt key ([x]++(T1++T2))=T1++x::T2:=by
     refine (zi4 (Srt.app.2 ⟨(Srt.app.1 hT).1,Srt.cons.2 ⟨hge,(Srt.app.1 hT).2.1⟩,fun p hp q hq=>?_⟩) ?_).symm
     ·rcases List.mem_cons.1 hq with rfl | hq
      ·exact Int.le_of_lt (hlt p hp)
      ·exact (Srt.app.1 hT).2.2 p hp q hq
     ·have e1:SEq key ([x]++T1) (T1++[x]):=zka fun a ha b hb=>by simp at ha;subst ha;have:=hlt b hb;omega
      simpa using e1.app (SEq.refl key T2)
    rw [hres];have:=sm_l1 (A:=A) (B:=T2++B) (x:=x) (i:=(i:Int)) (X:=za.j1 (A++(T1++x::T2)++B)) T1 [] (by simp;omega) (by simp at hl ⊢;omega) (by simp [za.j1]);show ∃k15,za.l1 (i:Int) _ k15 _ _;simpa using this
  ·-- one thing behind
   have ht1:T.length=1:=by simp at h2;omega
   obtain ⟨y,rfl⟩:=List.length_eq_one_iff.1 ht1;refine bsearch (P:=fun k i j=>za.l4 (A++S++[y]++B) ((A.length+S.length:Nat):Int) cmp _ k i j) (fun c=>!decide (key y<key (S.getD (c-A.length) 0#256))) A.length (A.length+S.length) (fun c d h1 h2 h3 h4=>?_) (fun k i j h1 h2 h3=>?_) (fun k i h1 h2 h3 h4=>?_) (by omega)
   ·have:=gd_le hS (i:=c-A.length) (j:=d-A.length) (by omega) (by omega);simp only [Bool.not_eq_true',decide_eq_false_iff_not] at h4 ⊢;omega
   ·have hat:=atS ((i+j) / 2) (by omega) (by omega);have hay:=atT (A.length+S.length) (Nat.le_refl _) (by simp);constructor
    ·intro hp hk;refine ⟨fun _=>⟨zh (by omega) (by omega),_,rfl,y,by simpa using hay,S.getD ((i+j) / 2-A.length) 0#256, ?_,_,hc _ _,fun _=>⟨?_, ?_⟩,fun h=>?_⟩,fun h=>absurd (by omega) (df0 h)⟩
     ·rw [zgn (by omega) (by omega),show ((i:Int)+j) / 2=(((i+j) / 2:Nat):Int) by omega];exact hat
     ·rw [zgn (by omega) (by omega)];exact zh (by omega) (by omega)
     ·rw [zgn (by omega) (by omega),show ((i:Int)+j) / 2+1=(((i+j) / 2+1:Nat):Int) by omega];exact hk
     ·exfalso;simp only [Bool.not_eq_true',Bool.not_eq_false',decide_eq_true_eq,decide_eq_false_iff_not] at h hp;omega
    ·intro hp hk;refine ⟨fun _=>⟨zh (by omega) (by omega),_,rfl,y,by simpa using hay,S.getD ((i+j) / 2-A.length) 0#256, ?_,_,hc _ _,fun h=>?_,fun _=>?_⟩,fun h=>absurd (by omega) (df0 h)⟩
     ·rw [zgn (by omega) (by omega),show ((i:Int)+j) / 2=(((i+j) / 2:Nat):Int) by omega];exact hat
     ·exfalso;simp only [Bool.not_eq_true',Bool.not_eq_false',decide_eq_true_eq,decide_eq_false_iff_not] at h hp;omega
     ·rw [zgn (by omega) (by omega),show ((i:Int)+j) / 2=(((i+j) / 2:Nat):Int) by omega];exact hk
   ·refine ⟨fun h=>absurd (dt0 h) (by omega),fun _=>?_⟩;obtain ⟨S1,S2,rfl,hS1⟩:=zf4 S (show i-A.length≤S.length by omega);have hle:∀x∈S1,key x≤key y:=fun x hx=>by
     obtain ⟨q,hq,rfl⟩:=List.mem_iff_getElem.1 hx;have:=h3 (A.length+q) (by omega) (by omega);rw [show A.length+q-A.length=q by omega,getD_l hq] at this;simp only [Bool.not_eq_true',decide_eq_false_iff_not] at this;omega
    have hgt:∀x∈S2,key y<key x:=fun x hx=>by
     obtain ⟨q,hq,rfl⟩:=List.mem_iff_getElem.1 hx;have:=h4 (A.length+S1.length+q) (by omega) (by simp;omega);rw [show A.length+S1.length+q-A.length=S1.length+q by omega,getD_r hq] at this;simpa using this
    have hres:srt key ((S1++S2)++[y])=S1++y::S2:=by
     refine (zi4 (Srt.app.2 ⟨(Srt.app.1 hS).1,Srt.cons.2 ⟨fun q hq=>Int.le_of_lt (hgt q hq),(Srt.app.1 hS).2.1⟩,fun p hp q hq=>?_⟩) ?_).symm
     ·rcases List.mem_cons.1 hq with rfl | hq
      ·exact hle p hp
      ·exact (Srt.app.1 hS).2.2 p hp q hq
     ·have e1:SEq key (S2++[y]) ([y]++S2):=zka fun a ha b hb=>by simp at hb;subst hb;have:=hgt a ha;omega
      simpa using (SEq.refl key S1).app e1
    rw [hres];have:=sm_l3 (A:=A++S1) (B:=B) (x:=y) (i:=(i:Int)) (X:=za.j3 (A++(S1++y::S2)++B)) S2.length S2 [] rfl (by simp;omega) (by simp at hl ⊢;omega) (by simp [za.j3]);show ∃k66,za.l3 (i:Int) _ k66 _ _;have e:(((A++S1).length+S2.length:Nat):Int)=((A.length+(S1++S2).length:Nat):Int):=by simp;omega
    rw [e] at this;simpa using this
  ·-- both longer
   have hs2:2≤S.length:=by simp at h1;omega
   have ht2:2≤T.length:=by simp at h2;omega
   obtain ⟨mid,hmid⟩:∃mid:Nat,mid=(A.length+(A.length+S.length+T.length)) / 2:=⟨_,rfl⟩;have hmidI:IntKind.wrap .i64 (zqx (IntKind.wrap .u64 ((A.length:Int)+((A.length+S.length+T.length:Nat):Int))) 1)=(mid:Int):=by
    rw [zgn (by omega) (by omega)];omega
   refine ⟨_,rfl, ?_⟩;rw [hmidI];have main:∀(lo hi:Nat),(lo=A.length∨lo+(A.length+S.length+T.length)=mid+(A.length+S.length))→A.length≤lo→mid+(A.length+S.length)≤lo+(A.length+S.length+T.length)→(hi=mid∨hi=A.length+S.length)→hi≤mid→hi≤A.length+S.length→lo≤hi →
     za.j8 (za.n f) (A++S++T++B) (A.length:Int) ((A.length+S.length:Nat):Int) ((A.length+S.length+T.length:Nat):Int) cmp (A++srt key (S++T)++B) (mid:Int) (lo:Int) (hi:Int):=by
    intro lo hi hlo hla hlb hhi hhm hhs hle;refine ⟨zh (by omega) (by omega), ?_⟩;refine bsearch (P:=fun k i j=>za.l5 (A++S++T++B) ((A.length+S.length:Nat):Int) cmp (mid:Int) _ k i j) (fun c=>!decide (key (T.getD (mid-1-c) 0#256)<key (S.getD (c-A.length) 0#256))) lo hi (fun c d h1 h2 h3 h4=>?_) (fun k i j h1 h2 h3=>?_) (fun k st h1 h2 h3 h4=>?_) hle
    ·have e1:=gd_le hS (i:=c-A.length) (j:=d-A.length) (by omega) (by omega);have e2:=gd_le hT (i:=mid-1-d) (j:=mid-1-c) (by omega) (by omega);simp only [Bool.not_eq_true',decide_eq_false_iff_not] at h4 ⊢;omega
    ·have hat:=atS ((i+j) / 2) (by omega) (by omega);have hay:=atT (mid+(A.length+S.length)-1-(i+j) / 2) (by omega) (by omega);rw [show mid+(A.length+S.length)-1-(i+j) / 2-(A.length+S.length)=mid-1-(i+j) / 2 by omega] at hay;have hpc:(mid:Int)+((A.length+S.length:Nat):Int)-1-(((i+j) / 2:Nat):Int)=((mid+(A.length+S.length)-1-(i+j) / 2:Nat):Int):=by omega
     have hh:IntKind.wrap .i64 (zqx (IntKind.wrap .u64 ((i:Int)+(j:Int))) 1)=(((i+j) / 2:Nat):Int):=by rw [zgn (by omega) (by omega)];omega
     constructor
     ·intro hp hk;refine ⟨fun _=>⟨zh (by omega) (by omega),_,rfl, ?_⟩,fun h=>absurd (by omega) (df0 h)⟩;rw [hh,hpc];refine ⟨zh (by omega) (by omega),_,hay,_,hat,_,hc _ _,fun _=>⟨zh (by omega) (by omega),by simpa using hk⟩,fun h=>?_⟩;exfalso;simp only [Bool.not_eq_true',Bool.not_eq_false',decide_eq_true_eq,decide_eq_false_iff_not] at h hp;omega
     ·intro hp hk;refine ⟨fun _=>⟨zh (by omega) (by omega),_,rfl, ?_⟩,fun h=>absurd (by omega) (df0 h)⟩;rw [hh,hpc];refine ⟨zh (by omega) (by omega),_,hay,_,hat,_,hc _ _,fun h=>?_,fun _=>hk⟩;exfalso;simp only [Bool.not_eq_true',Bool.not_eq_false',decide_eq_true_eq,decide_eq_false_iff_not] at h hp;omega
    ·refine ⟨fun h=>absurd (dt0 h) (by omega),fun _=>?_⟩;obtain ⟨S1,S2,rfl,hS1⟩:=zf4 S (show st-A.length≤S.length by omega);obtain ⟨T1,T2,rfl,hT1⟩:=zf4 T (show mid-st≤T.length by omega);simp only [List.length_append] at hmid hs2 ht2 hlo hla hlb hhi hhm hhs hf hl hS1 hT1 ⊢;refine sym_j7 (key:=key) ih hS hT hlen (fun t ht s hs=>?_) (fun s hs t ht=>?_) (by omega) (by omega) (by omega) (by omega) (by omega) (by omega)
     ·-- what stands ahead of the middle behind is less
      have hs2:0<S2.length:=List.length_pos_iff.2 (List.ne_nil_of_mem hs);have ht1:0<T1.length:=List.length_pos_iff.2 (List.ne_nil_of_mem ht);obtain ⟨q,hq,rfl⟩:=List.mem_iff_getElem.1 ht;obtain ⟨r,hr,rfl⟩:=List.mem_iff_getElem.1 hs;have hp:=h4 st (Nat.le_refl _) (by omega);rw [show mid-1-st=T1.length-1 by omega,show st-A.length=S1.length+0 by omega,getD_l (by omega),getD_r hs2] at hp;have e1:=zqw (Srt.app.1 hT).1 (i:=q) (j:=T1.length-1) (by omega) (by omega);have e2:=zqw (Srt.app.1 hS).2.1 (i:=0) (j:=r) (by omega) hr;simp only [Bool.not_eq_false',decide_eq_true_eq] at hp;omega
     ·have hs1:0<S1.length:=List.length_pos_iff.2 (List.ne_nil_of_mem hs);have ht2:0<T2.length:=List.length_pos_iff.2 (List.ne_nil_of_mem ht);obtain ⟨q,hq,rfl⟩:=List.mem_iff_getElem.1 ht;obtain ⟨r,hr,rfl⟩:=List.mem_iff_getElem.1 hs;have hp:=h3 (st-1) (by omega) (by omega);rw [show mid-1-(st-1)=T1.length+0 by omega,show st-1-A.length=S1.length-1 by omega,getD_r ht2,getD_l (X:=S1) (q:=S1.length-1) (by omega)] at hp;have e1:=zqw (Srt.app.1 hT).2.1 (i:=0) (j:=q) (by omega) hq;have e2:=zqw (Srt.app.1 hS).1 (i:=r) (j:=S1.length-1) (by omega) (by omega);simp only [Bool.not_eq_true',decide_eq_false_iff_not] at hp;omega
   refine ⟨zh (by omega) (by omega),fun h=>⟨zh (by omega) (by omega), ?_⟩,fun h=>?_⟩
   ·have hlt:mid<A.length+S.length:=by have:=dt0 h;omega
    have:=main (mid+(A.length+S.length)-(A.length+S.length+T.length)) mid (by omega) (by omega) (by omega) (.inl rfl) (Nat.le_refl _) (by omega) (by omega);rw [show ((mid+(A.length+S.length)-(A.length+S.length+T.length):Nat):Int)=(mid:Int)+((A.length+S.length:Nat):Int)-((A.length+S.length+T.length:Nat):Int) by omega] at this;exact this
   ·have hge:¬ mid<A.length+S.length:=by have:=df0 h;omega
    exact main A.length (A.length+S.length) (.inl rfl) (Nat.le_refl _) (by omega) (.inr rfl) (by omega) (Nat.le_refl _) (by omega)
def BS (key:Cl→Int) (n:Nat) (l:List Cl):Prop:=∀(i j:Nat) (hj:j<l.length) (hi:i≤j),i / n=j / n→key (l[i]'(by omega))≤key l[j]
theorem BS.of_srt {key:Cl→Int} {n:Nat} {l:List Cl} (h:Srt key l):BS key n l:=fun i j hj hi _=>zqw h hi hj
theorem BS.srt {key:Cl→Int} {n:Nat} {l:List Cl} (h:BS key n l) (hl:l.length≤n):Srt key l:=by
 refine List.pairwise_iff_getElem.2 fun i j hi hj hij=>h i j hj (Nat.le_of_lt hij) ?_;rw [Nat.div_eq_of_lt (by omega),Nat.div_eq_of_lt (by omega)]
theorem BS.app {key:Cl→Int} {n q:Nat} {P Q:List Cl} (hn:0<n) (hP:P.length=q*n) (h1:BS key n P) (h2:BS key n Q):BS key n (P++Q):=fun i j hj hi he=>by
 by_cases hjp:j<P.length
 ·rw [List.getElem_append_left (by omega),List.getElem_append_left hjp];exact h1 i j hjp hi he
 ·have hq:q≤j / n:=by rw [Nat.le_div_iff_mul_le hn];omega
  have hip:P.length≤i:=by
   rcases Nat.lt_or_ge i P.length with h | h
   ·have:i / n<q:=by rw [Nat.div_lt_iff_lt_mul hn];omega
    omega
   ·exact h
  rw [List.getElem_append_right hip,List.getElem_append_right (by omega)];refine h2 (i-P.length) (j-P.length) (by simp at hj;omega) (by omega) ?_;have e1:i=(i-P.length)+q*n:=by omega
  have e2:j=(j-P.length)+q*n:=by omega
  rw [e1,e2,Nat.add_mul_div_right _ _ hn,Nat.add_mul_div_right _ _ hn] at he;omega
theorem BS.left {key:Cl→Int} {n:Nat} {P Q:List Cl} (h:BS key n (P++Q)):BS key n P:=fun i j hj hi he=>by
 have:=h i j (by simp;omega) hi he
 rwa [List.getElem_append_left (by omega),List.getElem_append_left hj] at this
theorem BS.right {key:Cl→Int} {n q:Nat} {P Q:List Cl} (hn:0<n) (hP:P.length=q*n) (h:BS key n (P++Q)):BS key n Q:=fun i j hj hi he=>by
 have:=h (P.length+i) (P.length+j) (by simp;omega) (by omega) (by rw [hP,Nat.add_comm,Nat.add_comm (q*n) j,Nat.add_mul_div_right _ _ hn,Nat.add_mul_div_right _ _ hn,he]);rw [List.getElem_append_right (by omega),List.getElem_append_right (by omega)] at this;simpa using this
theorem sym_in {key:Cl→Int} {cmp:Cl × Cl × Int→Prop} (hc:ztt key cmp) {A S T B:List Cl} {a m b:Int} (ha:a=(A.length:Int)) (hm:m=((A.length+S.length:Nat):Int)) (hb:b=((A.length+S.length+T.length:Nat):Int)) (hS:S≠[]) (hT:T≠[]) (h1:Srt key S) (h2:Srt key T)
  (hl:(A++S++T++B).length<4611686018427387904):za (A++S++T++B) a m b cmp (A++srt key (S++T)++B):=by
 subst ha;subst hm;subst hb;exact ⟨_,sym_n hc _ A S T B (Nat.le_refl _) hS hT h1 h2 hl⟩
section
variable {key : Cl → Int} {cmp : Cl × Cl × Int → Prop} {xs : List Cl} {r : List Cl}
theorem st_l2 (hc:ztt key cmp) (hn:xs.length<1152921504606846976) {bs:Nat} (hbs:0<bs) (hbn:bs<xs.length) {L1:List Cl→Int→Prop} (hL:∀Q,BS key (2*bs) Q→SEq key xs Q→L1 Q ((bs:Int)*2)):
  ∀(f:Nat) (P R:List Cl) (q:Nat),R.length≤f→P.length=q*(2*bs)→BS key (2*bs) P→BS key bs R→SEq key xs (P++R) →
   ∃k,zb.l2 (xs.length:Int) cmp (bs:Int) (zb.j2 L1 (xs.length:Int) cmp (bs:Int)) k (P++R) (P.length:Int) ((P.length:Int)+2*(bs:Int)):=by
 intro f
 induction f with
 | zero=>
  intro P R q hf hP h1 h2 h3;have:=List.eq_nil_of_length_eq_zero (show R.length=0 by omega);subst this;have hl:=h3.length;simp at hl;refine ⟨1,fun h=>absurd (dt0 h) (by omega),fun _=>⟨zh (by omega) (by omega),fun h=>absurd (dt0 h) (by omega),fun _=>⟨zh (by omega) (by omega), ?_⟩⟩⟩;rw [List.append_nil] at h3 ⊢;exact hL P h1 h3
 | succ f ih=>
  intro P R q hf hP h1 h2 h3;have hl:=h3.length;simp at hl
  by_cases hle:P.length+2*bs≤xs.length
  ·obtain ⟨S,R1,rfl,hS⟩:=zf4 R (show bs≤R.length by omega);simp at hl;obtain ⟨T,R2,rfl,hT⟩:=zf4 R1 (show bs≤R1.length by omega);simp at hl hf;have hSs:=h2.left.srt (by omega);have h2':=BS.right hbs (q:=1) (by omega) h2;have hTs:=h2'.left.srt (by omega);have h2'':=BS.right hbs (q:=1) (by omega) h2';have hP2:(P++srt key (S++T)).length=(q+1)*(2*bs):=by simp [zhr,hP,Nat.add_mul];omega
   obtain ⟨k,hk⟩:=ih (P++srt key (S++T)) R2 (q+1) (by omega) hP2 (BS.app (by omega) hP h1 (BS.of_srt (zjg _ _))) h2'' (h3.trans (by
    have:=(SEq.refl key P).app ((zg5 key (S++T)).app (SEq.refl key R2));simpa using this))
   refine ⟨k+1,fun _=>⟨zh (by omega) (by omega),P++srt key (S++T)++R2, ?_,zh (by omega) (by omega),zh (by omega) (by omega), ?_⟩,fun h=>absurd (by omega) (df0 h)⟩
   ·have:=sym_in hc (A:=P) (S:=S) (T:=T) (B:=R2) (a:=(P.length:Int)) (m:=(P.length:Int)+(bs:Int)) (b:=(P.length:Int)+2*(bs:Int)) rfl (by omega) (by omega) (by rintro rfl;simp at hS;omega) (by rintro rfl;simp at hT;omega) hSs hTs (by simp;omega);simpa using this
   ·have e:(((P++srt key (S++T)).length:Nat):Int)=(P.length:Int)+2*(bs:Int):=by simp [zhr];omega
    rw [e] at hk;exact hk
  ·by_cases hm:P.length+bs<xs.length
   ·obtain ⟨S,T,rfl,hS⟩:=zf4 R (show bs≤R.length by omega);simp at hl;have hSs:=h2.left.srt (by omega);have hTs:=(BS.right hbs (q:=1) (by omega) h2).srt (by omega);refine ⟨1,fun h=>absurd (dt0 h) (by omega),fun _=>⟨zh (by omega) (by omega),fun _=>⟨P++srt key (S++T)++[], ?_,zh (by omega) (by omega), ?_⟩,fun h=>absurd (by omega) (df0 h)⟩⟩
    ·have:=sym_in hc (A:=P) (S:=S) (T:=T) (B:=[]) (a:=(P.length:Int)) (m:=(P.length:Int)+(bs:Int)) (b:=(xs.length:Int)) rfl (by omega) (by omega) (by rintro rfl;simp at hS;omega) (by rintro rfl;simp at hl;omega) hSs hTs (by simp;omega);simpa using this
    ·rw [List.append_nil];exact hL _ (BS.app (by omega) hP h1 (BS.of_srt (zjg _ _))) (h3.trans (by
      have:=(SEq.refl key P).app (zg5 key (S++T));simpa using this))
   ·refine ⟨1,fun h=>absurd (dt0 h) (by omega),fun _=>⟨zh (by omega) (by omega),fun h=>absurd (dt0 h) (by omega),fun _=>⟨zh (by omega) (by omega), ?_⟩⟩⟩;exact hL _ (BS.app (by omega) hP h1 (BS.of_srt (h2.srt (by omega)))) h3
theorem st_l1 (hc:ztt key cmp) (hn:xs.length<1152921504606846976):∀(f:Nat) (bs:Nat) (Q:List Cl),xs.length-bs≤f→0<bs→BS key bs Q→SEq key xs Q →
  zb.l1 (xs.length:Int) cmp (zb.j1 (srt key xs)) (f+1) Q (bs:Int):=by
 intro f
 induction f with
 | zero=>
  intro bs Q hf hbs h1 h2;have hl:=h2.length;exact ⟨fun h=>absurd (dt0 h) (by omega),fun _=>(zi4 (h1.srt (by omega)) h2).symm⟩
 | succ f ih=>
  intro bs Q hf hbs h1 h2;have hl:=h2.length
  by_cases hlt:bs<xs.length
  ·refine ⟨fun _=>⟨zh (by omega) (by omega), ?_⟩,fun h=>absurd (by omega) (df0 h)⟩;have:=st_l2 hc hn hbs hlt (L1:=zb.l1 (xs.length:Int) cmp (zb.j1 (srt key xs)) (f+1)) (fun Q' hb hs=>by
    have:=ih (2*bs) Q' (by omega) (by omega) hb hs
    rwa [show (((2*bs:Nat)):Int)=(bs:Int)*2 by omega] at this) Q.length [] Q 0 (Nat.le_refl _) (by simp) (fun i j hj=>by simp at hj) h1 (by simpa using h2)
   simpa using this
  ·exact ⟨fun h=>absurd (dt0 h) (by omega),fun _=>(zi4 (h1.srt (by omega)) h2).symm⟩
theorem st_l3 (hc:ztt key cmp) (hn:xs.length<1152921504606846976):∀(f:Nat) (P R:List Cl) (q:Nat),R.length≤f→P.length=q*20→BS key 20 P→SEq key xs (P++R) →
  ∃k,zb.l3 (xs.length:Int) cmp (zb.j3 (xs.length:Int) cmp (srt key xs)) k (P++R) (P.length:Int) ((P.length:Int)+20):=by
 intro f;have fin:∀(P R:List Cl) (q:Nat),P.length=q*20→BS key 20 P→SEq key xs (P++R)→R.length≤20→zb.j3 (xs.length:Int) cmp (srt key xs) (P++R) (P.length:Int):=by
  intro P R q hP h1 h3 hR;have hl:=h3.length;simp at hl;have:=ins_in hc (A:=P) (S:=R) (B:=[]) (a:=(P.length:Int)) (b:=(xs.length:Int)) rfl (by omega) (by simp;omega);refine ⟨P++srt key R,by simpa using this,_,st_l1 hc hn xs.length 20 _ (by omega) (by omega) (BS.app (by omega) hP h1 (BS.of_srt (zjg _ _))) (h3.trans ((SEq.refl key P).app (zg5 key R)))⟩
 induction f with
 | zero=>
  intro P R q hf hP h1 h3;have hl:=h3.length;simp at hl;exact ⟨1,fun h=>absurd (dt0 h) (by omega),fun _=>fin P R q hP h1 h3 (by omega)⟩
 | succ f ih=>
  intro P R q hf hP h1 h3;have hl:=h3.length;simp at hl
  by_cases hle:P.length+20≤xs.length
  ·obtain ⟨S,R1,rfl,hS⟩:=zf4 R (show 20≤R.length by omega);simp at hl hf;have hP2:(P++srt key S).length=(q+1)*20:=by simp [zhr,hP,Nat.add_mul];omega
   obtain ⟨k,hk⟩:=ih (P++srt key S) R1 (q+1) (by omega) hP2 (BS.app (by omega) hP h1 (BS.of_srt (zjg _ _))) (h3.trans (by
    have:=(SEq.refl key P).app ((zg5 key S).app (SEq.refl key R1));simpa using this))
   refine ⟨k+1,fun _=>⟨P++srt key S++R1, ?_,zh (by omega) (by omega), ?_⟩,fun h=>absurd (by omega) (df0 h)⟩
   ·have:=ins_in hc (A:=P) (S:=S) (B:=R1) (a:=(P.length:Int)) (b:=(P.length:Int)+20) rfl (by omega) (by simp;omega);simpa using this
   ·have e:(((P++srt key S).length:Nat):Int)=(P.length:Int)+20:=by simp [zhr];omega
    rw [e] at hk;exact hk
  ·exact ⟨1,fun h=>absurd (dt0 h) (by omega),fun _=>fin P R q hP h1 h3 (by omega)⟩
theorem stable_in (hc:ztt key cmp) (hn:xs.length<1152921504606846976):zbp xs cmp (srt key xs):=by
 have:=st_l3 hc hn xs.length [] xs 0 (Nat.le_refl _) (by simp) (fun i j hj=>by simp at hj) (SEq.refl _ _);refine ⟨_, ?_,rfl⟩;unfold zb;simpa using this
end
end Go.Proofs.YtahgmdbioafmbaaGreatDoor.V
namespace Go.Proofs.YtahgmdbioafmbaaGreatDoor.V
open Go
set_option linter.unusedVariables false
theorem lk0_le (p:Cl):0≤lk0 p∧lk0 p≤255:=by
 unfold lk0
 by_cases h:0<p.count
 ·obtain ⟨n,h1,h2,_,_⟩:=zs1 h;rw [h2];simp;omega
 ·have:p.least=(0,false):=ziz fun m hm=>by
   cases hb:p.has m
   ·rfl
   ·exact absurd (count_pos hm hb) h
  rw [this];simp
theorem split_cmp:ztt lk0 (fun q_=>zfa q_.1 q_.2.1 (fun q_=>zep q_.1 q_.2) q_.2.2):=fun x y=>by
 have h1:=lk0_le x;have h2:=lk0_le y;exact ⟨lk0 x,⟨_,zh3,rfl⟩,lk0 y,⟨_,zh3,rfl⟩,zh (by omega) (by omega),rfl⟩
theorem flat_len2 (a:Cl) (l:List Cl):(l.flatMap (zhm a)).length≤2*l.length:=by
 induction l with
 | nil=>simp
 | cons p l ih=>
  rw [List.flatMap_cons,List.length_append];have:(zhm a p).length≤2:=by
   have:=List.length_filter_le (fun q:Cl=>decide (0<q.count)) [p &&& a,p &&& ~~~ a];simpa [zhm] using this
  rw [List.length_cons];omega
theorem zok {ps:List Cl} {a:Cl} (hl:ps.length≤1073741823):zbb ps a (zol ps a):=by
 refine zf2 (P:=fun k (s:List Cl) v=>zbb.l1 ps a _ k s v) ps.length (fun i s=>s=(ps.take i).flatMap (zhm a)) ?_ ?_ _ (by simp)
 ·rintro i s hi rfl;refine .inr ⟨_,rfl,fun k h=>⟨fun _=>⟨ps[i],by rw [zbw];simp [hi],_,zl8,_,znf,_,zl8, ?_⟩,fun h=>absurd (by omega) (df h)⟩⟩;have hb:=flat_len2 a (ps.take i);simp only [List.length_take] at hb;refine zf2 (P:=fun k (s:List Cl) v=>zbb.l2 _ _ _ k s v) 2 (fun j s=>s=(ps.take i).flatMap (zhm a)++([ps[i] &&& a,ps[i] &&& ~~~ a].take j).filter fun q=>decide (0<q.count)) ?_ ?_ _ (by simp)
  ·rintro j s hj rfl;have hlen:(([ps[i] &&& a,ps[i] &&& ~~~ a].take j).filter fun q=>decide (0<q.count)).length≤1:=by
    have:=List.length_filter_le (fun q:Cl=>decide (0<q.count)) ([ps[i] &&& a,ps[i] &&& ~~~ a].take j);simp at this;omega
   refine .inr ⟨_,rfl,fun k h=>⟨fun _=>⟨[ps[i] &&& a,ps[i] &&& ~~~ a][j],by rw [zbw];simp [hj],_,zqn,fun hc=>?_,fun hc=>?_⟩,fun h=>absurd (by simp;omega) (df h)⟩⟩
   ·have hc:=dt hc;rw [List.take_succ_eq_append_getElem (by simpa using hj),List.filter_append,List.filter_cons_of_pos (by simp;omega),List.filter_nil,← List.append_assoc] at h;exact ⟨by simp only [List.length_append,List.length_cons,List.length_nil];omega,zh (by omega) (by omega),h⟩
   ·have hc:=df hc;rw [List.take_succ_eq_append_getElem (by simpa using hj),List.filter_append,List.filter_cons_of_neg (by simp;omega),List.filter_nil,List.append_nil] at h;exact ⟨zh (by omega) (by omega),h⟩
  ·rintro s rfl k2;refine ⟨fun h=>absurd (dt h) (by simp),fun _=>⟨zh (by omega) (by omega), ?_⟩⟩;rw [List.take_succ_eq_append_getElem hi,List.flatMap_append] at h;simpa [zhm] using h
 ·rintro s rfl k;refine ⟨fun h=>absurd (dt h) (by omega),fun _=>⟨_,stable_in split_cmp ?_, ?_⟩⟩
  ·have:=flat_len2 a (ps.take ps.length);simp only [List.length_take,Nat.min_self] at this;omega
  ·simp [zol]
theorem zom (l:List Cl) (i:Nat):(zhf (l.take i)).length≤256:=by
 rw [splitP_eq];have:=heads_len (l.take i);simpa [parts] using this
theorem zpz {l:List Cl} (hl:l.length≤1073741823):zcq l (zhf l):=by
 refine ⟨_,znf, ?_⟩;refine zf2 (P:=fun k (s:List Cl) v=>zcq.l1 l _ k s v) l.length (fun i s=>s=zhf (l.take i)) ?_ ?_ _ (by simp [zhf])
 ·rintro i s hi rfl;have:=zom l i;refine .inr ⟨_,rfl,fun k h=>⟨fun _=>⟨l[i],by rw [zbw];simp [hi],_,zok (by omega),zh (by omega) (by omega), ?_⟩,fun h=>absurd (by omega) (df h)⟩⟩;have e:zhf (l.take i++[l[i]])=zol (zhf (l.take i)) l[i]:=by unfold zhf;rw [List.foldl_append];rfl
  rw [List.take_succ_eq_append_getElem hi,e] at h;exact h
 ·rintro s rfl k;exact ⟨fun h=>absurd (dt h) (by omega),fun _=>by rw [List.take_length];rfl⟩
theorem zp1 {l:List Cl} (hl:l.length≤1073741823):zcr l (zon l):=by
 refine ⟨_,zpz hl, ?_⟩;have hlen:=zom l l.length;rw [List.take_length] at hlen;refine zf2 (P:=fun k (s:List Int) v=>zcr.l1 (zhf l) _ k s v) (zhf l).length (fun i s=>s=((zhf l).take i).map lk0) ?_ ?_ _ (by simp)
 ·rintro i s hi rfl;refine .inr ⟨_,rfl,fun k h=>⟨fun _=>⟨(zhf l)[i],by rw [zbw];simp [hi],_,zh3,by simp;omega,zh (by omega) (by omega), ?_⟩,fun h=>absurd (by omega) (df h)⟩⟩;rw [List.take_succ_eq_append_getElem hi,List.map_append] at h;exact h
 ·rintro s rfl k;exact ⟨fun h=>absurd (dt h) (by omega),fun _=>by rw [List.take_length];rfl⟩
theorem zhw {a b:List Int} (ha:a.length<9223372036854775807):zcc a b (decide (a=b)):=by
 refine ⟨fun h=>?_,fun h=>?_⟩
 ·simp at h;exact decide_eq_false fun e=>by subst e;omega
 ·have hl:a.length=b.length:=by simp at h;omega
  refine zf2 (P:=fun k (_:Unit) v=>zcc.l1 a b (decide (a=b)) _ k v) a.length (fun i _=>∀j (hj:j<i) (h1:j<a.length),a[j]=b[j]'(by omega)) ?_ ?_ () (by intro j hj;omega)
  ·intro i s hi hs;have hat:at? a (i:Int)=some a[i]:=by rw [zbw];simp [hi]
   have hbt:at? b (i:Int)=some (b[i]'(by omega)):=by rw [zbw];simp [show i<b.length by omega]
   by_cases he:a[i]=b[i]'(by omega)
   ·refine .inr ⟨(),fun j hj h1=>?_,fun k h=>⟨fun _=>⟨_,hat,_,hbt,fun h=>by simp [he] at h,fun _=>⟨zh (by omega) (by omega),h⟩⟩,fun h=>absurd (by omega) (df h)⟩⟩
    by_cases hji:j=i
    ·subst hji;exact he
    ·exact hs j (by omega) h1
   ·exact .inl fun k=>⟨fun _=>⟨_,hat,_,hbt,fun _=>decide_eq_false fun e=>he (by subst e;rfl),fun h=>by simp at h;exact absurd h he⟩,fun h=>absurd (by omega) (df h)⟩
  ·intro s hs k;refine ⟨fun h=>absurd (dt h) (by omega),fun _=>?_⟩;show decide (a=b)=true;exact decide_eq_true (List.ext_getElem hl fun j h1 h2=>hs j h1 h1)
theorem zsm {l:List Cl} {c d:Nat} (hc:c<256) (hd:d<256) (hl:l.length<9223372036854775807):zc5 l (c:Int) (d:Int) (zgl l c d):=by
 refine zf2 (P:=fun k (_:Unit) v=>zc5.l1 l (c:Int) (d:Int) (zgl l c d) _ k v) l.length (fun i _=>∀j (hj:j<i) (h1:j<l.length),l[j].has c=l[j].has d) ?_ ?_ () (by intro j hj;omega)
 ·intro i s hi hs;have hat:at? l (i:Int)=some l[i]:=by rw [zbw];simp [hi]
  by_cases he:l[i].has c=l[i].has d
  ·refine .inr ⟨(),fun j hj h1=>?_,fun k h=>⟨fun _=>⟨_,hat,_,zf9 hc,_,hat,_,zf9 hd,fun h=>by simp [he] at h,fun _=>⟨zh (by omega) (by omega),h⟩⟩,fun h=>absurd (by omega) (df h)⟩⟩
   by_cases hji:j=i
   ·subst hji;exact he
   ·exact hs j (by omega) h1
  ·refine .inl fun k=>⟨fun _=>⟨_,hat,_,zf9 hc,_,hat,_,zf9 hd,fun _=>?_,fun h=>by simp at h;exact absurd h he⟩,fun h=>absurd (by omega) (df h)⟩;cases hk:zgl l c d
   ·rfl
   ·unfold zgl at hk;rw [List.all_eq_true] at hk;exact absurd (eq_of_beq (hk _ (List.getElem_mem hi))) he
 ·intro s hs k;refine ⟨fun h=>absurd (dt h) (by omega),fun _=>?_⟩;show zgl l c d=true;unfold zgl;rw [List.all_eq_true];intro a ha;obtain ⟨j,hj,rfl⟩:=List.mem_iff_getElem.1 ha;rw [hs j hj hj];simp
def zd6 (l:List Cl) (c:Nat):List Nat:=(List.range c).filter fun c=>(List.range c).all fun d=>!zgl l d c
theorem headsTo_len (l:List Cl) (c:Nat):(zd6 l c).length≤c:=by
 have:=List.length_filter_le (fun c=>(List.range c).all fun d=>!zgl l d c) (List.range c);simpa [zd6] using this
theorem zlc {l:List Cl} {c h:Nat}:h∈zd6 l c↔h<c∧∀d,d<h→zgl l d h=false:=by simp [zd6]
theorem head_any {l:List Cl} {c:Nat} (hc:c<256):((zd6 l c).any fun h=>zgl l h c) = !((List.range c).all fun d=>!zgl l d c):=by
 cases h:(List.range c).all fun d=>!zgl l d c
 ·rw [Bool.not_false,List.any_eq_true];have:∃d,d<c∧zgl l d c=true:=by
   rw [List.all_eq_false] at h;obtain ⟨d,hd,h2⟩:=h;exact ⟨d,by simpa using hd,by simpa using h2⟩
  obtain ⟨d,hd,h2⟩:=this;obtain ⟨e,he,hed,hel⟩:=head_of (l:=l) (c:=d) (by omega);exact ⟨e,zlc.2 ⟨by omega,(zgc.1 he).2⟩,zih hel h2⟩
 ·rw [Bool.not_true,List.any_eq_false];rw [List.all_eq_true] at h;intro e he;have:=h e (by simpa using (zlc.1 he).1);simpa using this
theorem headsTo_succ (l:List Cl) (c:Nat):zd6 l (c+1)=if ((List.range c).all fun d=>!zgl l d c)=true then zd6 l c++[c] else zd6 l c:=by
 unfold zd6;rw [List.range_succ,List.filter_append];split
 ·rename_i h;rw [List.filter_cons_of_pos (by exact h)];rfl
 ·rename_i h;rw [List.filter_cons_of_neg (by exact h)];simp
theorem zqh {l:List Cl} (hl:l.length<9223372036854775807):zbe l (zon l):=by
 rw [zll];refine zf2 (P:=fun k (s:List Int) v=>zbe.l1 l _ k s v) 256 (fun c s=>s=(zd6 l c).map (fun n:Nat=>(n:Int))) ?_ ?_ _ (by simp [zd6])
 ·rintro c s hc rfl;have hlen:=headsTo_len l c;refine .inr ⟨_,rfl,fun k h=>⟨fun _=>?_,fun h=>absurd (by omega) (df h)⟩⟩;have hbase:∀b:Bool,b=(!(zd6 l c).any fun h=>zgl l h c)→zbe.j2 (zbe.l1 l (zbe.j1 ((zgm l).map (fun n:Nat=>(n:Int)))) k) ((zd6 l c).map (fun n:Nat=>(n:Int))) (c:Int) b:=by
   intro b hb;rw [head_any hc,Bool.not_not] at hb;rw [headsTo_succ,← hb] at h;refine ⟨fun h2=>⟨by simp;omega,zh (by omega) (by omega), ?_⟩,fun h2=>⟨zh (by omega) (by omega), ?_⟩⟩
   ·rw [show (c:Int) % 256=c by omega];rw [if_pos h2] at h;simpa using h
   ·rw [if_neg (by rw [h2];simp)] at h;exact h
  refine zf2 (P:=fun k (s:Bool) v=>zbe.l2 l ((zd6 l c).map (fun n:Nat=>(n:Int))) (c:Int) _ k s v) (zd6 l c).length (fun i s=>s = !((zd6 l c).take i).any fun h=>zgl l h c) ?_ ?_ _ (by simp)
  ·rintro i s hi rfl;cases ha:((zd6 l c).take i).any fun h=>zgl l h c
   ·refine .inr ⟨_,rfl,fun k2 h3=>⟨fun _=>⟨(((zd6 l c)[i]:Nat):Int),by rw [zbw];simp [hi],zgl l (zd6 l c)[i] c, ?_,zh (by omega) (by omega), ?_⟩,fun h4=>?_⟩⟩
    ·rw [show (c:Int) % 256=c by omega];exact zsm (by have:=(zlc.1 (List.getElem_mem hi)).1;omega) hc hl
    ·rw [List.take_succ_eq_append_getElem hi,List.any_append,ha] at h3;simpa using h3
    ·simp [hi] at h4
   ·refine .inl fun k2=>⟨fun h4=>by simp at h4,fun _=>hbase _ ?_⟩;have:((zd6 l c).any fun h=>zgl l h c)=true:=by
     rw [List.any_eq_true] at ha ⊢;obtain ⟨x,hx,hx2⟩:=ha;exact ⟨x,List.mem_of_mem_take hx,hx2⟩
    rw [this]
  ·rintro s rfl k2;rw [List.take_length];exact ⟨fun h4=>by simp at h4,fun _=>hbase _ rfl⟩
 ·rintro s rfl k;exact ⟨fun h=>absurd (dt h) (by omega),fun _=>rfl⟩
theorem zdt {α:Type} {xs:List α} {i:Nat} (h:i<xs.length):at? xs (i:Int)=some xs[i]:=by rw [zbw];exact List.getElem?_eq_getElem h
theorem zq4 {α:Type} [DecidableEq α]:∀{a b:List α},a.Nodup→b.Nodup→(∀x,x∈a↔x∈b)→a.Perm b
 | [],b,_,_,h=>by
  cases b with
  | nil=>exact .refl _
  | cons y b=>exact absurd ((h y).2 (by simp)) (by simp)
 | x::a,b,ha,hb,h=>by
  rw [List.nodup_cons] at ha;have hx:=(h x).1 (by simp);refine (List.Perm.cons x (zq4 ha.2 (hb.erase x) fun y=>?_)).trans (List.perm_cons_erase hx).symm;rw [hb.mem_erase_iff];constructor
  ·intro hy;exact ⟨fun e=>ha.1 (by rw [← e];exact hy),(h y).1 (by simp [hy])⟩
  ·rintro ⟨h1,h2⟩;exact (List.mem_cons.1 ((h y).2 h2)).resolve_left h1
theorem item_StartS {d:List SNode} (h:d≠[]) (hl:d.length≤1000):zko d (stS d):=by
 have:=List.length_pos_iff.2 h;exact ⟨zh (by omega) (by omega),rfl⟩
theorem zln {d:List SNode} (h:d≠[]) (hl:d.length≤1000):zh8 d [stS d]:=⟨_,item_StartS h hl,rfl⟩
theorem zp7 {d:List SNode} (h:d≠[]) (hl:d.length≤1000):zit d [stS d]:=by
 have:=List.length_pos_iff.2 h;exact ⟨zh (by omega) (by omega),rfl⟩
def mS (L:List (List SItem)):List (Str × List SItem):=L.foldl (fun m t=>zgb m (keyS t) t) []
theorem mS_snoc (L:List (List SItem)) (t:List SItem):mS (L++[t])=zgb (mS L) (keyS t) t:=by unfold mS;rw [List.foldl_append];rfl
theorem mS_inv (L:List (List SItem)):((mS L).map (·.2)).Nodup∧∀p,p∈mS L↔p.2∈L∧p.1=keyS p.2:=by
 have:∀n (L:List (List SItem)),L.length=n→((mS L).map (·.2)).Nodup∧∀p,p∈mS L↔p.2∈L∧p.1=keyS p.2:=by
  intro n
  induction n with
  | zero=>intro L hL;rw [List.length_eq_zero_iff.1 hL];exact ⟨List.nodup_nil,by simp [mS]⟩
  | succ n ih=>
   intro L hL;have hne:L≠[]:=fun e=>by subst e;simp at hL
   rw [← List.dropLast_concat_getLast hne];obtain ⟨i1,i2⟩:=ih L.dropLast (by simp [hL]);generalize L.dropLast=A at *;generalize L.getLast hne=t at *;rw [mS_snoc];unfold zgb;cases hh:zie (mS A) (keyS t)
   ·simp only [cond_false];have hno:t ∉ A:=fun h=>by
     have h1:=(i2 (keyS t,t)).2 ⟨h,rfl⟩;have:zie (mS A) (keyS t)=true:=by
      unfold zie;rw [List.any_eq_true];exact ⟨_,h1,by simp⟩
     rw [hh] at this;cases this
    refine ⟨?_,fun p=>?_⟩
    ·rw [List.map_append,List.nodup_append];refine ⟨i1,by simp,fun a ha b hb e=>?_⟩;simp at hb;subst hb;subst e;obtain ⟨p,hp,rfl⟩:=List.mem_map.1 ha;exact hno ((i2 p).1 hp).1
    ·rw [List.mem_append,i2,List.mem_singleton,List.mem_append,List.mem_singleton];constructor
     ·rintro (⟨h1,h2⟩ | rfl)
      ·exact ⟨.inl h1,h2⟩
      ·exact ⟨.inr rfl,rfl⟩
     ·rintro ⟨h1 | h1,h2⟩
      ·exact .inl ⟨h1,h2⟩
      ·exact .inr (Prod.ext (by rw [h2,h1]) h1)
   ·have hh':=hh;unfold zie at hh';rw [List.any_eq_true] at hh';obtain ⟨q,hq1,hq2⟩:=hh';have hqk:q.1=keyS t:=by simpa using hq2
    have hq3:=(i2 q).1 hq1;have hqt:q.2=t:=zgw.1 (by rw [← hq3.2,hqk]);have hta:t∈A:=by rw [← hqt];exact hq3.1
    simp only [cond_true];have hmap:∀f:Str × List SItem→Str × List SItem,(∀p∈mS A,f p=p)→(mS A).map f=mS A:=fun f hf=>by
     conv=>rhs;rw [← List.map_id (mS A)]
     exact List.map_congr_left hf
    rw [hmap _ fun p hp=>?_]
    rotate_left
    ·by_cases hpk:p.1=keyS t
     ·have hp3:=(i2 p).1 hp;have:p.2=t:=zgw.1 (by rw [← hp3.2,hpk]);have e:p=(keyS t,t):=Prod.ext hpk this;rw [e];simp
     ·exact (congrArg (fun b=>bif b then (keyS t,t) else p) (decide_eq_false hpk)).trans rfl
    refine ⟨i1,fun p=>?_⟩;rw [i2,List.mem_append,List.mem_singleton];constructor
    ·rintro ⟨h1,h2⟩;exact ⟨.inl h1,h2⟩
    ·rintro ⟨h1 | h1,h2⟩
     ·exact ⟨h1,h2⟩
     ·exact ⟨by rw [h1];exact hta,h2⟩
 exact this _ L rfl
structure Room (d:List SNode) (c:Int) (l:List (List SItem)):Prop where
 sm:∀s∈l,Sm d s
 len:l.length≤2000000000
 cov:∃K:List (List SItem),K.length≤2000000000∧∀s∈l,∀t∈zel d c s,t∈K
theorem zj7 {d:List SNode} {s:List SItem} (h:Sm d s) {c:Int} (hc:InR .u8 c) {t:List SItem} (ht:t∈zel d c s):t.length≤1000:=by
 have:=(step_ok h.rt.toROk h.form hc t ht).2;have:=h.slen;have:=h.len;omega
theorem zqz {d:List SNode} {l:List (List SItem)} {c:Int} (hr:Room d c l) (hc:InR .u8 c):zcs d l c (onS d c l):=by
 have hll:=hr.len;obtain ⟨K,k1,k2⟩:=hr.cov;refine zri (P:=fun k m v=>zcs.l1 d l c _ k m v) l.length (fun i m=>m=mS ((l.take i).flatMap fun s=>zir (zel d c s))) ?_ ?_ _ (by simp [mS])
 ·rintro i m k hi rfl hk;have hsm:=hr.sm _ (List.getElem_mem hi);obtain ⟨o,o1,_,o3⟩:=on_step hsm hc;have ho:o.map (·.1)=zir (zel d c l[i]):=can_set o3 fun t=>by rw [← List.count_pos_iff];omega
  have hol:o.length≤2000000000:=by
   have:=zlo (A:=zel d c l[i]) (K:=K) fun t ht=>k2 _ (List.getElem_mem hi) t ht;rw [← ho,List.length_map] at this;omega
  refine ⟨fun _=>⟨_,zdt hi,o,o1, ?_⟩,fun h=>absurd (by omega) (df h)⟩;refine zri (P:=fun k m v=>zcs.l2 o _ k m v) o.length (fun j m=>m=mS (((l.take i).flatMap fun s=>zir (zel d c s))++(o.map (·.1)).take j)) ?_ ?_ _ (by simp)
  ·rintro j m k' hj rfl hk';have hmem:o[j].1∈zel d c l[i]:=zdz.1 (by rw [← ho];exact List.mem_map.2 ⟨_,List.getElem_mem hj,rfl⟩);have hlen:=zj7 hsm hc hmem;refine ⟨fun _=>⟨_,zdt hj,_,zpc hlen,zh (by omega) (by omega),hk' _ ?_⟩,fun h=>absurd (by omega) (df h)⟩;rw [List.take_succ_eq_append_getElem (by simpa using hj),← List.append_assoc,mS_snoc];simp
  ·rintro m rfl k';refine ⟨fun h=>absurd (dt h) (by omega),fun _=>⟨zh (by omega) (by omega),hk _ ?_⟩⟩;rw [List.take_of_length_le (l:=o.map (·.1)) (by simp),List.take_succ_eq_append_getElem hi,List.flatMap_append,ho];simp
 ·rintro m rfl k;refine ⟨fun h=>absurd (dt h) (by omega),fun _=>?_⟩;rw [List.take_length];obtain ⟨i1,i2⟩:=mS_inv (l.flatMap fun s=>zir (zel d c s));have hmm:∀t,t∈(mS (l.flatMap fun s=>zir (zel d c s))).map (·.2)↔t∈onS d c l:=fun t=>by
   rw [zk8,List.mem_map];constructor
   ·rintro ⟨p,hp,rfl⟩;obtain ⟨s,h1,h2⟩:=List.mem_flatMap.1 ((i2 p).1 hp).1;exact ⟨s,h1,zdz.1 h2⟩
   ·rintro ⟨s,h1,h2⟩;exact ⟨(keyS t,t),(i2 _).2 ⟨List.mem_flatMap.2 ⟨s,h1,zdz.2 h2⟩,rfl⟩,rfl⟩
  refine ⟨fun b hb=>?_, ?_,zq4 (zrs (zf7 _)) i1 fun t=>(hmm t).symm,zf7 _⟩
  ·obtain ⟨s,h1,h2⟩:=zk8.1 ((hmm b).1 hb);exact zj7 (hr.sm s h1) hc h2
  ·have:=ziy (U:=K) i1 fun t ht=>by
    obtain ⟨s,h1,h2⟩:=zk8.1 ((hmm t).1 ht);exact k2 s h1 t h2
   omega
theorem ref16_On_in {d:List SNode} {l:List (List SItem)} {c:Int} (hr:Room d c l) (hc:InR .u8 c):zbl d l c (onS d c l):=by
 have hll:=hr.len;obtain ⟨K0,k1,k2⟩:=hr.cov;have hK:∃K:List (List SItem),K.length≤2000000000∧(∀t∈K,t.length≤1000)∧∀s∈l,∀t∈zel d c s,t∈K:=
  ⟨K0.filter fun t=>decide (t.length≤1000),Nat.le_trans (List.length_filter_le _ _) k1,fun t ht=>by simpa using (List.mem_filter.1 ht).2,fun s hs t ht=>List.mem_filter.2 ⟨k2 s hs t ht,by simpa using zj7 (hr.sm s hs) hc ht⟩⟩
 obtain ⟨K,j1,j2,j3⟩:=hK;have bnd:∀(L:List (List SItem)) (m:List SBranch),(∀t∈L,t∈K)→Can (fun t=>L.count t) m→m.length≤2000000000∧BrOk m:=fun L m hL hm=>by
  refine ⟨Nat.le_trans (zpl hm (U:=K) fun t ht=>hL t (List.count_pos_iff.1 (by omega))) j1,fun b hb=>by have:=hm.many hb;omega,fun b hb=>j2 _ (hL _ (List.count_pos_iff.1 ?_))⟩;have:=(hm.many hb).2.1;omega
 have hin:∀i,∀t∈(l.take i).flatMap (fun s=>zir (zel d c s)),t∈K:=fun i t ht=>by
  obtain ⟨s,h1,h2⟩:=List.mem_flatMap.1 ht;exact j3 s (List.mem_of_mem_take h1) t (zdz.1 h2)
 refine zri (P:=fun k m v=>zbl.l2 d l c _ k m v) l.length (fun i m=>Can (fun t=>((l.take i).flatMap fun s=>zir (zel d c s)).count t) m) ?_ ?_ _ (Can.nil.congr fun t=>by simp)
 ·intro i m k hi hm hk;have hsm:=hr.sm _ (List.getElem_mem hi);obtain ⟨o,_,o1,o3⟩:=on_step hsm hc;have ho:o.map (·.1)=zir (zel d c l[i]):=can_set o3 fun t=>by rw [← List.count_pos_iff];omega
  have hoK:∀t∈o.map (·.1),t∈K:=fun t ht=>j3 _ (List.getElem_mem hi) t (zdz.1 (by rw [← ho];exact ht));have hol:o.length≤2000000000:=by
   have:=zlo (A:=zel d c l[i]) (K:=K) fun t ht=>j3 _ (List.getElem_mem hi) t ht;rw [← ho,List.length_map] at this;omega
  refine ⟨fun _=>⟨_,zdt hi,o,o1, ?_⟩,fun h=>absurd (by omega) (df h)⟩;refine zri (P:=fun k m v=>zbl.l3 o _ k m v) o.length (fun j m=>Can (fun t=>(((l.take i).flatMap fun s=>zir (zel d c s))++(o.map (·.1)).take j).count t) m) ?_ ?_ _ (by simpa using hm)
  ·intro j m' k' hj hm' hk';obtain ⟨b1,b2⟩:=bnd _ m' (fun t ht=>(List.mem_append.1 ht).elim (hin i t) fun h=>hoK t (List.mem_of_mem_take h)) hm';have hmem:o[j].1∈K:=hoK _ (List.mem_map.2 ⟨_,List.getElem_mem hj,rfl⟩);refine ⟨fun _=>⟨_,zdt hj,_,zjk hm'.srt b2 b1 (j2 _ hmem) (by omega),zh (by omega) (by omega),hk' _ ?_⟩,fun h=>absurd (by omega) (df h)⟩;rw [List.take_succ_eq_append_getElem (by simpa using hj),← List.append_assoc];have:=hm'.add1 o[j].1;simpa using this
  ·intro m' hm' k';refine ⟨fun h=>absurd (dt h) (by omega),fun _=>⟨zh (by omega) (by omega),hk _ ?_⟩⟩;rw [List.take_of_length_le (l:=o.map (·.1)) (by simp),ho] at hm';rw [List.take_succ_eq_append_getElem hi,List.flatMap_append];simpa using hm'
 ·intro m hm k;refine ⟨fun h=>absurd (dt h) (by omega),fun _=>?_⟩;have hb:=(bnd _ m (hin _) hm).1;rw [List.take_length] at hm;have e:m.map (·.1)=onS d c l:=can_set hm fun t=>by
   rw [List.mem_flatMap];constructor
   ·intro h;obtain ⟨s,h1,h2⟩:=List.mem_flatMap.1 (List.count_pos_iff.1 (Nat.pos_of_ne_zero h));exact ⟨s,h1,zdz.1 h2⟩
   ·rintro ⟨s,h1,h2⟩;have:=List.count_pos_iff.2 (List.mem_flatMap (f:=fun s=>zir (zel d c s)) |>.2 ⟨s,h1,zdz.2 h2⟩);omega
  refine zf2 (P:=fun k out v=>zbl.l1 m _ k out v) m.length (fun i out=>out=(m.take i).map (·.1)) ?_ ?_ _ (by simp)
  ·rintro i out hi rfl;refine .inr ⟨_,rfl,fun k hk=>⟨fun _=>⟨_,zdt hi,by simp;omega,zh (by omega) (by omega), ?_⟩,fun h=>absurd (by omega) (df h)⟩⟩;rw [List.take_succ_eq_append_getElem hi,List.map_append] at hk;exact hk
  ·rintro out rfl k;refine ⟨fun h=>absurd (dt h) (by omega),fun _=>?_⟩;show onS d c l=_;rw [List.take_length,e]
theorem idxS_in {s:List (List SItem)} {f:List SItem × Bool→Prop} {g:List SItem→Bool} (hf:∀x∈s,f (x,g x)) (hl:s.length≤140737488351232):zbt s f (s.any g):=by
 have key:∃i:Int,zm s f i∧(decide (0≤i))=s.any g:=by
  cases hc:s.any g
  ·refine ⟨-1, ?_,by decide⟩;rw [List.any_eq_false] at hc;refine zf2 (P:=fun k (_:Unit) v=>zm.l1 s f (-1) _ k v) s.length (fun _ _=>True) ?_ ?_ () trivial
   ·intro j _ hj _;exact .inr ⟨(),trivial,fun k hk=>⟨fun _=>⟨_,zdt hj,_,hf _ (List.getElem_mem hj),fun h=>absurd h (hc _ (List.getElem_mem hj)),fun _=>⟨zh (by omega) (by omega),hk⟩⟩,fun h=>absurd (by omega) (df h)⟩⟩
   ·intro _ _ k;exact ⟨fun h=>absurd (dt h) (by omega),fun _=>rfl⟩
  ·rw [List.any_eq_true] at hc;obtain ⟨x,hx,hgx⟩:=hc;have hex:∃i,∃(h:i<s.length),g s[i]=true:=by
    obtain ⟨i,hi,rfl⟩:=List.mem_iff_getElem.1 hx;exact ⟨i,hi,hgx⟩
   obtain ⟨i,⟨hi,hi2⟩,hmin⟩:=exists_least hex;refine ⟨(i:Int), ?_,by simp⟩;refine zf2 (P:=fun k (_:Unit) v=>zm.l1 s f (i:Int) _ k v) (i+1) (fun j _=>j≤i) ?_ ?_ () (by omega)
   ·intro j _ hj hle;have hat:=zdt (show j<s.length by omega);have hfj:=hf _ (List.getElem_mem (show j<s.length by omega))
    by_cases hji:j=i
    ·subst hji;rw [hi2] at hfj;exact .inl fun k=>⟨fun _=>⟨_,hat,true,hfj,fun _=>rfl,(fun h=>by cases h)⟩,fun h=>absurd (by omega) (df h)⟩
    ·have hno:g (s[j]'(by omega))=false:=by
      cases hg:g (s[j]'(by omega))
      ·rfl
      ·have:=hmin j ⟨by omega,hg⟩;omega
     rw [hno] at hfj;exact .inr ⟨(),by omega,fun k hk=>⟨fun _=>⟨_,hat,false,hfj,(fun h=>by cases h),fun _=>⟨zh (by omega) (by omega),hk⟩⟩,fun h=>absurd (by omega) (df h)⟩⟩
   ·intro _ h k;omega
 obtain ⟨i,h1,h2⟩:=key;exact ⟨i,h1,h2.symm⟩
theorem zrq (n:Nat):decide (0<sat n)=decide (n≠0):=by
 by_cases h:n=0
 ·subst h;simp [sat]
 ·rw [decide_eq_true (by unfold sat;omega),decide_eq_true h]
theorem zm9 {d:List SNode} {l:List (List SItem)} (hl:∀s∈l,Sm d s) (hn:l.length≤2000000000):zji d l (endS d l):=by
 refine ⟨_,idxS_in (g:=fun s=>decide ((hds d s).count []≠0)) (fun s hs=>⟨_,(ends_both (hl s hs)).1, ?_⟩) (by omega),rfl⟩;exact (zrq _).symm
theorem zr2 {d:List SNode} {l:List (List SItem)} (hl:∀s∈l,Sm d s) (hn:l.length≤2000000000):zcx d l (endS d l):=by
 refine zf2 (P:=fun k (_:Unit) v=>zcx.l1 d l (endS d l) _ k v) l.length (fun i _=>endS d (l.take i)=false) ?_ ?_ () rfl
 ·intro i _ hi hI;have he:=(ends_both (hl _ (List.getElem_mem hi))).2;cases hq:decide ((hds d l[i]).count []≠0)
  ·refine .inr ⟨(), ?_,fun k hk=>⟨fun _=>⟨_,zdt hi,_,he,fun h=>?_,fun _=>⟨zh (by omega) (by omega),hk⟩⟩,fun h=>absurd (by omega) (df h)⟩⟩
   ·rw [List.take_succ_eq_append_getElem hi];unfold endS at *;rw [List.any_append,hI];simp only [List.any_cons,List.any_nil,hq,Bool.or_self]
   ·rw [zrq,hq] at h;cases h
  ·refine .inl fun k=>⟨fun _=>⟨_,zdt hi,_,he,fun _=>?_,fun h=>?_⟩,fun h=>absurd (by omega) (df h)⟩
   ·unfold endS;rw [List.any_eq_true];exact ⟨_,List.getElem_mem hi,hq⟩
   ·rw [zrq,hq] at h;cases h
 ·intro _ hI k;refine ⟨fun h=>absurd (dt h) (by omega),fun _=>?_⟩;rw [List.take_length] at hI;exact hI
theorem zor {d:List SNode} {l:List (List SItem)} (hl:∀s∈l,Sm d s) (hn:l.length≤2000000000) (hc:(zkq d l).length*32≤140737488355328):zb9 d l (zkq d l):=by
 refine zf2 (P:=fun k out v=>zb9.l1 d l _ k out v) l.length (fun i out=>out=zkq d (l.take i)) ?_ ?_ _ (by simp [zkq])
 ·rintro i out hi rfl;have e:zkq d (l.take (i+1))=zkq d (l.take i)++clsA d l[i]:=by
   unfold zkq;rw [List.take_succ_eq_append_getElem hi,List.flatMap_append];simp
  refine .inr ⟨_,rfl,fun k hk=>⟨fun _=>⟨_,zdt hi,_,(clsA_in (hl _ (List.getElem_mem hi))).1, ?_,zh (by omega) (by omega),by rw [← e];exact hk⟩,fun h=>absurd (by omega) (df h)⟩⟩;have h2:zkq d l=zkq d (l.take (i+1))++zkq d (l.drop (i+1)):=by unfold zkq;rw [← List.flatMap_append,List.take_append_drop]
  have h3:=congrArg List.length h2;rw [e,List.length_append,List.length_append] at h3;omega
 ·rintro out rfl k;refine ⟨fun h=>absurd (dt h) (by omega),fun _=>?_⟩;show zkq d l=_;rw [List.take_length]
theorem zno {d:List SNode} {l:List (List SItem)} (hl:∀s∈l,Sm d s) (hn:l.length≤2000000000) (hc:(zkq d l).length*32≤140737488355328):zb2 d l (zkq d l):=by
 refine zf2 (P:=fun k out v=>zb2.l1 d l _ k out v) l.length (fun i out=>out=zkq d (l.take i)) ?_ ?_ _ (by simp [zkq])
 ·rintro i out hi rfl;have e:zkq d (l.take (i+1))=zkq d (l.take i)++clsA d l[i]:=by
   unfold zkq;rw [List.take_succ_eq_append_getElem hi,List.flatMap_append];simp
  refine .inr ⟨_,rfl,fun k hk=>⟨fun _=>⟨_,zdt hi,_,(clsA_in (hl _ (List.getElem_mem hi))).2.1, ?_,zh (by omega) (by omega),by rw [← e];exact hk⟩,fun h=>absurd (by omega) (df h)⟩⟩;have h2:zkq d l=zkq d (l.take (i+1))++zkq d (l.drop (i+1)):=by unfold zkq;rw [← List.flatMap_append,List.take_append_drop]
  have h3:=congrArg List.length h2;rw [e,List.length_append,List.length_append] at h3;omega
 ·rintro out rfl k;refine ⟨fun h=>absurd (dt h) (by omega),fun _=>?_⟩;show zkq d l=_;rw [List.take_length]
theorem sets_Once_in {l:List Cl} (hn:l.length≤140737488351232) (ho:(zd0 l).length≤2147483647):zdh l (zd0 l):=by
 have hpre:∀i,(zd0 (l.take i)).length≤(zd0 l).length:=fun i=>by
  refine ziy (zk7 _) fun x hx=>(zga l).2 (List.mem_of_mem_take ((zga _).1 hx))
 refine zf2 (P:=fun k (s:List (Cl × Bool) × List Cl) v=>zdh.l1 l _ k s.1 s.2 v) l.length (fun i s=>s.2=zd0 (l.take i)∧∀x,zex s.1 x false=decide (x∈l.take i)) ?_ ?_ ([],[]) ⟨by simp [zd0],fun x=>by simp [zex]⟩
 ·rintro i ⟨met,out⟩ hi ⟨h1,h2⟩;simp only at h1 h2;subst h1;have htk:l.take (i+1)=l.take i++[l[i]]:=List.take_succ_eq_append_getElem hi;have hnext:∀x,zex (zgb met l[i] true) x false=decide (x∈l.take (i+1)):=fun x=>by
   rw [zo7,h2,htk]
   by_cases hx:l[i]=x
   ·rw [if_pos hx];exact (decide_eq_true (List.mem_append.2 (.inr (by rw [← hx];exact List.mem_singleton.2 rfl)))).symm
   ·rw [if_neg hx];exact decide_eq_decide.2 ⟨fun h=>List.mem_append.2 (.inl h),fun h=>(List.mem_append.1 h).resolve_right fun e=>hx (List.mem_singleton.1 e).symm⟩
  have hp1:=hpre (i+1)
  by_cases hm:l[i]∈l.take i
  ·refine .inr ⟨(zgb met l[i] true,zd0 (l.take i)),⟨?_,hnext⟩,fun k hk=>⟨fun _=>⟨_,zdt hi,fun h=>?_,fun _=>⟨zh (by omega) (by omega),hk⟩⟩,fun h=>absurd (by omega) (df h)⟩⟩
   ·rw [htk,zgz,if_pos ((zga _).2 hm)]
   ·rw [h2,decide_eq_true hm] at h;cases h
  ·have e:zd0 (l.take (i+1))=zd0 (l.take i)++[l[i]]:=by rw [htk,zgz,if_neg fun h=>hm ((zga _).1 h)]
   refine .inr ⟨(zgb met l[i] true,zd0 (l.take i)++[l[i]]),⟨e.symm,hnext⟩,fun k hk=>⟨fun _=>⟨_,zdt hi,fun _=>⟨?_,zh (by omega) (by omega),hk⟩,fun h=>?_⟩,fun h=>absurd (by omega) (df h)⟩⟩
   ·rw [e] at hp1;simp only [List.length_append,List.length_cons,List.length_nil] at hp1 ⊢;omega
   ·rw [h2,decide_eq_false hm] at h;cases h
 ·rintro ⟨met,out⟩ ⟨h1,h2⟩ k;simp only at h1;subst h1;refine ⟨fun h=>absurd (dt h) (by omega),fun _=>?_⟩;show zd0 l=_;rw [List.take_length]
theorem zr0 {l:List Cl} (hn:l.length≤140737488351232) (ho:(zd0 l).length≤2147483647):zbg l (zd0 l):=by
 have hpre:∀i,(zd0 (l.take i)).length≤(zd0 l).length:=fun i=>by
  refine ziy (zk7 _) fun x hx=>(zga l).2 (List.mem_of_mem_take ((zga _).1 hx))
 refine zri (P:=fun k out v=>zbg.l1 l _ k out v) l.length (fun i out=>out=zd0 (l.take i)) ?_ ?_ [] (by simp [zd0])
 ·rintro i out k hi rfl hk;have htk:l.take (i+1)=l.take i++[l[i]]:=List.take_succ_eq_append_getElem hi;have hp0:=hpre i;have hp1:=hpre (i+1);refine ⟨fun _=>?_,fun h=>absurd (by omega) (df h)⟩;have fin:∀b:Bool,b=decide (l[i]∈zd0 (l.take i))→zbg.j2 (zbg.l1 l (zbg.j1 (zd0 l)) k) l (zd0 (l.take i)) (i:Int) b:=fun b hb=>by
   by_cases hm:l[i]∈zd0 (l.take i)
   ·rw [decide_eq_true hm] at hb;subst hb;refine ⟨(fun h=>by cases h),fun _=>⟨zh (by omega) (by omega),hk _ ?_⟩⟩;rw [htk,zgz,if_pos hm]
   ·rw [decide_eq_false hm] at hb;subst hb;have e:zd0 (l.take (i+1))=zd0 (l.take i)++[l[i]]:=by rw [htk,zgz,if_neg hm]
    refine ⟨fun _=>⟨_,zdt hi, ?_,zh (by omega) (by omega),hk _ e.symm⟩,(fun h=>by cases h)⟩;rw [e] at hp1;simp only [List.length_append,List.length_cons,List.length_nil] at hp1 ⊢;omega
  refine zf2 (P:=fun k b v=>zbg.l2 l (zd0 (l.take i)) (i:Int) _ k b v) (zd0 (l.take i)).length (fun j b=>(b=false∧l[i] ∉ (zd0 (l.take i)).take j)∨(b=true∧l[i]∈zd0 (l.take i))) ?_ ?_ false (.inl ⟨rfl,by simp⟩)
  ·rintro j b hj (⟨rfl,h1⟩ | ⟨rfl,h1⟩)
   ·refine .inr ⟨((zd0 (l.take i))[j]==l[i]), ?_,fun k2 hk2=>⟨fun _=>⟨_,zdt hj,_,zdt hi,zh (by omega) (by omega),hk2⟩,fun h=>by simp [hj] at h⟩⟩
    by_cases he:(zd0 (l.take i))[j]=l[i]
    ·exact .inr ⟨by simpa using he,by rw [← he];exact List.getElem_mem hj⟩
    ·refine .inl ⟨by simpa using he,fun hm=>?_⟩;rw [List.take_succ_eq_append_getElem hj,List.mem_append,List.mem_singleton] at hm;exact hm.elim h1 fun e=>he e.symm
   ·exact .inl fun k2=>⟨fun h=>by simp at h,fun _=>fin true (decide_eq_true h1).symm⟩
  ·rintro b (⟨rfl,h1⟩ | ⟨rfl,h1⟩) k2
   ·rw [List.take_length] at h1;exact ⟨fun h=>by simp at h,fun _=>fin false (decide_eq_false h1).symm⟩
   ·exact ⟨fun h=>by simp at h,fun _=>fin true (decide_eq_true h1).symm⟩
 ·rintro out rfl k;refine ⟨fun h=>absurd (dt h) (by omega),fun _=>?_⟩;show zd0 l=_;rw [List.take_length]
theorem zq0 {d:List SNode} (h:Rt d) (hl:d.length≤24) (ht:Txt d) {w:List Int} (hw:∀c∈w,InR .u8 c) {c:Int} (hc:InR .u8 c) (hp:pas d.length (w.length+1)≤2000000000):Room d c (zk5 d w):=by
 refine ⟨fun s hs=>(zjz h hl ht hw hs).1, ?_, ?_⟩
 ·have:=zn8 h hw;have:=pas_more d.length w.length;omega
 ·have hw2:∀b∈w++[c],InR .u8 b:=fun b hb=>(List.mem_append.1 hb).elim (hw b) fun e=>by rw [List.mem_singleton.1 e];exact hc
  obtain ⟨K,k1,k2⟩:=after_cov h fun b hb=>(zge.1 (hw2 b hb)).1;rw [List.length_append,List.length_singleton] at k1;refine ⟨K,by omega,fun s hs t hts=>k2 t ?_⟩;show t∈zdd d (w++[c]) (stS d);rw [← zkr,zgj,zk8];exact ⟨s,hs,hts⟩
theorem zsv {m k m' k':Nat} (h1:m≤m') (h2:k≤k') {n:Nat} (h:pas m' k'≤n):pas m k≤n:=Nat.le_trans (Nat.le_trans (pas_mono h1 k) (pas_long m' h2)) h
theorem pas_16_17:pas 16 17≤2000000000:=pas_le (by decide +kernel)
theorem zrp {d:List SNode} (h:Rt d) (hl:d.length≤24) (ht:Txt d) {w:List Int} (hw:∀c∈w,InR .u8 c) (hn:w.length≤1000) (hp:pas d.length w.length≤2000000000):zc3 d w (zk5 d w):=by
 refine ⟨_,zln h.ne (by omega), ?_⟩;refine zf2 (P:=fun k l v=>zc3.l1 d w _ k l v) w.length (fun i l=>l=zk5 d (w.take i)) ?_ ?_ _ (by rw [List.take_zero,ztp])
 ·rintro i l hi rfl;have hsn:zk5 d (w.take (i+1))=onS d w[i] (zk5 d (w.take i)):=by rw [List.take_succ_eq_append_getElem hi,zgj]
  have hr:=zq0 h hl ht (w:=w.take i) (fun c hc=>hw c (List.mem_of_mem_take hc)) (hw _ (List.getElem_mem hi)) (zsv (Nat.le_refl _) (by rw [List.length_take];omega) hp);exact .inr ⟨_,rfl,fun k hk=>⟨fun _=>⟨_,zdt hi,_,zqz hr (hw _ (List.getElem_mem hi)),zh (by omega) (by omega),by rw [← hsn];exact hk⟩,fun h=>absurd (by omega) (df h)⟩⟩
 ·rintro l rfl k;refine ⟨fun h=>absurd (dt h) (by omega),fun _=>?_⟩;show zk5 d w=_;rw [List.take_length]
theorem zry {a b:List (List SItem)} (ha:∀x∈a,x.length≤1000) (hb:∀x∈b,x.length≤1000) (hl:a.length≤140737488351232):zc4 a b (decide (a=b)):=by
 by_cases hne:a.length=b.length
 ·refine ⟨fun h=>absurd h (by simp [hne]),fun _=>?_⟩;refine zf2 (P:=fun k (_:Unit) v=>zc4.l1 a b (decide (a=b)) _ k v) a.length (fun i _=>a.take i=b.take i) ?_ ?_ () (by simp)
  ·intro i _ hi ht;have hib:i<b.length:=by omega
   have hs:=zsb (ha _ (List.getElem_mem hi)) (hb _ (List.getElem_mem hib))
   by_cases hab:a[i]=b[i]
   ·refine .inr ⟨(),by rw [List.take_succ_eq_append_getElem hi,List.take_succ_eq_append_getElem hib,ht,hab],fun k hk=>⟨fun _=>⟨_,zdt hi,_,zdt hib,_,hs,fun h=>?_,fun _=>⟨zh (by omega) (by omega),hk⟩⟩,fun h=>absurd (by omega) (df h)⟩⟩;rw [hab] at h;simp at h
   ·refine .inl fun k=>⟨fun _=>⟨_,zdt hi,_,zdt hib,_,hs,fun _=>?_,fun h=>?_⟩,fun h=>absurd (by omega) (df h)⟩
    ·simp only [decide_eq_false_iff_not];intro e;subst e;exact hab rfl
    ·simp at h;exact absurd h hab
  ·intro _ ht k;refine ⟨fun h=>absurd (dt h) (by omega),fun _=>?_⟩;show decide (a=b)=true;rw [List.take_length,hne,List.take_length] at ht;simp [ht]
 ·refine ⟨fun _=>?_,fun h=>absurd (Int.ofNat.inj (by simpa using h)) hne⟩;simp only [decide_eq_false_iff_not];intro e;subst e;exact hne rfl
theorem itoa_no47 (n:Int):∀c∈Lib.itoa n,c≠47:=by
 intro c hc he;subst he;unfold Lib.itoa at hc;split at hc
 ·rcases List.mem_cons.1 hc with h | h
  ·exact absurd h (by decide)
  ·have:=(dec_ge _ _ h).1;exact absurd this (by decide)
 ·have:=(dec_ge _ _ hc).1;exact absurd this (by decide)
theorem keyN_no47 (l:List Int):∀c∈zl0 l,c≠47:=by
 induction l with
 | nil=>intro c hc;simp [zl0] at hc
 | cons z l ih=>
  intro c hc;rw [zjs,List.mem_append,List.mem_cons] at hc;rcases hc with h | rfl | h
  ·exact itoa_no47 z c h
  ·decide
  ·exact ih c h
theorem cut47 {a b:List UInt8} (ha:∀c∈a,c≠47) (hb:∀c∈b,c≠47) {u v:List UInt8} (h:a++47::u=b++47::v):a=b∧u=v:=by
 induction a generalizing b with
 | nil=>
  cases b with
  | nil=>exact ⟨rfl,(List.cons.inj h).2⟩
  | cons y b=>exact absurd (List.cons.inj h).1.symm (hb y (by simp))
 | cons x a ih=>
  cases b with
  | nil=>exact absurd (List.cons.inj h).1 (ha x (by simp))
  | cons y b=>
   obtain ⟨h1,h2⟩:=List.cons.inj h;obtain ⟨h3,h4⟩:=ih (fun c hc=>ha c (by simp [hc])) (fun c hc=>hb c (by simp [hc])) h2;exact ⟨by rw [h1,h3],h4⟩
theorem zl1 (s:List SItem) (l:List (List SItem)):znq (s::l)=keyS s++47::znq l:=by simp [znq]
theorem keyL_inj {l m:List (List SItem)} (h:znq l=znq m):l=m:=by
 induction l generalizing m with
 | nil=>
  cases m with
  | nil=>rfl
  | cons y m=>rw [zl1] at h;simp [znq] at h
 | cons z l ih=>
  cases m with
  | nil=>rw [zl1] at h;simp [znq] at h
  | cons y m=>
   rw [zl1,zl1] at h;obtain ⟨h1,h2⟩:=cut47 (keyN_no47 _) (keyN_no47 _) h;rw [zgw.1 h1,ih h2]
def d6:List SNode:=wrapD 6 d5
theorem zop {l:List (List SItem)} (h1:l.length≤1000000000) (h2:∀s∈l,s.length≤1000):zhh l (znq l):=⟨h1,h2,rfl⟩
theorem zo1 {d:List SNode} {c:Int} {l:List (List SItem)} (hl:∀s∈l,Sm d s) (hc:InR .u8 c):∀t∈onS d c l,t.length≤1000:=fun t ht=>by
 obtain ⟨s,h1,h2⟩:=zk8.1 ht;exact zj7 (hl s h1) hc h2
theorem Sm.short {d:List SNode} {s:List SItem} (h:Sm d s):s.length≤1000:=by have:=h.slen;omega
theorem ends_ways (d:List SNode) (w:List Int):endS d (zk5 d w)=decide (0<sat (zcj d ((d.length:Int)-1) w)):=by
 rw [zrq,Bool.eq_iff_iff,endS_word,decide_eq_true_iff]
structure Rm (d:List SNode) (l:TS):Prop where
 sm:∀s∈l,Sm d s
 len:l.length≤1000000000
 cls:(zkq d l).length≤4398046511104
 on:∀c,InR .u8 c→Room d c l
 out:∀c,InR .u8 c→(onS d c l).length≤1000000000
theorem pas_16_10:pas 16 10≤1000000000:=pas_le (by decide +kernel)
theorem pas_16_9b:pas 16 9≤2042975:=pas_le (by decide +kernel)
theorem rm_heavy {d:List SNode} (h:Rt d) (hl:d.length≤16) (ht:Txt d) {w:List Int} (hw:∀c∈w,InR .u8 c) (hwl:w.length≤9):Rm d (zk5 d w):=by
 have l1:=zn8 h hw;have p9:pas d.length w.length≤2042975:=zsv (m':=16) (k':=9) (by omega) (by omega) pas_16_9b;have p10:pas d.length (w.length+1)≤1000000000:=zsv (m':=16) (k':=10) (by omega) (by omega) pas_16_10;refine ⟨fun s hs=>(zjz h (by omega) ht hw hs).1,by omega, ?_,fun c hc=>zq0 h (by omega) ht hw hc (by omega),fun c hc=>?_⟩
 ·have h1:=ztl h (m:=24) (zk5 d w) fun s hs=>(zjz h (by omega) ht hw hs).2;have h2:256*(24*(d.length+1)+1)*(zk5 d w).length≤256*(24*17+1)*2042975:=Nat.mul_le_mul (by omega) (by omega);omega
 ·have hw2:∀b∈w++[c],InR .u8 b:=fun b hb=>(List.mem_append.1 hb).elim (hw b) fun e=>by rw [List.mem_singleton.1 e];exact hc
  have:=zn8 h hw2;rw [zgj,List.length_append,List.length_singleton] at this;omega
theorem rm_light {d:List SNode} (h:Rt d) (hl:d.length≤24) (ht:Txt d) (hn:NoFr d) (hs:szN d d.length ((d.length:Int)-1)≤1000) {w:List Int} (hw:∀c∈w,InR .u8 c):Rm d (zk5 d w):=by
 obtain ⟨K,k1,k2⟩:=aftS_all h hn;have l1:=aftS_few h hn w;refine ⟨fun s hs=>(zjz h hl ht hw hs).1,by omega, ?_,fun c hc=>⟨fun s hs=>(zjz h hl ht hw hs).1,by omega,K,by omega,fun s hs t hts=>k2 (w++[c]) t ?_⟩,fun c hc=>?_⟩
 ·have h1:=ztl h (m:=24) (zk5 d w) fun s hs=>(zjz h hl ht hw hs).2;have h2:256*(24*(d.length+1)+1)*(zk5 d w).length≤256*(24*25+1)*1001:=Nat.mul_le_mul (by omega) (by omega);omega
 ·rw [zgj,zk8];exact ⟨s,hs,hts⟩
 ·have:=aftS_few h hn (w++[c]);rw [zgj] at this;omega
theorem sets_Bytes_w {d:List SNode} {l:TS} (h:Rm d l) (hd:d.length≤1000):zj9 d l (zm1 d l):=by
 have h1:=h.cls;have h2:=h.len;have ho:=once_few d l;exact ⟨_,zor h.sm (by omega) (by omega),_,sets_Once_in (by omega) (by omega),_,zp1 (by omega),rfl⟩
theorem zr3 {d:List SNode} {l:TS} (h:Rm d l) (hd:d.length≤1000):ziu d l (zm1 d l):=by
 have h1:=h.cls;have h2:=h.len;have ho:=once_few d l;exact ⟨_,zno h.sm (by omega) (by omega),_,zr0 (by omega) (by omega),_,zqh (by omega),rfl⟩
theorem bytS_u8 {d:List SNode} {l:TS} {c:Int} (h:c∈zm1 d l):InR .u8 c:=bytC_u8 h
def zfv (d:List SNode) (l:TS):List (Int × TS):=(zm1 d l).map fun c=>(c,onS d c l)
def zdq (d:List SNode):Sch TS:=⟨[stS d],zfv d,endS d⟩
theorem zrf (d:List SNode) (l:TS):(zfv d l).length≤256:=by unfold zfv;rw [List.length_map];exact ztn _
theorem ways_in {d:List SNode} {l:TS} (h:Rm d l) (hd:d.length≤1000):zbr d l (zfv d l):=by
 refine ⟨_,sets_Bytes_w h hd, ?_⟩;have hbl:(zm1 d l).length≤256:=ztn _;refine zf2 (P:=fun k out v=>zbr.l1 d l (zm1 d l) _ k out v) (zm1 d l).length (fun i out=>out=(zfv d l).take i) ?_ ?_ _ (by simp)
 ·rintro i out hi rfl;have hc:=bytS_u8 (List.getElem_mem hi);have hi2:i<(zfv d l).length:=by unfold zfv;rw [List.length_map];exact hi
  refine .inr ⟨_,rfl,fun k hk=>⟨fun _=>⟨_,zdt hi,_,zqz (h.on _ hc) hc, ?_,zh (by omega) (by omega), ?_⟩,fun h=>absurd (by omega) (df h)⟩⟩
  ·rw [List.length_take];simp;omega
  ·rw [List.take_succ_eq_append_getElem hi2] at hk;have e:(zfv d l)[i]=((zm1 d l)[i],onS d (zm1 d l)[i] l):=by simp [zfv]
   rw [e] at hk;exact hk
 ·rintro out rfl k;refine ⟨fun h=>absurd (dt h) (by omega),fun _=>?_⟩;show zfv d l=_;rw [List.take_of_length_le (by unfold zfv;rw [List.length_map];omega)]
theorem rn_aft {d:List SNode} {w:List Int} {x:TS} (h:Rn (fun x c y=>InR .u8 c∧y=onS d c x) [stS d] w x):x=zk5 d w∧∀c∈w,InR .u8 c:=by
 induction h with
 | nil=>exact ⟨rfl,fun c hc=>by cases hc⟩
 | snoc h hs ih=>
  obtain ⟨h1,h2⟩:=hs;refine ⟨by rw [h2,ih.1,zgj],fun b hb=>?_⟩;rcases List.mem_append.1 hb with hb | hb
  ·exact ih.2 b hb
  ·rw [List.mem_singleton.1 hb];exact h1
theorem zh9 (d:List SNode):∀(x:TS) (c:Int) (y:TS),(c,y)∈(zdq d).ways x→InR .u8 c∧y=onS d c x:=fun x c y h=>by
 obtain ⟨b,h1,h2⟩:=List.mem_map.1 h;cases h2;exact ⟨bytS_u8 h1,rfl⟩
theorem ztq {d:List SNode} {i j:Nat} {q:Qb TS} (h:(zdc (zdq d) i)[j]?=some q):q.1=zk5 d q.2.2.2∧(∀c∈q.2.2.2,InR .u8 c)∧q.2.2.2.length≤j:=by
 obtain ⟨h1,h2⟩:=rn_aft (accB_rn (S:=zdq d) (zh9 d) i j q h);exact ⟨h1,h2,(zj3 _ _).wlen j q h⟩
def Lk (d:List SNode) (b:Int):Prop:=(NoFr d∧szN d d.length ((d.length:Int)-1)≤1000)∨b≤10
theorem acc_rm {d:List SNode} (h:Rt d) (hl:d.length≤16) (ht:Txt d) {b:Int} (hk:Lk d b) {i j:Nat} {q:Qb TS} (hq:(zdc (zdq d) i)[j]?=some q) (hj:(j:Int)<b):Rm d q.1:=by
 obtain ⟨h1,h2,h3⟩:=ztq hq;rw [h1];rcases hk with ⟨k1,k2⟩ | k1
 ·exact rm_light h (by omega) ht k1 k2 h2
 ·exact rm_heavy h hl ht h2 (by omega)
theorem key_start {d:List SNode}:zhh [stS d] (znq [stS d]):=zop (by simp) fun s hs=>by rw [List.mem_singleton.1 hs];simp [stS]
theorem walk_sets {d:List SNode} (h:Rt d) (hl:d.length≤16) (ht:Txt d) {b:Int} (hb:b≤1000) (hk:Lk d b):
  zf ([stS d],(fun q_=>zhh q_.1 q_.2),(fun q_=>zbr d q_.1 q_.2),(fun q_=>zeb d q_.1 q_.2)) b (zgp (srchB (zdq d) b)):=by
 refine walkB_in (S:=zdq d) (kf:=znq) (fun a b e=>keyL_inj e) hb key_start (fun i q hi hq=>?_) fun i q hi hq _=>?_
 ·have hr:=acc_rm h hl ht hk hq hi;exact ⟨_,zm9 hr.sm (by have:=hr.len;show q.1.length≤_;omega),rfl⟩
 ·have hr:=acc_rm h hl ht hk hq hi;refine ⟨ways_in hr (by omega),zrf _ _,fun e he=>?_⟩;obtain ⟨e1,e2⟩:=zh9 d q.1 e.1 e.2 he;rw [e2];exact zop (hr.out _ e1) (zo1 hr.sm e1)
def thB (q:Qb TS):SThing_ref18:=(q.1,q.2.2.2)
theorem hasB_take {acc:List (Qb TS)} {x:TS} {m:Nat} (hm:m<acc.length):hasQ (acc.take (m+1)) x=(hasQ (acc.take m) x||decide (acc[m].1=x)):=by
 rw [List.take_succ_eq_append_getElem hm,hasQ_app]
def Stop (S:Sch TS) (b n:Nat):Prop:=n≤b∧((zdc S n)[n]?=none∨b<(zdc S n).length)
theorem Things_in {d:List SNode} (h:Rt d) (hl:d.length≤16) (ht:Txt d) {b:Nat} (hb:b≤1000) (hk:Lk d b):∃n,Stop (zdq d) b n∧zt d (b:Int) ((zdc (zdq d) n).map thB):=by
 have hex:∃n,(zdc (zdq d) n)[n]?=none∨b<(zdc (zdq d) n).length:=by
  refine ⟨b, ?_⟩;cases hq:(zdc (zdq d) b)[b]? with
  | none=>exact .inl rfl
  | some q=>exact .inr (List.getElem?_eq_some_iff.1 hq).1
 obtain ⟨n,hn,hmin⟩:=exists_least hex;have hnb:n≤b:=by
  refine hmin b ?_;cases hq:(zdc (zdq d) b)[b]? with
  | none=>exact .inl rfl
  | some q=>exact .inr (List.getElem?_eq_some_iff.1 hq).1
 refine ⟨n,⟨hnb,hn⟩, ?_⟩;have hcont:∀i,i<n→∃q,(zdc (zdq d) i)[i]?=some q∧(zdc (zdq d) i).length≤b:=fun i hi=>by
  cases hq:(zdc (zdq d) i)[i]? with
  | none=>have:=hmin i (.inl hq);omega
  | some q=>
   refine ⟨q,rfl, ?_⟩;rcases Nat.lt_or_ge b (zdc (zdq d) i).length with hh | hh
   ·have:=hmin i (.inr hh);omega
   ·exact hh
 have hlenN:∀i,i≤n→(zdc (zdq d) i).length≤b+257:=fun i hi=>by
  cases i with
  | zero=>simp [zdc]
  | succ i=>
   obtain ⟨q,hq,hle⟩:=hcont i (by omega);rw [zj2 hq];have:=zjw i q.2.2.2 ((zdq d).ways q.1) (zdc (zdq d) i);have hw:((zdq d).ways q.1).length≤256:=zrf d q.1;unfold rdB;omega
 refine ⟨_,zp7 h.ne (by omega), ?_⟩;refine zri (P:=fun k out v=>zt.l1 d (b:Int) _ k out v) n (fun i out=>out=(zdc (zdq d) i).map thB) ?_ ?_ _ rfl
 ·rintro i out k hi rfl hkk;obtain ⟨q,hq,hle⟩:=hcont i hi;have hil:=(List.getElem?_eq_some_iff.1 hq).1;have hr:=acc_rm h hl ht hk hq (by omega);obtain ⟨q1,q2,q3⟩:=ztq hq;have hbl:(zm1 d q.1).length≤256:=ztn _;refine ⟨_,rfl,fun _=>⟨thB q,zhc (by rw [List.getElem?_map,hq];rfl),_,zr3 hr (by omega), ?_⟩,fun hc=>?_⟩
  rotate_left
  ·exfalso;simp only [List.length_map,Bool.and_eq_false_iff,decide_eq_false_iff_not] at hc;omega
  have hways:∀j,j<(zm1 d q.1).length→(zfv d q.1).take (j+1)=(zfv d q.1).take j++[((zm1 d q.1).getD j 0,onS d ((zm1 d q.1).getD j 0) q.1)]:=fun j hj=>by
   have hj2:j<(zfv d q.1).length:=by unfold zfv;rw [List.length_map];exact hj
   rw [List.take_succ_eq_append_getElem hj2]
   congr 1
   simp [zfv,List.getD_eq_getElem?_getD,hj]
  have hpre:∀j,(zdc (zdq d) i) <+: ((zfv d q.1).take j).foldl (stB i q.2.2.2) (zdc (zdq d) i):=fun j=>foldB_pre _ _ _ _;have hlj:∀j,(((zfv d q.1).take j).foldl (stB i q.2.2.2) (zdc (zdq d) i)).length≤b+256:=fun j=>by
   have h1:=zjw i q.2.2.2 ((zfv d q.1).take j) (zdc (zdq d) i);have h2:((zfv d q.1).take j).length≤256:=by
    have:=zrf d q.1;rw [List.length_take];omega
   omega
  refine zri (P:=fun k2 out v=>zt.l2 d (i:Int) (zm1 d q.1) _ k2 out v) (zm1 d q.1).length (fun j out=>out=(((zfv d q.1).take j).foldl (stB i q.2.2.2) (zdc (zdq d) i)).map thB) ?_ ?_ _ (by simp)
  ·rintro j out k2 hj rfl hk2;have hget:(((zfv d q.1).take j).foldl (stB i q.2.2.2) (zdc (zdq d) i))[i]?=some q:=zft (hpre j) hq;have hc:=bytS_u8 (List.getElem_mem hj);have hlen:=hlj j;have hgd:(zm1 d q.1).getD j 0=(zm1 d q.1)[j]:=by simp [List.getD_eq_getElem?_getD,hj]
   have hnx:=hways j hj;rw [hgd] at hnx;rw [hnx,List.foldl_append] at hk2;have hacc:∀x∈((zfv d q.1).take j).foldl (stB i q.2.2.2) (zdc (zdq d) i),∀s∈x.1,s.length≤1000:=fun x hx s hs=>by
    rcases zpf _ _ x hx with hx | ⟨e,he,rfl⟩
    ·obtain ⟨m,hm⟩:=List.getElem?_of_mem hx;obtain ⟨m1,m2,_⟩:=ztq hm;rw [m1] at hs;exact (zjz h (by omega) ht m2 hs).1.short
    ·obtain ⟨e1,e2⟩:=zh9 d q.1 e.1 e.2 (List.mem_of_mem_take he);exact zo1 hr.sm e1 s (by rw [← e2];exact hs)
   have haccl:∀x∈((zfv d q.1).take j).foldl (stB i q.2.2.2) (zdc (zdq d) i),x.1.length≤140737488351232:=fun x hx=>by
    rcases zpf _ _ x hx with hx | ⟨e,he,rfl⟩
    ·obtain ⟨m,hm⟩:=List.getElem?_of_mem hx;rcases (zj3 (zdq d) i).par m x hm with ⟨_,rfl⟩ | ⟨p,q',_,p2,p3,_,p5⟩
     ·simp [zdq]
     ·have hml:=(List.getElem?_eq_some_iff.1 hm).1;have hpi:p<i∨i≤p:=by omega
      obtain ⟨e1,e2⟩:=zh9 d q'.1 x.2.2.1 x.1 p5;rw [e2];have hrp:=acc_rm h hl ht hk p3 (by omega);have:=hrp.out _ e1;omega
    ·obtain ⟨e1,e2⟩:=zh9 d q.1 e.1 e.2 (List.mem_of_mem_take he);have:=hr.out _ e1;show e.2.length≤_;rw [e2];omega
   have hon:=zo1 hr.sm hc;refine ⟨fun _=>⟨thB q,zhc (by rw [List.getElem?_map,hget];rfl),_,zdt hj,_,ref16_On_in (hr.on _ hc) hc, ?_⟩,fun h=>absurd (by omega) (df h)⟩;generalize ((zfv d q.1).take j).foldl (stB i q.2.2.2) (zdc (zdq d) i)=A at *;refine zf2 (P:=fun k3 f v=>zt.l3 (A.map thB) (onS d (zm1 d q.1)[j] q.1) _ k3 f v) A.length (fun m f=>f=hasQ (A.take m) (onS d (zm1 d q.1)[j] q.1)) ?_ ?_ false (by simp [hasQ])
   ·rintro m f hm rfl;refine .inr ⟨_, ?_,fun k3 hk3=>⟨fun _=>⟨thB A[m],fun _=>zhc (by rw [List.getElem?_map,List.getElem?_eq_getElem hm];rfl),_,fun _=>zry (hacc _ (List.getElem_mem hm)) hon (haccl _ (List.getElem_mem hm)),zh (by omega) (by omega),hk3⟩,fun h=>absurd (by simp;omega) (df h)⟩⟩;rw [hasB_take hm];rfl
   ·rintro f rfl k3;refine ⟨fun h=>absurd (dt h) (by simp),fun _=>?_⟩;rw [List.take_length];have hst:stB i q.2.2.2 A ((zm1 d q.1)[j],onS d (zm1 d q.1)[j] q.1)=if hasQ A (onS d (zm1 d q.1)[j] q.1)=true then A else A++[(onS d (zm1 d q.1)[j] q.1,(i:Int),(zm1 d q.1)[j],q.2.2.2++[(zm1 d q.1)[j]])]:=rfl
    cases hh:hasQ A (onS d (zm1 d q.1)[j] q.1)
    ·rw [hh] at hst;rw [if_neg (by decide)] at hst;refine ⟨fun _=>⟨thB q,zhc (by rw [List.getElem?_map,hget];rfl),by show q.2.2.2.length≤_;omega,_,zdt hj,by show q.2.2.2.length+1≤_;omega,by simp;omega,zh (by omega) (by omega),hk2 _ ?_⟩,(fun h=>by cases h)⟩;show _=(stB i q.2.2.2 A _).map thB;rw [hst,List.map_append];rfl
    ·rw [hh] at hst;rw [if_pos rfl] at hst;refine ⟨(fun h=>by cases h),fun _=>⟨zh (by omega) (by omega),hk2 _ ?_⟩⟩;show _=(stB i q.2.2.2 A _).map thB;rw [hst]
  ·rintro out rfl k2;refine ⟨fun h=>absurd (dt h) (by omega),fun _=>⟨zh (by omega) (by omega),hkk _ ?_⟩⟩;rw [List.take_of_length_le (by unfold zfv;rw [List.length_map];omega),zj2 hq];rfl
 ·rintro out rfl k;refine ⟨_,rfl,fun hc=>?_,fun _=>rfl⟩;exfalso;simp only [List.length_map,Bool.and_eq_true,decide_eq_true_eq] at hc;rcases hn with hn | hn
  ·have:=List.getElem?_eq_none_iff.1 hn;omega
  ·omega
theorem stop_out {S:Sch TS} {b:Int} {n:Nat} (hs:Stop S b.toNat n) {v:Int × List Int × Int × Option TS} (h:OutB S b v):
  (v.1=2∧∃(i:Nat) (q:Qb TS),(i:Int)<b∧(zdc S n)[i]?=some q∧S.hit q.1=true∧v=(2,q.2.2.2,(i:Int)+1,some q.1)∧∀j q',j<i→(zdc S n)[j]?=some q'→S.hit q'.1=false) ∨
  (v.1≠2∧(∀j q',j<b.toNat→(zdc S n)[j]?=some q'→S.hit q'.1=false)∧((zdc S n).length≤b.toNat∧v=(1,[],((zdc S n).length:Int),none)∨b.toNat<(zdc S n).length∧v=(3,[],max b 0,none))):=by
 obtain ⟨hnb,hst⟩:=hs;have whole:∀{i:Nat} {j:Nat} {q:Qb TS},j<(zdc S n).length→(zdc S i)[j]?=some q→(zdc S n)[j]?=some q:=fun {i j q} hj hq=>by
  rcases Nat.le_total i n with hin | hin
  ·exact zft (zkt S hin) hq
  ·obtain ⟨x,hx⟩:∃x,(zdc S n)[j]?=some x:=⟨_,List.getElem?_eq_getElem hj⟩;rw [hx,← zft (zkt S hin) hx,hq]
 have back:∀{i:Nat} {j:Nat} {q:Qb TS},j<(zdc S i).length→(zdc S n)[j]?=some q→(zdc S i)[j]?=some q:=fun {i j q} hj hq=>by
  rcases Nat.le_total n i with hin | hin
  ·exact zft (zkt S hin) hq
  ·obtain ⟨x,hx⟩:∃x,(zdc S i)[j]?=some x:=⟨_,List.getElem?_eq_getElem hj⟩;rw [hx,← zft (zkt S hin) hx,hq]
 cases h with
 | no i q hb h hh hno=>
  left;refine ⟨rfl,i,q,hb, ?_,hh,rfl,fun j q' hj hq'=>?_⟩
  ·have hil:=(List.getElem?_eq_some_iff.1 h).1;rcases Nat.lt_or_ge n i with hni | hni
   ·rcases hst with h1 | h1
    ·have:=zj1 h1 (i-n);rw [show n+(i-n)=i by omega] at this;rw [← this];exact h
    ·exact whole (by omega) h
   ·exact zft (zkt S hni) h
  ·have hil:=(List.getElem?_eq_some_iff.1 h).1;exact hno j q' hj (back (by omega) hq')
 | yes i hb h hno=>
  right;have hl:=List.getElem?_eq_none_iff.1 h;have hi0:0<i:=by
   rcases Nat.eq_zero_or_pos i with e | e
   ·subst e;simp [zdc] at h
   ·exact e
  have e:zdc S n=zdc S i:=by
   rcases Nat.lt_or_ge n i with hni | hni
   ·rcases hst with h1 | h1
    ·have:=zj1 h1 (i-n)
     rwa [show n+(i-n)=i by omega,eq_comm] at this
    ·have:=(zkt S (Nat.le_of_lt hni)).length_le;omega
   ·have:=zj1 h (n-i)
    rwa [show i+(n-i)=n by omega] at this
  refine ⟨by simp,fun j q' hj hq'=>?_,.inl ⟨by rw [e];omega,by rw [e]⟩⟩;rw [e] at hq';have:=(List.getElem?_eq_some_iff.1 hq').1;exact hno j q' (by omega) hq'
 | limit hl hno=>
  right;obtain ⟨q,hq⟩:=hl;have hql:=(List.getElem?_eq_some_iff.1 hq).1;have hlen:b.toNat<(zdc S n).length:=by
   rcases hst with h1 | h1
   ·have:=zj1 h1 (b.toNat-n);rw [show n+(b.toNat-n)=b.toNat by omega] at this;have h2:=List.getElem?_eq_none_iff.1 h1;rw [this] at hql;omega
   ·exact h1
  exact ⟨by simp,fun j q' hj hq'=>hno j q' hj (back (by omega) hq'),.inr ⟨hlen,rfl⟩⟩
theorem zp4 {d:List SNode} (h:Rt d) (hl:d.length≤16) (ht:Txt d) {b:Int} (hb:b≤1000) (hk:Lk d b):zch d b (zgp (srchB (zdq d) b)).1:=by
 have hk':Lk d ((b.toNat:Nat):Int):=hk.imp id fun h=>by omega
 obtain ⟨n,hs,hth⟩:=Things_in h hl ht (b:=b.toNat) (by omega) hk';have hmax:max 0 b=((b.toNat:Nat):Int):=by omega
 refine ⟨_,by rw [hmax];exact hth, ?_⟩;have hout:=stop_out hs (srchB_out (zdq d) b);generalize srchB (zdq d) b=v at hout ⊢;have hends:∀(j:Nat) (q:Qb TS),(j:Int)<b→(zdc (zdq d) n)[j]?=some q→zcx d q.1 ((zdq d).hit q.1):=fun j q hj hq=>by
  have hr:=acc_rm h hl ht hk hq hj;exact zr2 hr.sm (by have:=hr.len;omega)
 rcases hout with ⟨_,i,q,hib,hq,hh,rfl,hno⟩ | ⟨_,hno,hv⟩
 ·have hil:=(List.getElem?_eq_some_iff.1 hq).1;refine zf2 (P:=fun k (_:Unit) m=>zch.l1 d b ((zdc (zdq d) n).map thB) _ _ k (0,[],[],0,0,0,0) m) (i+1) (fun j _=>j≤i) ?_ ?_ () (by omega)
  ·intro j _ hj hji
   by_cases he:j=i
   ·subst he;have hE:=hends j q (by omega) hq;rw [hh] at hE;refine .inl fun k=>⟨_,rfl,fun _=>⟨thB q,zhc (by rw [List.getElem?_map,hq];rfl),true,hE,fun _=>⟨thB q,zhc (by rw [List.getElem?_map,hq];rfl),zh (by omega) (by omega),rfl⟩,(fun h=>by cases h)⟩,fun hc=>?_⟩;exfalso;simp only [List.length_map,Bool.and_eq_false_iff,decide_eq_false_iff_not] at hc;omega
   ·obtain ⟨x,hx⟩:∃x,(zdc (zdq d) n)[j]?=some x:=⟨_,List.getElem?_eq_getElem (by omega)⟩;have hE:=hends j x (by omega) hx;rw [hno j x (by omega) hx] at hE;refine .inr ⟨(),by omega,fun k hk=>⟨_,rfl,fun _=>⟨thB x,zhc (by rw [List.getElem?_map,hx];rfl),false,hE,(fun h=>by cases h),fun _=>⟨zh (by omega) (by omega),hk⟩⟩,fun hc=>?_⟩⟩;exfalso;simp only [List.length_map,Bool.and_eq_false_iff,decide_eq_false_iff_not] at hc;omega
  ·intro _ h k;omega
 ·refine zf2 (P:=fun k (_:Unit) m=>zch.l1 d b ((zdc (zdq d) n).map thB) _ _ k (0,[],[],0,0,0,0) m) (min (zdc (zdq d) n).length b.toNat) (fun _ _=>True) ?_ ?_ () trivial
  ·intro j _ hj _;obtain ⟨x,hx⟩:∃x,(zdc (zdq d) n)[j]?=some x:=⟨_,List.getElem?_eq_getElem (by omega)⟩;have hE:=hends j x (by omega) hx;rw [hno j x (by omega) hx] at hE;refine .inr ⟨(),trivial,fun k hk=>⟨_,rfl,fun _=>⟨thB x,zhc (by rw [List.getElem?_map,hx];rfl),false,hE,(fun h=>by cases h),fun _=>⟨zh (by omega) (by omega),hk⟩⟩,fun hc=>?_⟩⟩;exfalso;simp only [List.length_map,Bool.and_eq_false_iff,decide_eq_false_iff_not] at hc;omega
  ·intro _ _ k;refine ⟨_,rfl,fun hc=>?_,fun _=>?_⟩
   ·exfalso;simp only [List.length_map,Bool.and_eq_true,decide_eq_true_eq] at hc;omega
   ·rcases hv with ⟨h1,rfl⟩ | ⟨h1,rfl⟩
    ·refine ⟨fun _=>by simp [zgp],fun hc=>?_⟩;exfalso;simp only [List.length_map,decide_eq_false_iff_not] at hc;omega
    ·refine ⟨fun hc=>?_,fun _=>?_⟩
     ·exfalso;simp only [List.length_map,decide_eq_true_eq] at hc;omega
     ·simp only [zgp];rw [show max b 0=max 0 b by omega]
def zgo (l:List Int) (x:Int):Int:=if 0≤x∧x<(l.length:Int) then (at? l x).getD 0 else 0
def zqq (e:SNode) (a b:Int):Int:=if e.1=7 then (1+max 0 (min e.2.2.2.2.1 1000))*a else if e.1=6∨e.1=8∨e.1=9 then a+1 else if e.1=4∨e.1=5 then a+b else if e.1=3 then 1+min (e.2.2.2.2.2.2.length:Int) 1000 else 1
def wl (d:List SNode):Nat→List Int
 | 0=>[]
 | i+1=>match d[i]? with
  | none=>wl d i
  | some e=>wl d i++[min (zqq e (zgo (wl d i) e.2.1) (zgo (wl d i) e.2.2.1)) 1000]
theorem zmf {d:List SNode} {i:Nat} (hi:i<d.length):wl d (i+1)=wl d i++[min (zqq d[i] (zgo (wl d i) d[i].2.1) (zgo (wl d i) d[i].2.2.1)) 1000]:=by
 show (match d[i]? with | none=>wl d i | some e=>wl d i++[min (zqq e (zgo (wl d i) e.2.1) (zgo (wl d i) e.2.2.1)) 1000])=_;rw [List.getElem?_eq_getElem hi]
theorem zqp {d:List SNode}:∀{i:Nat},i≤d.length→(wl d i).length=i
 | 0,_=>rfl
 | i+1,h=>by rw [zmf (by omega),List.length_append,zqp (by omega)];rfl
theorem mul_few {x a:Int} (hx:0≤x∧x≤1001) (ha:0≤a∧a≤1000):0≤x*a∧x*a≤1001000:=by
 refine ⟨Int.mul_nonneg hx.1 ha.1, ?_⟩;have:=Int.mul_le_mul hx.2 ha.2 ha.1 (by omega);omega
theorem wgt1_ok {e:SNode} {a b:Int} (ha:0≤a∧a≤1000) (hb:0≤b∧b≤1000):0≤zqq e a b:=by
 unfold zqq;split
 ·exact (mul_few (by omega) ha).1
 ·split
  ·omega
  ·split
   ·omega
   ·split <;> omega
theorem zjr {l:List Int} (h:∀x∈l,0≤x∧x≤1000) (x:Int):0≤zgo l x∧zgo l x≤1000:=by
 unfold zgo;split
 ·rename_i hx
  obtain ⟨y,hy,hm⟩:=zpn hx.1 hx.2;rw [hy];exact h y hm
 ·omega
theorem wl_ok {d:List SNode}:∀{i:Nat},i≤d.length→∀x∈wl d i,0≤x∧x≤1000
 | 0,_,x,hx=>by cases hx
 | i+1,h,x,hx=>by
  have ih:=wl_ok (d:=d) (i:=i) (by omega);rw [zmf (by omega)] at hx;rcases List.mem_append.1 hx with hx | hx
  ·exact ih x hx
  ·rw [List.mem_singleton.1 hx];have:=wgt1_ok (e:=d[i]) (zjr ih d[i].2.1) (zjr ih d[i].2.2.1);omega
theorem w7 {L1:List Int→Int→Prop} {l:List Int} {i:Int} {e:SNode} {a:Int} (hl:l.length≤1000) (hi:0≤i∧i≤1000) (ha:0≤a∧a≤1000) (hb:0≤zgo l e.2.2.1∧zgo l e.2.2.1≤1000) (h:L1 (l++[min (zqq e a (zgo l e.2.2.1)) 1000]) (i+1)):zl.j7 L1 l i e a:=by
 have e2:∀w,w=zqq e a (zgo l e.2.2.1)→zl.j2 L1 l i w:=fun w hw=>by
  subst hw;exact ⟨by simp;omega,zh (by omega) (by omega),h⟩
 have e3:∀w,e.1=7∨w=zqq e a (zgo l e.2.2.1)→zl.j3 L1 l i e a w:=fun w hw=>by
  refine ⟨fun h7=>?_,fun h7=>e2 w (hw.resolve_left (by simpa using h7))⟩;have h7:e.1=7:=by simpa using h7
  have:=mul_few (x:=1+max 0 (min e.2.2.2.2.1 1000)) (by omega) ha;exact ⟨zh (by omega) (by omega),zh (by omega) (by omega),e2 _ (by unfold zqq;rw [if_pos h7])⟩
 have e4:∀w,e.1=7∨(e.1=6∨e.1=8∨e.1=9)∨w=zqq e a (zgo l e.2.2.1)→zl.j4 L1 l i e a w:=fun w hw=>by
  refine ⟨fun h6=>⟨zh (by omega) (by omega),e3 _ ?_⟩,fun h6=>e3 w ?_⟩
  ·have h6:e.1=6∨e.1=8∨e.1=9:=by simpa [or_assoc] using h6
   refine .inr ?_;unfold zqq;rw [if_neg (by omega),if_pos h6]
  ·have h6:¬ (e.1=6∨e.1=8∨e.1=9):=by simpa [or_assoc,and_assoc] using h6
   exact hw.imp id fun h=>h.resolve_left h6
 have e5:∀w,e.1=7∨(e.1=6∨e.1=8∨e.1=9)∨(e.1=4∨e.1=5)∨w=zqq e a (zgo l e.2.2.1)→zl.j5 L1 l i e a (zgo l e.2.2.1) w:=fun w hw=>by
  refine ⟨fun h4=>⟨zh (by omega) (by omega),e4 _ ?_⟩,fun h4=>e4 w ?_⟩
  ·have h4:e.1=4∨e.1=5:=by simpa using h4
   refine .inr (.inr ?_);unfold zqq;rw [if_neg (by omega),if_neg (by omega),if_pos h4]
  ·have h4:¬ (e.1=4∨e.1=5):=by simpa using h4
   exact hw.imp id fun h=>h.imp id fun h=>h.resolve_left h4
 have e6:zl.j6 L1 l i e a (zgo l e.2.2.1):=by
  refine ⟨fun h3=>⟨zh (by omega) (by omega),e5 _ ?_⟩,fun h3=>e5 1 ?_⟩
  ·have h3:e.1=3:=by simpa using h3
   refine .inr (.inr (.inr ?_));unfold zqq;rw [if_neg (by omega),if_neg (by omega),if_neg (by omega),if_pos h3]
  ·have h3:¬ e.1=3:=by simpa using h3
   by_cases k7:e.1=7
   ·exact .inl k7
   by_cases k6:e.1=6∨e.1=8∨e.1=9
   ·exact .inr (.inl k6)
   by_cases k4:e.1=4∨e.1=5
   ·exact .inr (.inr (.inl k4))
   refine .inr (.inr (.inr ?_));unfold zqq;rw [if_neg k7,if_neg k6,if_neg k4,if_neg h3]
 refine ⟨_,rfl,fun hc=>?_,fun hc=>?_⟩
 ·simp only [Bool.and_eq_true,decide_eq_true_eq] at hc;obtain ⟨y,hy,_⟩:=zpn hc.1 hc.2;have:zgo l e.2.2.1=y:=by unfold zgo;rw [if_pos hc,hy];rfl
  rw [this] at e6;exact ⟨y,hy,e6⟩
 ·have:zgo l e.2.2.1=0:=by
   unfold zgo;rw [if_neg];simp only [Bool.and_eq_false_iff,decide_eq_false_iff_not] at hc;omega
  rw [this] at e6;exact e6
theorem zov {d:List SNode} (hl:d.length≤100):zl d (if d.length=0 then 0 else zgo (wl d d.length) ((d.length:Int)-1)):=by
 refine zf2 (P:=fun k l v=>zl.l1 d _ k l v) d.length (fun i l=>l=wl d i) ?_ ?_ [] rfl
 ·rintro i l hi rfl;have hlen:=zqp (d:=d) (i:=i) (by omega);have hok:=wl_ok (d:=d) (i:=i) (by omega);refine .inr ⟨_,(zmf hi).symm,fun k hk=>⟨_,rfl,fun _=>⟨_,zdt hi,_,rfl,fun hc=>?_,fun hc=>?_⟩,fun hc=>?_⟩⟩
  ·simp only [Bool.and_eq_true,decide_eq_true_eq] at hc;obtain ⟨y,hy,hm⟩:=zpn hc.1 hc.2;have e:zgo (wl d i) d[i].2.1=y:=by unfold zgo;rw [if_pos hc,hy];rfl
   rw [e] at hk;exact ⟨y,hy,w7 (by omega) (by omega) (hok y hm) (zjr hok _) hk⟩
  ·have e:zgo (wl d i) d[i].2.1=0:=by
    unfold zgo;rw [if_neg];simp only [Bool.and_eq_false_iff,decide_eq_false_iff_not] at hc;omega
   rw [e] at hk;exact w7 (by omega) (by omega) (by omega) (zjr hok _) hk
  ·exfalso;simp only [Bool.and_eq_false_iff,decide_eq_false_iff_not] at hc;omega
 ·rintro l rfl k;have hlen:=zqp (d:=d) (i:=d.length) (Nat.le_refl _);refine ⟨_,rfl,fun hc=>?_,fun _=>⟨fun h=>?_,fun h=>?_⟩⟩
  ·exfalso;simp only [Bool.and_eq_true,decide_eq_true_eq] at hc;omega
  ·rw [hlen] at h;rw [if_pos (by have:=eq_of_beq h;omega)]
  ·rw [hlen] at h;have hp:d.length≠0:=by have:=beq_eq_false_iff_ne.1 h;omega
   obtain ⟨y,hy,_⟩:=zpn (xs:=wl d d.length) (i:=(d.length:Int)-1) (by omega) (by omega);refine ⟨zh (by omega) (by omega),y,by rw [hlen];exact hy, ?_⟩;rw [if_neg hp];unfold zgo;rw [if_pos (by omega),hy];rfl
theorem wl_pre {d:List SNode} {i:Nat}:∀{j:Nat},i≤j→j≤d.length→wl d i <+: wl d j
 | 0,h,_=>by rw [Nat.le_zero.1 h];exact List.prefix_refl _
 | j+1,h,hj=>by
  rcases Nat.lt_or_eq_of_le h with h1 | h1
  ·rw [zmf (by omega)];exact (wl_pre (Nat.le_of_lt_succ h1) (by omega)).trans (List.prefix_append _ _)
  ·rw [h1];exact List.prefix_refl _
theorem zn3 {d:List SNode} {i:Nat} (hi:i≤d.length) {x:Int} (h0:0≤x) (h1:x<(i:Int)):zgo (wl d i) x=zgo (wl d d.length) x:=by
 have l1:=zqp (d:=d) hi;have l2:=zqp (d:=d) (i:=d.length) (Nat.le_refl _);obtain ⟨m,rfl⟩:∃m:Nat,x=m:=⟨x.toNat,by omega⟩;unfold zgo;rw [if_pos (by omega),if_pos (by omega),zbw,zbw];obtain ⟨r,hr⟩:=wl_pre (d:=d) hi (Nat.le_refl _);rw [← hr,List.getElem?_append_left (by omega)]
theorem look_at {d:List SNode} {i:Int} {e:SNode} (he:at? d i=some e):zgo (wl d d.length) i=min (zqq e (zgo (wl d i.toNat) e.2.1) (zgo (wl d i.toNat) e.2.2.1)) 1000:=by
 obtain ⟨h0,h1⟩:=zb6 he;obtain ⟨m,rfl⟩:∃m:Nat,i=m:=⟨i.toNat,by omega⟩;have hm:m<d.length:=by omega
 have he':d[m]=e:=by
  rw [zbw,List.getElem?_eq_getElem hm] at he;exact Option.some.inj he
 rw [← zn3 (d:=d) (i:=m+1) (by omega) (by omega) (by omega)];have l1:=zqp (d:=d) (i:=m) (by omega);unfold zgo;rw [if_pos (by rw [zmf hm,List.length_append,l1];simp;omega),zbw,zmf hm,List.getElem?_append_right (by omega),l1,Nat.sub_self,he'];simp [zgo]
theorem sz_wgt {d:List SNode} (hn:∀n∈d,n.1≠8∧n.1≠9) {f i:Int} (h:Tr d f i):∀k,zgo (wl d d.length) i<1000→((szN d k i:Nat):Int)≤zgo (wl d d.length) i:=by
 have hok:∀x,0≤zgo (wl d d.length) x∧zgo (wl d d.length) x≤1000:=fun x=>zjr (wl_ok (Nat.le_refl _)) x;have hs:∀{i:Int} {e:SNode} (k:Nat),at? d i=some e→szN d (k+1) i=if e.1=2 then 1 else if e.1=3 then e.2.2.2.2.2.2.length else if e.1=4∨e.1=5 then szN d k e.2.1+szN d k e.2.2.1 else if e.1=6 then szN d k e.2.1 else if e.1=7 then e.2.2.2.2.1.toNat*szN d k e.2.1 else 0:=fun {i e} k he=>by
  simp only [szN,he]
 induction h with
 | leaf he hk hx h0=>
  rename_i i e
  intro k hlt;have hl:=look_at he;rw [hl] at hlt ⊢;cases k with
  | zero=>have:=wgt1_ok (e:=e) (zjr (wl_ok (d:=d) (i:=i.toNat) (by have:=zb6 he;omega)) e.2.1) (zjr (wl_ok (d:=d) (i:=i.toNat) (by have:=zb6 he;omega)) e.2.2.1);show (0:Int)≤_;omega
  | succ k=>
   rw [hs k he];unfold zqq at hlt ⊢;rcases hk with k1 | k1 | k1
   ·simp only [k1] at hlt ⊢;simp;try omega
   ·simp only [k1] at hlt ⊢;simp;try omega
   ·simp only [k1] at hlt ⊢;simp at hlt ⊢;omega
 | one he hk ha hb hr h ih=>
  rename_i f i e
  intro k hlt;have hle:=h.le;have hbd:=zb6 he;have hl:=look_at he;rw [ha,zn3 (i:=i.toNat) (by omega) (by omega) (by omega)] at hl;have hA:=hok (i-1);have hw:=wgt1_ok (e:=e) (a:=zgo (wl d d.length) (i-1)) hA (zjr (wl_ok (d:=d) (i:=i.toNat) (by omega)) e.2.2.1);rw [hl] at hlt ⊢;cases k with
  | zero=>show (0:Int)≤_;omega
  | succ k=>
   rw [hs k he,ha];have ih:=ih k;unfold zqq at hlt ⊢;rcases hk with k1 | k1 | k1 | k1
   ·simp only [k1] at hlt ⊢;simp at hlt ⊢;have:=ih (by omega);omega
   ·have hr:=hr k1;simp only [k1] at hlt ⊢;simp only [show ¬ ((7:Int)=2) by decide,show ¬ ((7:Int)=3) by decide,show ¬ ((7:Int)=4∨(7:Int)=5) by decide,show ¬ ((7:Int)=6) by decide,if_false,if_true] at hlt ⊢;have hx:1+max 0 (min e.2.2.2.2.1 1000)=1+e.2.2.2.2.1:=by omega
    rw [hx] at hlt ⊢;have hA2:zgo (wl d d.length) (i-1)<1000:=by
     rcases Int.lt_or_le (zgo (wl d d.length) (i-1)) 1000 with h | h
     ·exact h
     ·have h2:zgo (wl d d.length) (i-1)≤(1+e.2.2.2.2.1)*zgo (wl d d.length) (i-1):=by
       have:=Int.mul_le_mul_of_nonneg_right (show (1:Int)≤1+e.2.2.2.2.1 by omega) hA.1;omega
      omega
    have ih:=ih hA2;have e1:(((e.2.2.2.2.1.toNat*szN d k (i-1):Nat)):Int)=e.2.2.2.2.1*(szN d k (i-1):Int):=by
     rw [Int.natCast_mul,Int.toNat_of_nonneg (by omega)]
    rw [e1];have h3:e.2.2.2.2.1*(szN d k (i-1):Int)≤(1+e.2.2.2.2.1)*zgo (wl d d.length) (i-1):=Int.mul_le_mul (by omega) ih (by omega) (by omega);omega
   ·exact absurd k1 (hn _ (at_mem he)).1
   ·exact absurd k1 (hn _ (at_mem he)).2
 | two he hk ha hb h1 h2 i1 i2=>
  rename_i f p i e
  intro k hlt;have l1:=h1.le;have l2:=h2.le;have hbd:=zb6 he;have hl:=look_at he;rw [ha,hb,zn3 (i:=i.toNat) (by omega) (by omega) (by omega),zn3 (i:=i.toNat) (by omega) (by omega) (by omega)] at hl;have hA:=hok (p-1);have hB:=hok (i-1);rw [hl] at hlt ⊢;have hw:zqq e (zgo (wl d d.length) (p-1)) (zgo (wl d d.length) (i-1))=zgo (wl d d.length) (p-1)+zgo (wl d d.length) (i-1):=by
   unfold zqq;rw [if_neg (by omega),if_neg (by omega),if_pos hk]
  rw [hw] at hlt ⊢;cases k with
  | zero=>show (0:Int)≤_;omega
  | succ k=>
   rw [hs k he,ha,hb,if_neg (by omega),if_neg (by omega),if_pos hk];have j1:=i1 k (by omega);have j2:=i2 k (by omega);rw [Int.natCast_add];omega
theorem Heavy_ex {d:List SNode} (hl:d.length≤1000):∃r,zcb d r∧(r=false→∀n∈d,n.1≠8∧n.1≠9):=by
 rcases Classical.em (∀n∈d,n.1≠8∧n.1≠9) with hn | hn
 ·refine ⟨false, ?_,fun _=>hn⟩;refine zf2 (P:=fun k (_:Unit) v=>zcb.l1 d false _ k v) d.length (fun _ _=>True) ?_ ?_ () trivial
  ·intro i _ hi _;have:=hn _ (List.getElem_mem hi);refine .inr ⟨(),trivial,fun k hk=>⟨fun _=>⟨_,zdt hi,_,fun _=>zdt hi,fun h=>?_,fun _=>⟨zh (by omega) (by omega),hk⟩⟩,fun h=>absurd (by omega) (df h)⟩⟩;simp [this.1,this.2] at h
  ·intro _ _ k;exact ⟨fun h=>absurd (dt h) (by omega),fun _=>rfl⟩
 ·refine ⟨true, ?_,(fun h=>by cases h)⟩;refine zf2 (P:=fun k (_:Unit) v=>zcb.l1 d true _ k v) d.length (fun i _=>∀n∈d.take i,n.1≠8∧n.1≠9) ?_ ?_ () (by simp)
  ·intro i _ hi hI
   by_cases hb:d[i].1=8∨d[i].1=9
   ·exact .inl fun k=>⟨fun _=>⟨_,zdt hi,_,fun _=>zdt hi,fun _=>rfl,fun h=>by
     rcases hb with hb | hb <;> simp [hb] at h⟩,fun h=>absurd (by omega) (df h)⟩
   ·refine .inr ⟨(),fun n hnm=>?_,fun k hk=>⟨fun _=>⟨_,zdt hi,_,fun _=>zdt hi,fun _=>rfl,fun _=>⟨zh (by omega) (by omega),hk⟩⟩,fun h=>absurd (by omega) (df h)⟩⟩;rw [List.take_succ_eq_append_getElem hi,List.mem_append,List.mem_singleton] at hnm;rcases hnm with h | rfl
    ·exact hI n h
    ·omega
  ·intro _ hI k;rw [List.take_length] at hI;exact absurd hI hn
theorem Light_ex {d:List SNode} (hl:d.length≤1000) (b:Int):∃r,zg7 d d b r∧(r=true→b≤10∨∀n∈d,n.1≠8∧n.1≠9):=by
 obtain ⟨r,h1,h2⟩:=Heavy_ex hl;refine ⟨_,⟨r,fun _=>h1,r,fun _=>h1,rfl⟩,fun h=>?_⟩;simp only [Bool.or_eq_true,decide_eq_true_eq,Bool.and_eq_true,Bool.not_eq_true'] at h;exact h.imp id fun h=>h2 h.1
theorem few18_ex {d:List SNode} (ht:Txt d):∃r,zlz d r∧(r=true→Rt d∧d.length≤16∧((∀n∈d,n.1≠8∧n.1≠9)→szN d d.length ((d.length:Int)-1)≤60)):=by
 obtain ⟨r3,h3,h3b⟩:=few_ex ht;cases r3
 ·exact ⟨false,⟨false,h3,0,(fun h=>by simp at h),_,rfl,false,(fun h=>by simp at h),by simp⟩,(fun h=>by cases h)⟩
 ·have hl:=h3b rfl;have hw:=zov hl;obtain ⟨r9,h9,h9b⟩:=right_ok (d:=d) (by omega) ht;refine ⟨_,⟨true,h3,_,fun _=>hw,_,rfl,r9,fun _=>h9,rfl⟩,fun h=>?_⟩;simp only [Bool.true_and,Bool.and_eq_true,decide_eq_true_eq] at h;obtain ⟨⟨g1,g2⟩,g3⟩:=h;have hR:=h9b g3;refine ⟨hR,by omega,fun hn=>?_⟩;have hp:=List.length_pos_iff.2 hR.ne;rw [if_neg (by omega)] at g2;have:=sz_wgt hn hR.tr d.length (by omega);omega
theorem lk_of {d:List SNode} {b:Int} (h1:b≤10∨∀n∈d,n.1≠8∧n.1≠9) (h2:(∀n∈d,n.1≠8∧n.1≠9)→szN d d.length ((d.length:Int)-1)≤60):Lk d b:=
 h1.elim .inr fun h=>.inl ⟨nf_of h _ _,Nat.le_trans (h2 h) (by omega)⟩
theorem zgs {d:List SNode} (h:Rt d) (hl:d.length≤16) (ht:Txt d) {b:Int} (hb:b≤1000) (hk:Lk d b):zeo d b (zgp (srchB (zdq d) b)).1:=⟨_,zln h.ne (by omega),_,walk_sets h hl ht hb hk,rfl⟩
theorem zme {d:List SNode} (h:Rt d) (hl:d.length≤16) (ht:Txt d) {w:List Int} (hw:∀c∈w,InR .u8 c) (hwl:w.length≤8):zjc d w (endS d (zk5 d w)):=by
 have hp:pas d.length w.length≤2000000000:=zsv (m':=16) (k':=17) (by omega) (by omega) pas_16_17;have:=zn8 h hw;exact ⟨_,zrp h (by omega) ht hw (by omega) hp,_,zm9 (fun s hs=>(zjz h (by omega) ht hw hs).1) (by omega),rfl⟩
theorem text_rt {n:SNode} (hk:n.1=3) (h0:n.2.1=0∧n.2.2.1=0) (hx:n.2.2.2.2.2.2≠[]):Rt [n]:=by
 have tr:Tr [n] 0 ((([n]:List SNode).length:Int)-1):=.leaf (e:=n) rfl (by omega) (fun _=>hx) h0;have nk:=tr.nok;refine ⟨⟨nk.two,nk.one,nk.rep,nk.kind,nk.ntx,fun i m hm h67=>?_⟩,tr⟩;obtain ⟨_,rfl⟩:=at_one hm;omega
def dDot:List SNode:=[(2,0,0,0,0,Cl.row 0 255,([]:Str))]
def dA:List SNode:=[(3,0,0,0,0,(0#256),([97]:Str))]
def dNo:List SNode:=[(2,0,0,0,0,(0#256),([]:Str))]
def dDA:List SNode:=zlv 4 dDot dA
theorem dDot_rt:Rt dDot:=leaf_rt (.inr rfl) ⟨rfl,rfl⟩
theorem dNo_rt:Rt dNo:=leaf_rt (.inr rfl) ⟨rfl,rfl⟩
theorem dA_rt:Rt dA:=text_rt rfl ⟨rfl,rfl⟩ (by decide)
theorem dDA_rt:Rt dDA:=pair_rt dDot_rt dA_rt (.inl rfl)
theorem zti:Txt dDA:=fun n hn=>by
 have:∀n∈dDA,n.2.2.2.2.2.2.length≤1:=by decide +kernel
 have:=this n hn;omega
theorem dNo_txt:Txt dNo:=small_txt (by decide +kernel)
def setsH (d:List SNode):Sch TS:=⟨[stS d],fun l=>((zgm (zkq d l)).map fun n:Nat=>(n:Int)).map fun c=>(c,onS d c l),endS d⟩
theorem sets_H (d:List SNode):zdq d=setsH d:=by
 unfold zdq setsH zfv zm1
 congr 1
 funext l;rw [bytC_eq]
theorem awake18:zg8 true:=by
 have u8:∀c:Int,0≤c∧c≤255→InR .u8 c:=fun c h=>zge.2 h;have w1:zeo dDA 9 (2,[0,97],[],0,0,0,4):=by
  have:=zgs dDA_rt (by decide +kernel) zti (b:=9) (by decide) (.inr (by decide))
  rwa [sets_H,show (zgp (srchB (setsH dDA) 9)).1=(2,[0,97],[],0,0,0,4) by decide +kernel] at this
 have w2:zeo dNo 9 (1,[],[],0,0,0,2):=by
  have:=zgs dNo_rt (by decide +kernel) dNo_txt (b:=9) (by decide) (.inr (by decide))
  rwa [sets_H,show (zgp (srchB (setsH dNo) 9)).1=(1,[],[],0,0,0,2) by decide +kernel] at this
 have w3:zeo dDA 1 (3,[],[],0,0,0,1):=by
  have:=zgs dDA_rt (by decide +kernel) zti (b:=1) (by decide) (.inr (by decide))
  rwa [sets_H,show (zgp (srchB (setsH dDA) 1)).1=(3,[],[],0,0,0,1) by decide +kernel] at this
 have bs:∀x y:Int,0≤x∧x≤255→0≤y∧y≤255→∀c∈[x,y],InR .u8 c:=fun x y hx hy c hc=>by
  rcases List.mem_cons.1 hc with rfl | hc
  ·exact u8 _ hx
  ·rw [List.mem_singleton.1 hc];exact u8 _ hy
 have i1:zjc dDA [120,97] true:=by
  have:=zme dDA_rt (by decide +kernel) zti (w:=[120,97]) (bs _ _ (by decide) (by decide)) (by decide)
  rwa [show endS dDA (zk5 dDA [120,97])=true by decide +kernel] at this
 have i2:zjc dDA [97,120] false:=by
  have:=zme dDA_rt (by decide +kernel) zti (w:=[97,120]) (bs _ _ (by decide) (by decide)) (by decide)
  rwa [show endS dDA (zk5 dDA [97,120])=false by decide +kernel] at this
 refine ⟨Cl.row 0 255,zjm (u8 0 (by decide)) (u8 255 (by decide)),dDA,Pair_in dDot_rt.tr dA_rt.tr (by decide) (by decide),_,w1,_,w2,_,fun _=>zhw (by decide),_,rfl,_,fun _=>w3,_,fun _=>i1,_,fun _=>i2, ?_⟩;decide
theorem zp5 (a:SVerdict) (h1:a.2.1.length<9223372036854775807) (h2:a.2.2.1.length<9223372036854775807):zkc a a true:=
 ⟨_,fun _=>zhw h1,_,fun _=>zhw h2,_,rfl,_,rfl,by simp⟩
theorem word_len {d:List SNode} {b:Int} {v:Int × List Int × Int × Option TS} (h:OutB (zdq d) b v):v.2.1.length≤b.toNat:=by
 cases h with
 | yes i hb h hno=>simp
 | no i q hb h hh hno=>
  have:=(ztq h).2.2;simp only;omega
 | limit _ _=>simp
theorem law18_WordTells_true {d:List SNode} {b:Int} {w:List Int} (ht:Txt d) (hb:InR .i64 b) (hw:∀c∈w,InR .u8 c):zg9 d b w true:=by
 obtain ⟨r6,h6,h6b⟩:=few18_ex ht;have hlx:∃r10,(r6=true→zg7 d d b r10)∧(r6=true→r10=true→b≤10∨∀n∈d,n.1≠8∧n.1≠9):=by
  cases r6
  ·exact ⟨false,(fun h=>by cases h),(fun h=>by cases h)⟩
  ·obtain ⟨r,h1,h2⟩:=Light_ex (d:=d) (by have:=(h6b rfl).2.1;omega) b;exact ⟨r,fun _=>h1,fun _=>h2⟩
 obtain ⟨r10,h10,h10b⟩:=hlx;refine ⟨true,awake18,r6,fun _=>h6,_,rfl,r10,fun h=>h10 (by simp at h;exact h.1.1),fun _=>⟨true,awake18,rfl⟩,fun hc=>?_⟩;simp only [Bool.not_true,Bool.false_or,Bool.or_eq_false_iff,Bool.not_eq_false',decide_eq_false_iff_not] at hc;obtain ⟨⟨⟨g1,g2⟩,g3⟩,g4⟩:=hc;obtain ⟨hR,hl,hsz⟩:=h6b g1;have lb:Lk d b:=lk_of (h10b g1 g4) hsz;have wb:=word_len (srchB_out (zdq d) b);refine ⟨_,zgs hR hl ht (by omega) lb,_,zp4 hR hl ht (by omega) lb,_,zp5 _ (by simp only [zgp];omega) (by simp [zgp]),_,fun _=>zme hR hl ht hw (by omega),_,fun _=>zse hR (by omega) ht (by omega) hw, ?_⟩;rw [ends_ways];simp
open Go.ChangeShapes Go.WideShapes Go.RowKit
structure Rd (P:Program) (t:TypeId) {α:Type} (E:En α) (G:α→Prop):Prop where
 sz:P.cellsOf t=E.sz
 rd:∀{H:Type} (enc:TypeId × Value→H) (w:World) (fuel:Nat) (cs:List Value) (x:DataW H × List MemPlace),
  DataW.trod enc P w 0 (fun _=>true) true fuel t cs=some x→(∀n∈x.1.weights P t,n≤reachBytes)→∃y,E.R w (fun b=>b<w.heap.size) cs y∧G y
 vl:∀(w:World) (v:Value),Value.okWide P w .any 0 t v→(∃y,E.R w (fun b=>b<w.heap.size) v.cells.toList y)→v=E.val v.cells.toList
theorem Rd.int {P:Program} {t:TypeId} {k:IntKind} (ht:P.underlying t=some (.int k)) (hc:P.cellsOf t=1):Rd P t (En.int k) (InR k):=by
 refine ⟨hc, ?_, ?_⟩
 ·intro H enc w fuel cs x h _;obtain ⟨n,rfl,_,hw⟩:=DataW.trod_int ht h;have:InR k n:=by simpa [Lit.wf,InR] using hw
  exact ⟨n,⟨rfl,this⟩,this⟩
 ·intro w v hv _;obtain ⟨n,rfl⟩:=okWide_int ht hv;rfl
theorem Rd.str {P:Program} {t:TypeId} (ht:P.underlying t=some .string) (hc:P.cellsOf t=1):Rd P t En.str (fun y=>y.length≤140737488351232):=by
 refine ⟨hc, ?_, ?_⟩
 ·intro H enc w fuel cs x h hwt;obtain ⟨s,rfl,hx,hs⟩:=DataW.trod_string ht h;have hl:s.data.toList.length≤9223372036854775807:=by simpa [maxLen] using hs
  have h2:s.data.toList.length≤140737488351232:=hwt _ (by rw [hx];simp [DataW.weights]);exact ⟨s.data.toList,⟨rfl,hl⟩,h2⟩
 ·intro w v hv _;simp only [Value.okWide,ht,Cell.okWide,Cell.ok] at hv;cases v <;> simp at hv;rfl
theorem zod {H:Type} {P:Program} {e:TypeId}:∀{l:List (DataW H)} {d:DataW H},d∈l→∀n∈d.weights P e,n∈DataW.weightsAll P e l
 | [],_,h,_,_=>by cases h
 | d'::l,d,h,n,hn=>by
  simp only [DataW.weightsAll,List.mem_append];rcases List.mem_cons.1 h with rfl | h
  ·exact .inl hn
  ·exact .inr (zod h n hn)
theorem Rd.slice {P:Program} {t e:TypeId} {α:Type} {E:En α} {G:α→Prop} (ht:P.underlying t=some (.slice e)) (hc:P.cellsOf t=1) (hby:Nat.blt 0 (P.bytesOf e)=true) (he:Rd P e E G):
  Rd P t (En.slice E) (fun xs=>xs.length≤140737488351232∧∀y∈xs,G y):=by
 refine ⟨hc, ?_, ?_⟩
 ·intro H enc w fuel cs x h hwt;rcases Deep.open_slice ht h with ⟨rfl,_⟩ | ⟨a,len,cap,m,n,D,Pl,rfl,hb,hl,hm,hmm,hxe,hx⟩
  ·exact ⟨[],⟨_,rfl,zer E _ _⟩,Nat.zero_le _,by simp⟩
  ·simp only [if_true] at hmm;subst hmm;have hall:∀i,i<len→∃p:α × List Value,w.cells? 0 (a.add (i*P.cellsOf e)) (P.cellsOf e)=some p.2∧E.R w (fun b=>b<w.heap.size) p.2 p.1∧G p.1:=fun i hi=>by
    obtain ⟨cs',h1,h2⟩:=hx i (by omega);obtain ⟨y,h3,h4⟩:=he.rd enc w n cs' _ h2 fun q hq=>hwt q (by
     rw [hxe];simp only [DataW.weights,ht,List.mem_cons,List.mem_append];exact .inr (.inl (zod (List.mem_map.2 ⟨i,by simpa using hi,rfl⟩) q hq)))
    exact ⟨(y,cs'),h1,h3,h4⟩
   have hmax2:len≤140737488351232:=by
    have h1:=hwt ((len+(m-len))*P.bytesOf e) (by rw [hxe];simp [DataW.weights,ht]);have h2:0<P.bytesOf e:=Nat.le_of_ble_eq_true hby;have h3:(len+(m-len))*1≤(len+(m-len))*P.bytesOf e:=Nat.mul_le_mul_left _ h2;have h4:reachBytes=140737488351232:=rfl;omega
   have hmax:len≤lim:=by have:maxLen≤lim:=by decide
                         omega
   by_cases h0:len=0
   ·subst h0;exact ⟨[],⟨_,rfl,some a,m,rfl,Nat.zero_le _,(fun h=>by cases h),Nat.zero_le _,fun h=>absurd rfl h⟩,Nat.zero_le _,by simp⟩
   have hinh:Inhabited (α × List Value):=⟨(hall 0 (by omega)).choose⟩;obtain ⟨f,hf⟩:=Deep.choose_lt hall;have hsz:=E.pos;rw [← he.sz] at hsz;obtain ⟨hcell0,hblk⟩:a.spot=none∧a.block<w.heap.size:=by
    obtain ⟨_,hl2,hcl⟩:=World.cells?_some (hf 0 (by omega)).1;have h2:=hcl 0 hsz;rw [List.getElem?_eq_getElem (by omega)] at h2;simp only [Nat.zero_mul,Addr.add,if_true,World.cell?] at h2;cases hb2:w.heap[a.block]? with
    | none=>simp [hb2] at h2
    | some o=>
     refine ⟨?_,(Array.getElem?_eq_some_iff.1 hb2).1⟩;cases o <;> simp [hb2] at h2;exact h2.1
   refine ⟨(List.range len).map (fun i=>(f i).1),⟨_,rfl,some a,m, ?_,by simpa using hl,(fun h=>by cases h),by simpa using hmax,fun _=>⟨a.block,a.off,(List.range len).map (fun i=>(f i).2), ?_,hblk,⟨by simp, ?_⟩, ?_⟩⟩,by simpa using hmax2, ?_⟩
   ·simp
   ·cases a;simp at hcell0;subst hcell0;rfl
   ·intro i c y hc1 hy1;have hi:i<len:=by have:=(List.getElem?_eq_some_iff.1 hc1).1;simpa using this
    simp [hi] at hc1 hy1;subst hc1;subst hy1;exact (hf i hi).2.1
   ·have hlens:∀c∈(List.range len).map (fun i=>(f i).2),c.length=E.sz:=by
     intro c hc;simp only [List.mem_map,List.mem_range] at hc;obtain ⟨i,hi,rfl⟩:=hc;rw [(World.cells?_some (hf i hi).1).2.1,he.sz]
    intro j u hj;have hjl:j<len*E.sz:=by
     have:=(List.getElem?_eq_some_iff.1 hj).1;rw [zgx hlens] at this;simpa using this
    have hp:0<E.sz:=E.pos;have hi:j / E.sz<len:=Nat.div_lt_of_lt_mul (by rw [Nat.mul_comm];exact hjl);have hk:j % E.sz<E.sz:=Nat.mod_lt _ hp;obtain ⟨_,hl2,hcl⟩:=World.cells?_some (hf _ hi).1;have hcell:=hcl (j % E.sz) (by rw [he.sz];exact hk);rw [he.sz] at hl2;have hg:=zhn hlens (i:=j / E.sz) (cs:=(f (j / E.sz)).2) (j:=j % E.sz) (u:=(f (j / E.sz)).2[j % E.sz]'(by omega)) (by simp [hi]) (by simp);rw [Nat.mul_comm,Nat.div_add_mod] at hg;rw [hg] at hj;rw [List.getElem?_eq_getElem (by omega),hj,Deep.add_add,he.sz,Nat.mul_comm,Nat.div_add_mod] at hcell;rw [← hcell];cases a;simp at hcell0;subst hcell0;rw [zek]
   ·intro y hy;simp only [List.mem_map,List.mem_range] at hy;obtain ⟨i,hi,rfl⟩:=hy;exact (hf i hi).2.2
 ·intro w v hv _;simp only [Value.okWide,ht,Cell.okWide,Cell.ok] at hv;cases v <;> simp at hv;rfl
theorem u64_word {n:Int} (h:InR .u64 n):∃m:Nat,m<2 ^ 64∧n=m:=by
 simp [InR,IntKind.min,IntKind.max,IntKind.signed,IntKind.bits] at h;exact ⟨n.toNat,by omega,by omega⟩
theorem Rd.cls {P:Program} {t e:TypeId} (ht:P.underlying t=some (.array 4 e)) (hc:P.cellsOf t=4) (he:P.underlying e=some (.int .u64)) (hce:P.cellsOf e=1):Rd P t En.cls (fun _=>True):=by
 refine ⟨hc, ?_, ?_⟩
 ·intro H enc w fuel cs x h _;obtain ⟨xs,m,rfl,rfl,hlen,hn,hx⟩:=DataW.trod_array ht h;rw [hc] at hlen
  match cs,hlen with
  | [u0,u1,u2,u3],_=>
   have hx':∀i (hi:i<4) u,[u0,u1,u2,u3][i]?=some u→∃q:Nat,q<2 ^ 64∧u = .int .u64 q:=by
    intro i hi u hu;have h1:=hx i hi;rw [hce,Nat.mul_one,List.getElem?_eq_getElem (by omega)] at h1;have h2:List.take 1 (List.drop i [u0,u1,u2,u3])=[u]:=by
     match i,hi with
     | 0,_ | 1,_ | 2,_ | 3,_=>simp at hu;subst hu;rfl
    rw [h2] at h1;obtain ⟨n,h3,_,h4⟩:=DataW.trod_int he h1;obtain ⟨q,hq,rfl⟩:=u64_word (n:=n) (by simpa [Lit.wf,InR] using h4);simp at h3;exact ⟨q,hq,h3⟩
   obtain ⟨q0,h0,rfl⟩:=hx' 0 (by omega) u0 rfl;obtain ⟨q1,h1,rfl⟩:=hx' 1 (by omega) u1 rfl;obtain ⟨q2,h2,rfl⟩:=hx' 2 (by omega) u2 rfl;obtain ⟨q3,h3,rfl⟩:=hx' 3 (by omega) u3 rfl;refine ⟨Cl.ofWords q0 q1 q2 q3, ?_,trivial⟩;obtain ⟨e0,e1,e2,e3⟩:=Cl.ofWords_word h0 h1 h2 h3;show _=zb3 _;unfold zb3;rw [e0,e1,e2,e3]
 ·intro w v hv _;simp only [Value.okWide,ht] at hv;obtain ⟨cs,rfl,_⟩:=hv;simp [En.val,En.cls,Value.cells]
structure RdF (P:Program) (fs:List Field) (o:Nat) {α:Type} (E:En α) (G:α→Prop):Prop where
 rd:∀{H:Type} (enc:TypeId × Value→H) (w:World) (fuel:Nat) (cs:List Value) (xs:List (DataW H × List MemPlace)),xs.length=fs.length →
  (∀(i:Nat) (f:Field),fs[i]?=some f→DataW.trod enc P w 0 (fun _=>true) true fuel f.type ((cs.drop f.offset).take (P.cellsOf f.type))=xs[i]?) →
  (∀n∈DataW.weightsEach P (fs.map (·.type)) (xs.map (·.1)),n≤reachBytes)→∃y,E.R w (fun b=>b<w.heap.size) ((cs.drop o).take E.sz) y∧G y
theorem RdF.last {P:Program} {f:Field} {o:Nat} {α:Type} {E:En α} {G:α→Prop} (h:Rd P f.type E G) (ho:f.offset=o):RdF P [f] o E G:=⟨by
 intro H enc w fuel cs xs hl hx hw;obtain ⟨x,rfl⟩:∃x,xs=[x]:=List.length_eq_one_iff.1 hl;have h1:=hx 0 f rfl;rw [ho,h.sz] at h1;exact h.rd enc w fuel _ x h1 fun n hn=>hw n (by simp [DataW.weightsEach,hn])⟩
theorem RdF.solo {P:Program} {fs:List Field} {o:Nat} {α:Type} {E:En α} {G:α→Prop} (h:RdF P fs o E G):RdF P fs o E.solo G:=⟨h.rd⟩
theorem zpt {xs:List Value} {o m n:Nat}:(xs.drop o).take (m+n)=(xs.drop o).take m++(xs.drop (o+m)).take n:=by
 rw [List.take_add,List.drop_drop]
theorem RdF.cons {P:Program} {f:Field} {fs:List Field} {o:Nat} {α β:Type} {E:En α} {F:En β} {G:α→Prop} {K:β→Prop} (h:Rd P f.type E G) (ho:f.offset=o) (hr:RdF P fs (o+E.sz) F K):RdF P (f::fs) o (E.cat F) (fun x=>G x.1∧K x.2):=⟨by
 intro H enc w fuel cs xs hl hx hw;obtain ⟨x,xs',rfl⟩:∃x xs',xs=x::xs':=by
  cases xs with
  | nil=>simp at hl
  | cons x xs'=>exact ⟨x,xs',rfl⟩
 have h1:=hx 0 f rfl;rw [ho,h.sz] at h1;obtain ⟨y,hy1,hy2⟩:=h.rd enc w fuel _ x h1 fun n hn=>hw n (by simp [DataW.weightsEach,hn]);obtain ⟨z,hz1,hz2⟩:=hr.rd enc w fuel cs xs' (by simpa using hl) (fun i g hg=>by have:=hx (i+1) g (by simpa using hg);simpa using this) fun n hn=>hw n (by
  simp only [List.map_cons,DataW.weightsEach,List.mem_append];exact .inr hn)
 exact ⟨(y,z),⟨_,_,zpt,hy1,hz1⟩,hy2,hz2⟩⟩
theorem Rd.struct {P:Program} {t:TypeId} {fs:Array Field} {α:Type} {E:En α} {G:α→Prop} (ht:P.underlying t=some (.struct fs)) (ha:E.agg=true) (hc:P.cellsOf t=E.sz) (h:RdF P fs.toList 0 E G):Rd P t E G:=by
 refine ⟨hc, ?_, ?_⟩
 ·intro H enc w fuel cs x hx hw;obtain ⟨xs,n,rfl,rfl,hlen,hxl,hf⟩:=DataW.trod_struct ht hx;obtain ⟨y,hy1,hy2⟩:=h.rd enc w n cs xs (by simpa using hxl) (fun i f hi=>hf i f (by simpa using hi)) fun q hq=>hw q (by
   simp only [DataW.weights,ht];exact hq)
  rw [List.drop_zero,List.take_of_length_le (by rw [hlen,hc];exact Nat.le_refl _)] at hy1;exact ⟨y,hy1,hy2⟩
 ·intro w v hv _;obtain ⟨cs,rfl,_⟩:=okWide_struct ht hv;unfold En.val;rw [ha];simp [Value.cells]
theorem Rd.open {P:Program} {t:TypeId} {α:Type} {E:En α} {G:α→Prop} (hr:Rd P t E G) {H:Type} {enc:TypeId × Value→H} {W:World} {v:Value} {d:DataW H} {p:List MemPlace}
  (hv:Value.okWide P W .any 0 t v) (hd:DataW.Trod enc P W 0 (fun _=>true) true t v d p) (hw:∀n∈d.weights P t,n≤reachBytes):∃y,(Pd.rep E y).p ⟨W,fun _=>False,fun _ h=>h.elim⟩ v∧G y:=by
 obtain ⟨fuel,h⟩:=hd;obtain ⟨y,hy,hg⟩:=hr.rd enc W fuel _ _ h hw;refine ⟨y,⟨v.cells.toList,hr.vl W v hv ⟨y,hy⟩, ?_⟩,hg⟩;exact E.mono (fun b hb=>⟨hb,fun h=>h⟩) hy
theorem Ex.below {s s':St} (h:Ex s s'):Below s.w.heap.size s.w s'.w:=⟨h.mv.os,h.mv.tape,h.mv.output,h.mv.size,fun k hk=>h.mv.blk k hk (fun h=>h)⟩
theorem okWide_any {P:Program} {W:World} {b:Nat} {t:TypeId} {v:Value} (h:Value.okWide P W .any b t v):Value.okWide P W .any 0 t v:=by
 unfold Value.okWide Row.okWide Cell.okWide Cell.ok World.has at *;exact h
section
variable {H : Type} {enc : TypeId × Value → H} {P : Program}
theorem stays {W W':World} (hl:laidOutB P=true) (hb:Below W.heap.size W W') {sp:Nat→Bool}:∀{ts:List TypeId} {vs:List Value} {ds:List (DataW H)} {ps:List MemPlace},
  (ts.all fun t=>P.readableRec t&&decide (t<P.types.size))=true→DataW.TrodAll enc P W 0 (fun _=>true) true ts vs ds ps→(∀p∈ps,p.block<W.heap.size)→(∀p∈ps,sp p.block=true) →
  DataW.TrodAll enc P W' 0 sp true ts vs ds ps
 | [],vs,ds,ps,_,h,_,_=>by
  obtain ⟨rfl,rfl,rfl⟩:=trodAll_nil h;exact trodAll_mk0
 | t::ts,vs,ds,ps,ha,h,hlt,hsp=>by
  obtain ⟨v,vs',d,ds',p,q,rfl,rfl,rfl,h1,h2⟩:=trodAll_cons h;simp only [List.all_cons,Bool.and_eq_true,decide_eq_true_eq] at ha;refine trodAll_cons_mk (WideElems.Trod_stays hl ha.1.1 ha.1.2 h1 (fun x hx=>hb.same (hlt x (List.mem_append_left _ hx))) fun x hx=>hsp x (List.mem_append_left _ hx)) ?_;exact stays hl hb (by simpa using ha.2) h2 (fun x hx=>hlt x (List.mem_append_right _ hx)) fun x hx=>hsp x (List.mem_append_right _ hx)
theorem post_law {f:Func} {s:ChangeSpec} {apart fresh handsOn again:Bool} {W W':World} {args:Array Value} {v:Value} {ds gs:List (DataW H)} {before:List MemPlace} {tb:TypeId}
  (hW:DataW.Whole enc P f.params.toList s.vars apart W args.toList ds gs before) (hb:Below W.heap.size W W') (hl:laidOutB P=true)
  (hrd:(f.params.toList.all fun t=>P.readableRec t&&decide (t<P.types.size))=true) (hs:s.vars=[]) (hrt:f.resultTypes = #[tb]) (hub:P.underlying tb=some .bool) (hv:v = .bool true)
  (hres:(s.fn H (ds++gs)).results=[.lit (.bool true)]) (hargs:(s.fn H (ds++gs)).args=ds) (hvars:(s.fn H (ds++gs)).vars=[]):s.post enc P f apart fresh handsOn again W args v W':=by
 subst hv;have hlt:=hW.lt;have hW':=hW;obtain ⟨p,q,hA,hV,rfl,hz,hn⟩:=hW;rw [hs] at hV;obtain ⟨rfl,rfl⟩:=trodVars_none hV;have hsub:∀x∈p,x∈p++([]:List MemPlace):=fun x hx=>by simpa using hx
 have harg:∀sp:Nat→Bool,(∀x∈p++([]:List MemPlace),sp x.block=true)→DataW.TrodAll enc P W' 0 sp true f.params.toList args.toList (s.fn H (ds++[])).args p:=fun sp hsp=>by
  rw [hargs];exact stays hl hb hrd hA (fun x hx=>hlt x (hsub x hx)) fun x hx=>hsp x (hsub x hx)
 have hvar:∀sp:Nat→Bool,DataW.TrodVars enc P W' sp s.vars (s.fn H (ds++[])).vars []:=fun sp=>by rw [hs,hvars];exact rfl
 have hr:∀(b:Nat) (sp:Nat→Bool) (hd:Bool),DataW.TrodAll enc P W' b sp hd f.resultTypes.toList ((Value.bool true).resultList f.resultTypes.size) (s.fn H (ds++[])).results []:=fun b sp hd=>by
  rw [hres,hrt];exact trodAll_cons_mk (shut_bool hub _) trodAll_mk0
 have hold:∀x∈p++([]:List MemPlace),(fun b=>decide (b<W.heap.size)) x.block=true:=fun x hx=>by simpa using hlt x hx
 refine ⟨ds,[],p++[],[],p,[],hW',hr _ _ _,harg _ hold,hvar _,World.keptBut_mono (fun x hx=>⟨hx, ?_⟩) (hb.frame (·∈p++[])),fun _=>?_⟩
 ·simpa using hx
 ·refine ⟨ok_one hrt rfl (okWide_bool_mk hub _),_,_,([]++p)++[],⟨[]++p,[],trodAll_append (harg _ (fun _ _=>rfl)) (hr _ _ _),hvar _,rfl, ?_, ?_⟩, ?_⟩
  ·intro b off hp;have hp':MemPlace.cell b off∈p++([]:List MemPlace):=by simpa using hp
   rw [hb.frozen (p:=⟨b,off,none⟩) (hlt _ hp')];exact hz b off hp'
  ·intro ha;simpa using hn ha
  ·intro x hx _;simpa using hx
end
end Go.Proofs.YtahgmdbioafmbaaGreatDoor.V
namespace Go.Proofs.YtahgmdbioafmbaaGreatDoor.V
open Go Go.ChangeShapes Go.WideShapes Go.RowKit
set_option linter.unusedVariables false
def lst4:List (String × DataW Unit):=[("math/bits.deBruijn32tab",Rows.laid_math_bits_deBruijn32tab),("math/bits.deBruijn64tab",Rows.laid_math_bits_deBruijn64tab),("internal/strconv.uint64pow10",Rows.laid_internal_strconv_uint64pow10),("scantling/heads.readies",Rows.laid_scantling_heads_readies)]
def lst:List (String × DataW Unit):=[("math/bits.deBruijn32tab",Rows.laid_math_bits_deBruijn32tab),("math/bits.deBruijn64tab",Rows.laid_math_bits_deBruijn64tab),("internal/strconv.uint64pow10",Rows.laid_internal_strconv_uint64pow10),("scantling/heads.readies",Rows.laid_scantling_heads_readies),("scantling/next.steps",Rows.laid_scantling_next_steps)]
theorem zqo {H:Type} {enc:TypeId × Value→H} {P:Program} {w:World} {base:Nat} {sp:Nat→Bool} {held:Bool} {fuel:Nat} {t e:TypeId} {n:Nat} {cs:List Value} {bs:List Bool} {p:List MemPlace}
  (ht:P.underlying t=some (.array n e)) (he:P.underlying e=some .bool) (hce:P.cellsOf e=1) (hct:P.cellsOf t=n)
  (h:DataW.trod enc P w base sp held fuel t cs=some (.agg (bs.map fun b=>.lit (.bool b)),p)):cs=bs.map Value.bool:=by
 obtain ⟨xs,m,rfl,hx,hl,hn,hf⟩:=DataW.trod_array ht h;have hx1:=congrArg Prod.fst hx;simp only [DataW.agg.injEq] at hx1;have hbl:bs.length=n:=by
  have:=congrArg List.length hx1;simp at this;omega
 apply List.ext_getElem?;intro i
 by_cases hi:i<n
 ·have h1:=hf i hi;rw [hce,Nat.mul_one,List.getElem?_eq_getElem (by omega)] at h1;obtain ⟨b,hc,hb⟩:=DataW.trod_bool he h1;have h2:cs[i]?=some (.bool b):=by
   have:=congrArg (·[0]?) hc;simpa [List.getElem?_take,List.getElem?_drop] using this
  have h3:(bs.map fun b=>(DataW.lit (.bool b):DataW H))[i]?=some (.lit (.bool b)):=by
   rw [hx1,List.getElem?_map,List.getElem?_eq_getElem (by omega),hb];rfl
  rw [List.getElem?_map,Option.map_eq_some_iff] at h3;obtain ⟨b',hb',e⟩:=h3;cases e;rw [h2,List.getElem?_map,hb'];rfl
 ·rw [List.getElem?_eq_none (by omega),List.getElem?_eq_none (by simp;omega)]
def nameB1:List UInt8:=[40,115,99,97,110,116,108,105,110,103,47,110,101,120,116,46,115,116,101,112,41,46,110,111,100,101]
def nameB3:List UInt8:=[40,115,99,97,110,116,108,105,110,103,47,110,101,120,116,46,115,116,101,112,41,46,116,101,120,116]
def nameB4:List UInt8:=[40,115,99,97,110,116,108,105,110,103,47,110,101,120,116,46,115,116,101,112,41,46,104,97,108,102]
def stepsD:DataW Unit:=.map [(.int .i64 1,.iface "func" (.lit (.string nameB1))),(.int .i64 3,.iface "func" (.lit (.string nameB3))),(.int .i64 4,.iface "func" (.lit (.string nameB4)))]
def stepsL:List (Lit × DataW (List UInt8)):=[(.int .i64 1,.held nameB1),(.int .i64 3,.held nameB3),(.int .i64 4,.held nameB4)]
theorem key_int {P:Program} {k:TypeId} (hk:P.underlying k=some (.int .i64)) {v:Value} {l:Lit} (h:keyOf P k v=some l):∃n:Int,v = .int .i64 n∧l = .int .i64 n∧InR .i64 n:=by
 rw [keyOf_int hk] at h;unfold mapKey at h;rw [hk] at h;cases v <;> simp at h;obtain ⟨⟨rfl,h2⟩,rfl⟩:=h;exact ⟨_,rfl,rfl,by simpa [Lit.wf,InR] using h2⟩
theorem zsw {P:Program} {t:TypeId} {ps rs:Array TypeId} {va:Bool} {v:Value} (ht:P.underlying t=some (.func ps rs va)) (h:v.formed P t=true):v.cells.toList=[v]:=by
 cases v <;> simp [Value.formed,ht] at h <;> rfl
def entY (e:MapEntry):Int × Option Nat:=match e.key with | .int _ n=>(n,zex gfmS n none) | _=>(0,none)
def entL (q:Lit × DataW (List UInt8)):Int × Option Nat:=match q.1 with | .int _ n=>(n,zex gfmS n none) | _=>(0,none)
def Steps (W:World):Prop:=∃m t fr es clock ys,W.heap[0]?=some (.cells #[.map (some m)] t fr)∧W.heap[m]?=some (.map es clock)∧Fmst es clock ys∧ys.Perm gfmS
theorem zpw {W:World} (h:funcsAt Tryz.prog W "scantling/next.steps" stepsD):Steps W:=by
 obtain ⟨g,t,cs,fuel,p,hg,ht,hv,hd⟩:=h;have hg':Tryz.prog.globalNamed "scantling/next.steps"=some 0:=by kernel_rfl
 have hty:(Tryz.prog.globals[0]?).map (·.type)=some 167:=by kernel_rfl
 obtain rfl:=Option.some.inj (hg'.symm.trans hg);obtain rfl:=Option.some.inj (hty.symm.trans ht);have e:DataW.funcsOut stepsD = .map stepsL:=by kernel_rfl
 rw [e] at hd;have hkt:Tryz.prog.underlying 3=some (.int .i64):=Tryz.underlying3;rcases WideElems.open_map Tryz.underlying167 hd with ⟨_,hx⟩ | ⟨m,es,clock,n,rfl,hcs,hb,_,F,hx⟩
 ·simp at hx
 ·simp only [Prod.mk.injEq,DataW.map.injEq] at hx;have hp:stepsL.Perm (es.toList.map (WideElems.rg Tryz.prog 3 (WideElems.elemAt (funcToken Tryz.prog) Tryz.prog W 0 (fun _=>true) true n 165))):=by
   rw [hx.1];exact sorted_perm _
  have ent:∀x∈es.toList,∃i:Int,x.key = .int .i64 i∧InR .i64 i∧entL (WideElems.rg Tryz.prog 3 (WideElems.elemAt (funcToken Tryz.prog) Tryz.prog W 0 (fun _=>true) true n 165) x)=(i,zex gfmS i none)∧x.val=fidV (zex gfmS i none):=by
   intro x hx';obtain ⟨y,hy⟩:=F.reads x hx';have hrg:=WideElems.rg_of hy;have hm:y∈stepsL:=hp.mem_iff.2 (List.mem_map.2 ⟨x,hx',hrg⟩);obtain ⟨i,hk1,hk2,hk3⟩:=key_int hkt (WideElems.rd_key hy);obtain ⟨z,hz1,hz2⟩:=WideElems.rd_val hy;unfold WideElems.elemAt at hz1;split at hz1
   case isFalse=>cases hz1
   rename_i hf
   rw [zsw Tryz.underlying165 hf] at hz1;refine ⟨i,hk1,hk3,by rw [hrg];simp only [entL,hk2], ?_⟩;unfold stepsL at hm;simp only [List.mem_cons,List.not_mem_nil,or_false] at hm;rcases hm with rfl | rfl | rfl
   ·simp only [Lit.int.injEq,true_and] at hk2;subst hk2;obtain ⟨z1,z2⟩:=z;simp only at hz2;subst hz2;exact func_of_trod (f0:=209) Tryz.underlying165 (by kernel_rfl) hz1
   ·simp only [Lit.int.injEq,true_and] at hk2;subst hk2;obtain ⟨z1,z2⟩:=z;simp only at hz2;subst hz2;exact func_of_trod (f0:=210) Tryz.underlying165 (by kernel_rfl) hz1
   ·simp only [Lit.int.injEq,true_and] at hk2;subst hk2;obtain ⟨z1,z2⟩:=z;simp only at hz2;subst hz2;exact func_of_trod (f0:=207) Tryz.underlying165 (by kernel_rfl) hz1
  obtain ⟨o,ho,hcell⟩:∃t fr,W.heap[0]?=some (.cells #[.map (some m)] t fr):=by
   unfold World.var? at hv;rw [hg'] at hv;simp only [Option.bind_some] at hv;split at hv
   ·rename_i cs' t' fr' hc
    refine ⟨t',fr', ?_⟩;rw [hc];simp only [Option.some.injEq] at hv;rw [hv,← Array.toArray_toList (xs:=cs),hcs]
   ·cases hv
  refine ⟨m,o,ho,es,clock,es.toList.map entY,hcell,hb,⟨F.stamped,by simp,fun i e q h1 h2=>?_⟩, ?_⟩
  ·have hm:=List.mem_of_getElem? h1;obtain ⟨j,hk1,hk3,_,hval⟩:=ent e hm;rw [List.getElem?_map,h1] at h2;simp only [Option.map_some,Option.some.injEq] at h2;subst h2;have hr:=zjv.1 hk3;simp only [entY,hk1];exact ⟨trivial,hr,hval⟩
  ·have h3:=(hp.map entL).symm;have e1:stepsL.map entL=gfmS:=by kernel_rfl
   rw [e1,List.map_map] at h3;refine List.Perm.trans (List.Perm.of_eq (List.map_congr_left fun x hx'=>?_)) h3;obtain ⟨j,hk1,_,hL,_⟩:=ent x hx';simp only [Function.comp,entY,hk1];exact hL.symm
def Tabs (W:World):Prop:=(Lib.TabIs Tryz.prog W "internal/strconv.uint64pow10" .u64 Lib.pow10Tab∧W.var? Tryz.prog "scantling/heads.readies"=some (gdat1.map Value.bool).toArray)∧Steps W
theorem tab_of_laid {W:World} (h:laidMetH Tryz.prog lst W):Tabs W:=by
 have hs:("scantling/next.steps",(DataW.iface "func table" stepsD:DataW Unit))∈lst:=by
  have e:(Rows.laid_scantling_next_steps:DataW Unit)=DataW.iface "func table" stepsD:=by kernel_rfl
  unfold lst;rw [e];simp
 have h3:=zpw (h.funcs hs);have e0:laidMetH Tryz.prog lst W=(laidMet Tryz.prog lst4 W∧handlesMet Tryz.prog [("scantling/next.steps",Rows.laid_scantling_next_steps)] W):=by kernel_rfl
 rw [e0] at h;have h':=h.1;unfold lst4 at h';refine ⟨⟨?_, ?_⟩,h3⟩
 ·have e:(Rows.laid_internal_strconv_uint64pow10:DataW Unit)=Lib.tabData .u64 Lib.pow10Tab:=by kernel_rfl
  have h2:=h'.tail.tail;rw [e] at h2;exact Lib.tabIs_of_head (g:=2) (t:=227) (e:=49) (n:=20) (by kernel_rfl) (by kernel_rfl) Tryz.underlying227 Tryz.underlying49 (by kernel_rfl) (by kernel_rfl) h2
 ·have e:(Rows.laid_scantling_heads_readies:DataW Unit) = .agg (gdat1.map fun b=>.lit (.bool b)):=by kernel_rfl
  have h2:=h'.tail.tail.tail;rw [e] at h2;obtain ⟨ps,⟨g',t',cs,fuel,p,q,hg',ht',hvar,hd,_,_⟩,_⟩:=h2;have hg:Tryz.prog.globalNamed "scantling/heads.readies"=some 1:=by kernel_rfl
  have hty:(Tryz.prog.globals[1]?).map (·.type)=some 213:=by kernel_rfl
  obtain rfl:=Option.some.inj (hg.symm.trans hg');obtain rfl:=Option.some.inj (hty.symm.trans ht');rw [hvar,← zqo Tryz.underlying213 (e:=4) Tryz.underlying4 (by kernel_rfl) (by kernel_rfl) hd]
theorem gl_of_tab {W:World} (h:Tabs W):Gl ⟨W,fun _=>False,fun _ h=>h.elim⟩:=by
 obtain ⟨⟨h1,h2⟩,h3⟩:=h;refine ⟨fun p hp=>?_,fun p hp=>?_⟩
 ·unfold gtab at hp;rcases List.mem_cons.1 hp with rfl | hp
  ·refine ⟨fun h=>h, ?_⟩;unfold Lib.TabIs World.var? at h1;have hg:Tryz.prog.globalNamed "internal/strconv.uint64pow10"=some 2:=by kernel_rfl
   rw [hg] at h1;simp only [Option.bind_some] at h1;split at h1
   ·rename_i cs t fr hc
    refine ⟨t,fr, ?_⟩;show W.heap[2]?=_;rw [hc];simp only [Option.some.injEq] at h1;rw [h1];simp [Lib.pow10Tab]
   ·cases h1
  ·obtain rfl:=List.mem_singleton.1 hp;refine ⟨fun h=>h, ?_⟩;unfold World.var? at h2;have hg:Tryz.prog.globalNamed "scantling/heads.readies"=some 1:=by kernel_rfl
   rw [hg] at h2;simp only [Option.bind_some] at h2;split at h2
   ·rename_i cs t fr hc
    refine ⟨t,fr, ?_⟩;show W.heap[1]?=_;rw [hc];simp only [Option.some.injEq] at h2;rw [h2]
   ·cases h2
 ·unfold gmap at hp;obtain rfl:=List.mem_singleton.1 hp;obtain ⟨m,t,fr,es,clock,ys,k1,k2,k3,k4⟩:=h3;exact ⟨fun h=>h,m,t,fr,es,clock,ys,k1,fun h=>h,k2,k3,k4⟩
noncomputable def laidWorld (os:Os):World:=World.doorLaid Tryz.prog 400 os
theorem laid_met (os:Os) (args:Array Value):laidMetH Tryz.prog lst ((laidWorld os).forCall (fun _ _=>0) ⟨#[],args,[]⟩).memory:=
 laidMetH_of_parts3 (fuel:=8) (laidMet_of_run' 8 (by kernel_rfl) (by kernel_rfl)) (by kernel_rfl) (by kernel_rfl)
theorem weigh {H:Type} {P:Program} {ts:List TypeId} {ds:List (DataW H)} (h:(DataW.weightsEach P ts ds).all (·≤reachBytes)=true) (j:Nat) {t:TypeId} {d:DataW H} (ht:ts[j]?=some t) (hd:ds[j]?=some d):∀n∈d.weights P t,n≤reachBytes:=fun n hn=>by
 have:=List.all_eq_true.1 h n (DataW.weights_mem_each ht hd n hn);simpa using this
end Go.Proofs.YtahgmdbioafmbaaGreatDoor.V
