/-
  The texts that the law's proof needs, part 5.
-/
import Derived.Carry
import Derived.ChangeSame
import Derived.Deep.Slices
import Derived.Handed
import Derived.KernelRfl
import Derived.LaidHandle
import Derived.LaidLaws
import Derived.LaidMore
import Derived.Lib.LaidTab
import Derived.Lib.SlBytesConst
import Derived.OpenShut
import Derived.ProofKit
import Derived.RowKit
import Derived.SizedLaws
import Derived.Stop.LaidErr
import Derived.Test.YtbojklnokglbhaaGreatDoorRows
import Derived.WalkKit
import Derived.WideKeyElems2
import Derived.Test.YtbojklnokglbhaaGreatDoorEquivTurnedP4

namespace Go.Proofs.YtbojklnokglbhaaGreatDoor.V
open Go
set_option linter.unusedVariables false
theorem at_app1 {A S B:List Cl} {c:Nat} (h1:A.length≤c) (h2:c<A.length+S.length):at? (A++S++B) (c:Int)=some (S[c-A.length]'(by omega)):=by
 rw [zbv,List.append_assoc,List.getElem?_append_right h1,List.getElem?_append_left (by omega),List.getElem?_eq_getElem (by omega)]
theorem zor {key:Cl→Int} {S:List Cl} (h:Srt key S) {i j:Nat} (hij:i≤j) (hj:j<S.length):key (S[i]'(by omega))≤key S[j]:=by
 rcases Nat.lt_or_ge i j with hlt | hge
 ·exact List.pairwise_iff_getElem.1 h i j (by omega) hj hlt
 ·have:i=j:=by omega
  subst this;exact Int.le_refl _
theorem sm_l1 {A B:List Cl} {x:Cl} {i:Int} {X:List Cl→Prop}:∀(Y2 Y1:List Cl),i=((A.length+Y1.length+Y2.length:Nat):Int)+1→(A++Y1++x::Y2++B).length<4611686018427387904→X (A++(Y1++Y2)++x::B) →
  ∃k,za.l1 i X k (A++Y1++x::Y2++B) ((A.length+Y1.length:Nat):Int)
 | [],Y1,hi,hl,hX=>by
  have hl':A.length+Y1.length<4611686018427387904:=by simp at hl;omega
  exact ⟨1,zi (by simp at hi;omega) (by simp at hi;omega),fun h=>absurd (dt0 h) (by simp at hi;omega),fun _=>by simpa using hX⟩
 | y::Y2,Y1,hi,hl,hX=>by
  have hl':A.length+Y1.length+Y2.length+1<4611686018427387904:=by simp at hl;omega
  have hi':=hi;simp at hi';obtain ⟨k,hk⟩:=sm_l1 (A:=A) (B:=B) (x:=x) (i:=i) (X:=X) Y2 (Y1++[y]) (by rw [hi];simp;omega) (by simp at hl ⊢;omega) (by simpa using hX);have e1:A++Y1++x::(y::Y2)++B=(A++Y1)++x::(y::Y2++B):=by simp
  have e2:A++Y1++x::(y::Y2)++B=(A++Y1++[x])++y::(Y2++B):=by simp
  have p1:((A.length+Y1.length:Nat):Int)=((A++Y1).length:Int):=by simp
  have p2:((A.length+Y1.length:Nat):Int)+1=((A++Y1++[x]).length:Int):=by simp;omega
  have a1:at? (A++Y1++x::(y::Y2)++B) ((A.length+Y1.length:Nat):Int)=some x:=by rw [e1];exact zh3 p1
  have a2:at? (A++Y1++x::(y::Y2)++B) (((A.length+Y1.length:Nat):Int)+1)=some y:=by rw [e2];exact zh3 p2
  have s1:(A++Y1++x::(y::Y2)++B).set ((A.length+Y1.length:Nat):Int).toNat y=(A++Y1++[y])++y::(Y2++B):=by rw [e1,zhm p1];simp
  have p2':((A.length+Y1.length:Nat):Int)+1=((A++Y1++[y]).length:Int):=by simp;omega
  refine ⟨k+1,zi (by omega) (by omega),fun _=>⟨zi (by omega) (by omega),zi (by omega) (by omega),y,a2,x,a1,x,a1,y, ?_,zi (by omega) (by omega), ?_⟩,fun h=>absurd (by omega) (df0 h)⟩
  ·rw [s1];exact zh3 p2'
  ·rw [s1,zhm p2'];have p3:((A.length+(Y1++[y]).length:Nat):Int)=((A.length+Y1.length:Nat):Int)+1:=by simp;omega
   rw [p3] at hk;simpa using hk
theorem sm_l3 {A B:List Cl} {x:Cl} {i:Int} {X:List Cl→Prop}:∀(m:Nat) (Y1 Y2:List Cl),Y1.length=m→i=(A.length:Int)→(A++Y1++x::Y2++B).length<4611686018427387904→X (A++x::(Y1++Y2)++B) →
  ∃k,za.l3 i X k (A++Y1++x::Y2++B) ((A.length+Y1.length:Nat):Int):=by
 intro m
 induction m with
 | zero=>
  intro Y1 Y2 hm hi hl hX;have:=List.eq_nil_of_length_eq_zero hm;subst this;exact ⟨1,fun h=>absurd (dt0 h) (by rw [hi];simp),fun _=>by simpa using hX⟩
 | succ m ih=>
  intro Y1 Y2 hm hi hl hX;obtain ⟨Y1,y,rfl⟩:=snoc_of (l:=Y1) (by rintro rfl;simp at hm);have hl':A.length+Y1.length+Y2.length+1<4611686018427387904:=by simp at hl;omega
  obtain ⟨k,hk⟩:=ih Y1 (y::Y2) (by simpa using hm) hi (by simp at hl ⊢;omega) (by simpa using hX);have e1:A++(Y1++[y])++x::Y2++B=(A++Y1)++y::(x::Y2++B):=by simp
  have e2:A++(Y1++[y])++x::Y2++B=(A++Y1++[y])++x::(Y2++B):=by simp
  have p2:((A.length+(Y1++[y]).length:Nat):Int)=((A++Y1++[y]).length:Int):=by simp
  have p1:((A.length+(Y1++[y]).length:Nat):Int)-1=((A++Y1).length:Int):=by simp;omega
  have a2:at? (A++(Y1++[y])++x::Y2++B) ((A.length+(Y1++[y]).length:Nat):Int)=some x:=by rw [e2];exact zh3 p2
  have a1:at? (A++(Y1++[y])++x::Y2++B) (((A.length+(Y1++[y]).length:Nat):Int)-1)=some y:=by rw [e1];exact zh3 p1
  have s1:(A++(Y1++[y])++x::Y2++B).set ((A.length+(Y1++[y]).length:Nat):Int).toNat y=(A++Y1)++y::(y::Y2++B):=by rw [e2,zhm p2];simp
  refine ⟨k+1,fun _=>⟨zi (by simp;omega) (by simp;omega),zi (by simp;omega) (by simp;omega),y,a1,x,a2,x,a2,y, ?_,zi (by simp;omega) (by simp;omega), ?_⟩,fun h=>absurd (by rw [hi];simp;omega) (df0 h)⟩
  ·rw [s1];exact zh3 p1
  ·rw [s1,zhm p1,p1,show (((A++Y1).length:Nat):Int)=((A.length+Y1.length:Nat):Int) by simp];simpa using hk
theorem at_gd {A S B:List Cl} {c:Nat} (h1:A.length≤c) (h2:c<A.length+S.length):at? (A++S++B) (c:Int)=some (S.getD (c-A.length) 0#256):=by
 rw [at_app1 h1 h2,List.getD,List.getElem?_eq_getElem (by omega)];rfl
theorem gd_le {key:Cl→Int} {S:List Cl} (h:Srt key S) {i j:Nat} (hij:i≤j) (hj:j<S.length):key (S.getD i 0#256)≤key (S.getD j 0#256):=by
 have:=zor h hij hj;rw [List.getD,List.getD,List.getElem?_eq_getElem (by omega),List.getElem?_eq_getElem hj];exact this
theorem getD_l {X Y:List Cl} {q:Nat} (h:q<X.length):(X++Y).getD q 0#256=X[q]:=by
 rw [List.getD,List.getElem?_append_left h,List.getElem?_eq_getElem h];rfl
theorem getD_r {X Y:List Cl} {q:Nat} (h:q<Y.length):(X++Y).getD (X.length+q) 0#256=Y[q]:=by
 rw [List.getD,List.getElem?_append_right (by omega),Nat.add_sub_cancel_left,List.getElem?_eq_getElem h];rfl
theorem sym_j7 {key:Cl→Int} {cmp:Cl × Cl × Int→Prop} {f:Nat} {A S1 S2 T1 T2 B:List Cl}
  (ih:∀(A S T B:List Cl),S.length+T.length≤f→S≠[]→T≠[]→Srt key S→Srt key T→(A++S++T++B).length<4611686018427387904 →
   za.n f (A++S++T++B) (A.length:Int) ((A.length+S.length:Nat):Int) ((A.length+S.length+T.length:Nat):Int) cmp (A++srt key (S++T)++B))
  (hS:Srt key (S1++S2)) (hT:Srt key (T1++T2)) (hlen:(A++(S1++S2)++(T1++T2)++B).length<4611686018427387904) (h1:∀t∈T1,∀s∈S2,key t<key s) (h2:∀s∈S1,∀t∈T2,key s≤key t)
  {st mid m b:Int} (hst:st=((A.length+S1.length:Nat):Int)) (hmid:mid=((A.length+S1.length+T1.length:Nat):Int)) (hm:m=((A.length+S1.length+S2.length:Nat):Int)) (hb:b=((A.length+S1.length+S2.length+T1.length+T2.length:Nat):Int))
  (hf1:S1.length+T1.length≤f) (hf2:S2.length+T2.length≤f):
  za.j7 (za.n f) (A++(S1++S2)++(T1++T2)++B) (A.length:Int) m b cmp (A++srt key ((S1++S2)++(T1++T2))++B) mid st:=by
 have hl:A.length+S1.length+S2.length+T1.length+T2.length+B.length<4611686018427387904:=by simp at hlen;omega
 obtain ⟨hS1,hS2,hSS⟩:=Srt.app.1 hS;obtain ⟨hT1,hT2,hTT⟩:=Srt.app.1 hT;have hres:srt key ((S1++S2)++(T1++T2))=srt key (S1++T1)++srt key (S2++T2):=by
  refine (zh0 (Srt.app.2 ⟨zh8 _ _,zh8 _ _,fun x hx y hy=>?_⟩) ?_).symm
  ·have hx':=(zga key (S1++T1)).perm.mem_iff.2 hx;have hy':=(zga key (S2++T2)).perm.mem_iff.2 hy;rcases List.mem_append.1 hx' with hx1 | hx1 <;> rcases List.mem_append.1 hy' with hy1 | hy1
   ·exact hSS x hx1 y hy1
   ·exact h2 x hx1 y hy1
   ·exact Int.le_of_lt (h1 x hx1 y hy1)
   ·exact hTT x hx1 y hy1
  ·have e1:SEq key (S2++T1) (T1++S2):=ziz fun x hx y hy=>by have:=h1 y hy x hx;omega
   have e2:=(SEq.refl key S1).app (e1.app (SEq.refl key T2));have e3:=(zga key (S1++T1)).app (zga key (S2++T2));exact SEq.trans (by simpa using e2) (by simpa using e3)
 rw [hres];have hj5:za.j5 (za.n f) m b cmp (A++(srt key (S1++T1)++srt key (S2++T2))++B) mid st (A++srt key (S1++T1)++S2++T2++B):=by
  refine ⟨_,rfl,fun h=>?_,fun h=>?_⟩
  ·simp only [Bool.and_eq_true,decide_eq_true_eq] at h;have hS2n:S2≠[]:=by rintro rfl;simp at hm;omega
   have hT2n:T2≠[]:=by rintro rfl;simp at hb;omega
   have:=ih (A++srt key (S1++T1)) S2 T2 B hf2 hS2n hT2n hS2 hT2 (by simp [zgv];omega);refine ⟨_, ?_,rfl⟩;have e1:(((A++srt key (S1++T1)).length:Nat):Int)=mid:=by rw [hmid];simp [zgv];omega
   have e2:(((A++srt key (S1++T1)).length+S2.length:Nat):Int)=mid+m-st:=by rw [hmid,hm,hst];simp [zgv];omega
   have e3:(((A++srt key (S1++T1)).length+S2.length+T2.length:Nat):Int)=b:=by rw [hb];simp [zgv];omega
   rw [e1,e2,e3] at this;simpa using this
  ·have:S2=[]∨T2=[]:=by
    simp only [Bool.and_eq_false_iff,decide_eq_false_iff_not] at h;rcases h with h | h
    ·left;exact List.eq_nil_of_length_eq_zero (by omega)
    ·right;exact List.eq_nil_of_length_eq_zero (by omega)
   have e:srt key (S2++T2)=S2++T2:=by
    rcases this with rfl | rfl
    ·exact (zh0 (by simpa using hT2) (SEq.refl _ _)).symm
    ·exact (zh0 (by simpa using hS2) (SEq.refl _ _)).symm
   rw [e];simp
 have hj6:za.j6 (za.n f) (A.length:Int) m b cmp (A++(srt key (S1++T1)++srt key (S2++T2))++B) mid st (A++S1++T1++S2++T2++B):=by
  refine ⟨_,rfl,fun h=>?_,fun h=>?_⟩
  ·simp only [Bool.and_eq_true,decide_eq_true_eq] at h;have hS1n:S1≠[]:=by rintro rfl;simp at hst;omega
   have hT1n:T1≠[]:=by rintro rfl;simp at hmid;omega
   have:=ih A S1 T1 (S2++T2++B) hf1 hS1n hT1n hS1 hT1 (by simp;omega);refine ⟨A++srt key (S1++T1)++S2++T2++B, ?_,hj5⟩;rw [← hst,← hmid] at this;simpa using this
  ·have:S1=[]∨T1=[]:=by
    simp only [Bool.and_eq_false_iff,decide_eq_false_iff_not] at h;rcases h with h | h
    ·left;exact List.eq_nil_of_length_eq_zero (by omega)
    ·right;exact List.eq_nil_of_length_eq_zero (by omega)
   have e:srt key (S1++T1)=S1++T1:=by
    rcases this with rfl | rfl
    ·exact (zh0 (by simpa using hT1) (SEq.refl _ _)).symm
    ·exact (zh0 (by simpa using hS1) (SEq.refl _ _)).symm
   rw [e] at hj5 ⊢;simpa using hj5
 refine ⟨zi (by omega) (by omega),_,rfl,fun h=>?_,fun h=>?_⟩
 ·simp only [Bool.and_eq_true,decide_eq_true_eq] at h;have hS2n:S2≠[]:=by rintro rfl;simp at hm;omega
  have hT1n:T1≠[]:=by rintro rfl;simp at hmid;omega
  have:=rot_in (cmp:=cmp) (A:=A++S1) (X:=S2) (Y:=T1) (B:=T2++B) (a:=st) (m:=m) (b:=mid+m-st) (by rw [hst];simp) (by rw [hm];simp) (by rw [hmid,hm,hst];simp;omega) hS2n hT1n (by simp;omega);refine ⟨A++S1++T1++S2++T2++B, ?_,hj6⟩;simpa using this
 ·have:S2=[]∨T1=[]:=by
   simp only [Bool.and_eq_false_iff,decide_eq_false_iff_not] at h;rcases h with h | h
   ·left;exact List.eq_nil_of_length_eq_zero (by omega)
   ·right;exact List.eq_nil_of_length_eq_zero (by omega)
  have e:A++(S1++S2)++(T1++T2)++B=A++S1++T1++S2++T2++B:=by
   rcases this with rfl | rfl <;> simp
  rw [e];exact hj6
theorem sym_n {key:Cl→Int} {cmp:Cl × Cl × Int→Prop} (hc:zq9 key cmp):∀(f:Nat) (A S T B:List Cl),S.length+T.length≤f→S≠[]→T≠[]→Srt key S→Srt key T→(A++S++T++B).length<4611686018427387904 →
  za.n f (A++S++T++B) (A.length:Int) ((A.length+S.length:Nat):Int) ((A.length+S.length+T.length:Nat):Int) cmp (A++srt key (S++T)++B):=by
 intro f
 induction f with
 | zero=>intro A S T B hf hS;exact absurd (List.eq_nil_of_length_eq_zero (by omega)) hS
 | succ f ih=>
  intro A S T B hf hSn hTn hS hT hlen;have hl:A.length+S.length+T.length+B.length<4611686018427387904:=by simp at hlen;omega
  have hs0:0<S.length:=List.length_pos_iff.2 hSn;have ht0:0<T.length:=List.length_pos_iff.2 hTn;have atS:∀c:Nat,A.length≤c→c<A.length+S.length→at? (A++S++T++B) (c:Int)=some (S.getD (c-A.length) 0#256):=fun c h1 h2=>by
   rw [show A++S++T++B=A++S++(T++B) by simp];exact at_gd h1 h2
  have atT:∀c:Nat,A.length+S.length≤c→c<A.length+S.length+T.length→at? (A++S++T++B) (c:Int)=some (T.getD (c-(A.length+S.length)) 0#256):=fun c h1 h2=>by
   have:=at_gd (A:=A++S) (S:=T) (B:=B) (c:=c) (by simp;omega) (by simp;omega);simpa using this
  refine ⟨zi (by omega) (by omega),fun h1=>?_,fun h1=>⟨zi (by omega) (by omega),fun h2=>?_,fun h2=>⟨zi (by omega) (by omega), ?_⟩⟩⟩
  ·-- one thing ahead
   have hs1:S.length=1:=by simp at h1;omega
   obtain ⟨x,rfl⟩:=List.length_eq_one_iff.1 hs1;refine bsearch (P:=fun k i j=>za.l2 (A++[x]++T++B) (A.length:Int) cmp _ k i j) (fun c=>decide (key (T.getD (c-(A.length+1)) 0#256)<key x)) (A.length+1) (A.length+1+T.length) (fun c d h1 h2 h3 h4=>?_) (fun k i j h1 h2 h3=>?_) (fun k i h1 h2 h3 h4=>?_) (by omega)
   ·have:=gd_le hT (i:=c-(A.length+1)) (j:=d-(A.length+1)) (by omega) (by omega);simp only [decide_eq_true_eq] at h4 ⊢;omega
   ·have hat:=atT ((i+j) / 2) (by simp;omega) (by simp;omega);have hax:=atS A.length (Nat.le_refl _) (by simp);have hh:∀(p:Prop),(((decide ((i:Int)<(j:Int)))=true→InR .i64 ((i:Int)+j)∧∃i42:Int,i42=(IntKind.wrap .i64 (zou (IntKind.wrap .u64 ((i:Int)+j)) 1))∧∃e45:Cl,at? (A++[x]++T++B) i42=some e45∧∃e47:Cl,at? (A++[x]++T++B) (A.length:Int)=some e47∧∃r49:Int,cmp (e45,e47,r49)∧p)→True):=fun _ _=>trivial;constructor
    ·intro hp hk;refine ⟨fun _=>⟨zi (by omega) (by omega),_,rfl,T.getD ((i+j) / 2-(A.length+1)) 0#256, ?_,x,by simpa using hax,_,hc _ _,fun _=>⟨?_, ?_⟩,fun h=>?_⟩,fun h=>absurd (by omega) (df0 h)⟩
     ·rw [zfx (by omega) (by omega),show ((i:Int)+j) / 2=(((i+j) / 2:Nat):Int) by omega];simpa using hat
     ·rw [zfx (by omega) (by omega)];exact zi (by omega) (by omega)
     ·rw [zfx (by omega) (by omega),show ((i:Int)+j) / 2+1=(((i+j) / 2+1:Nat):Int) by omega];exact hk
     ·exfalso;simp at h hp;omega
    ·intro hp hk;refine ⟨fun _=>⟨zi (by omega) (by omega),_,rfl,T.getD ((i+j) / 2-(A.length+1)) 0#256, ?_,x,by simpa using hax,_,hc _ _,fun h=>?_,fun _=>?_⟩,fun h=>absurd (by omega) (df0 h)⟩
     ·rw [zfx (by omega) (by omega),show ((i:Int)+j) / 2=(((i+j) / 2:Nat):Int) by omega];simpa using hat
     ·exfalso;simp at h hp;omega
     ·rw [zfx (by omega) (by omega),show ((i:Int)+j) / 2=(((i+j) / 2:Nat):Int) by omega];exact hk
   ·refine ⟨fun h=>absurd (dt0 h) (by omega),fun _=>?_⟩;obtain ⟨T1,T2,rfl,hT1⟩:=zff T (show i-(A.length+1)≤T.length by omega);have hlt:∀y∈T1,key y<key x:=fun y hy=>by
     obtain ⟨q,hq,rfl⟩:=List.mem_iff_getElem.1 hy;have:=h3 (A.length+1+q) (by omega) (by omega);rw [show A.length+1+q-(A.length+1)=q by omega,getD_l hq] at this;exact of_decide_eq_true this
    have hge:∀y∈T2,key x≤key y:=fun y hy=>by
     obtain ⟨q,hq,rfl⟩:=List.mem_iff_getElem.1 hy;have:=h4 (A.length+1+T1.length+q) (by omega) (by simp;omega);rw [show A.length+1+T1.length+q-(A.length+1)=T1.length+q by omega,getD_r hq] at this;have:=of_decide_eq_false this;omega
    have hres:srt key ([x]++(T1++T2))=T1++x::T2:=by
     refine (zh0 (Srt.app.2 ⟨(Srt.app.1 hT).1,Srt.cons.2 ⟨hge,(Srt.app.1 hT).2.1⟩,fun p hp q hq=>?_⟩) ?_).symm
     ·rcases List.mem_cons.1 hq with rfl | hq
      ·exact Int.le_of_lt (hlt p hp)
      ·exact (Srt.app.1 hT).2.2 p hp q hq
     ·have e1:SEq key ([x]++T1) (T1++[x]):=ziz fun a ha b hb=>by simp at ha;subst ha;have:=hlt b hb;omega
      simpa using e1.app (SEq.refl key T2)
    rw [hres];have:=sm_l1 (A:=A) (B:=T2++B) (x:=x) (i:=(i:Int)) (X:=za.j1 (A++(T1++x::T2)++B)) T1 [] (by simp;omega) (by simp at hl ⊢;omega) (by simp [za.j1]);show ∃k15,za.l1 (i:Int) _ k15 _ _;simpa using this
  ·-- one thing behind
   have ht1:T.length=1:=by simp at h2;omega
   obtain ⟨y,rfl⟩:=List.length_eq_one_iff.1 ht1;refine bsearch (P:=fun k i j=>za.l4 (A++S++[y]++B) ((A.length+S.length:Nat):Int) cmp _ k i j) (fun c=>!decide (key y<key (S.getD (c-A.length) 0#256))) A.length (A.length+S.length) (fun c d h1 h2 h3 h4=>?_) (fun k i j h1 h2 h3=>?_) (fun k i h1 h2 h3 h4=>?_) (by omega)
   ·have:=gd_le hS (i:=c-A.length) (j:=d-A.length) (by omega) (by omega);simp only [Bool.not_eq_true',decide_eq_false_iff_not] at h4 ⊢;omega
   ·have hat:=atS ((i+j) / 2) (by omega) (by omega);have hay:=atT (A.length+S.length) (Nat.le_refl _) (by simp);constructor
    ·intro hp hk;refine ⟨fun _=>⟨zi (by omega) (by omega),_,rfl,y,by simpa using hay,S.getD ((i+j) / 2-A.length) 0#256, ?_,_,hc _ _,fun _=>⟨?_, ?_⟩,fun h=>?_⟩,fun h=>absurd (by omega) (df0 h)⟩
     ·rw [zfx (by omega) (by omega),show ((i:Int)+j) / 2=(((i+j) / 2:Nat):Int) by omega];exact hat
     ·rw [zfx (by omega) (by omega)];exact zi (by omega) (by omega)
     ·rw [zfx (by omega) (by omega),show ((i:Int)+j) / 2+1=(((i+j) / 2+1:Nat):Int) by omega];exact hk
     ·exfalso;simp only [Bool.not_eq_true',Bool.not_eq_false',decide_eq_true_eq,decide_eq_false_iff_not] at h hp;omega
    ·intro hp hk;refine ⟨fun _=>⟨zi (by omega) (by omega),_,rfl,y,by simpa using hay,S.getD ((i+j) / 2-A.length) 0#256, ?_,_,hc _ _,fun h=>?_,fun _=>?_⟩,fun h=>absurd (by omega) (df0 h)⟩
     ·rw [zfx (by omega) (by omega),show ((i:Int)+j) / 2=(((i+j) / 2:Nat):Int) by omega];exact hat
     ·exfalso;simp only [Bool.not_eq_true',Bool.not_eq_false',decide_eq_true_eq,decide_eq_false_iff_not] at h hp;omega
     ·rw [zfx (by omega) (by omega),show ((i:Int)+j) / 2=(((i+j) / 2:Nat):Int) by omega];exact hk
   ·refine ⟨fun h=>absurd (dt0 h) (by omega),fun _=>?_⟩;obtain ⟨S1,S2,rfl,hS1⟩:=zff S (show i-A.length≤S.length by omega);have hle:∀x∈S1,key x≤key y:=fun x hx=>by
     obtain ⟨q,hq,rfl⟩:=List.mem_iff_getElem.1 hx;have:=h3 (A.length+q) (by omega) (by omega);rw [show A.length+q-A.length=q by omega,getD_l hq] at this;simp only [Bool.not_eq_true',decide_eq_false_iff_not] at this;omega
    have hgt:∀x∈S2,key y<key x:=fun x hx=>by
     obtain ⟨q,hq,rfl⟩:=List.mem_iff_getElem.1 hx;have:=h4 (A.length+S1.length+q) (by omega) (by simp;omega);rw [show A.length+S1.length+q-A.length=S1.length+q by omega,getD_r hq] at this;simpa using this
    have hres:srt key ((S1++S2)++[y])=S1++y::S2:=by
     refine (zh0 (Srt.app.2 ⟨(Srt.app.1 hS).1,Srt.cons.2 ⟨fun q hq=>Int.le_of_lt (hgt q hq),(Srt.app.1 hS).2.1⟩,fun p hp q hq=>?_⟩) ?_).symm
     ·rcases List.mem_cons.1 hq with rfl | hq
      ·exact hle p hp
      ·exact (Srt.app.1 hS).2.2 p hp q hq
     ·have e1:SEq key (S2++[y]) ([y]++S2):=ziz fun a ha b hb=>by simp at hb;subst hb;have:=hgt a ha;omega
      simpa using (SEq.refl key S1).app e1
    rw [hres];have:=sm_l3 (A:=A++S1) (B:=B) (x:=y) (i:=(i:Int)) (X:=za.j3 (A++(S1++y::S2)++B)) S2.length S2 [] rfl (by simp;omega) (by simp at hl ⊢;omega) (by simp [za.j3]);show ∃k66,za.l3 (i:Int) _ k66 _ _;have e:(((A++S1).length+S2.length:Nat):Int)=((A.length+(S1++S2).length:Nat):Int):=by simp;omega
    rw [e] at this;simpa using this
  ·-- both longer
   have hs2:2≤S.length:=by simp at h1;omega
   have ht2:2≤T.length:=by simp at h2;omega
   obtain ⟨mid,hmid⟩:∃mid:Nat,mid=(A.length+(A.length+S.length+T.length)) / 2:=⟨_,rfl⟩;have hmidI:IntKind.wrap .i64 (zou (IntKind.wrap .u64 ((A.length:Int)+((A.length+S.length+T.length:Nat):Int))) 1)=(mid:Int):=by
    rw [zfx (by omega) (by omega)];omega
   refine ⟨_,rfl, ?_⟩;rw [hmidI];have main:∀(lo hi:Nat),(lo=A.length∨lo+(A.length+S.length+T.length)=mid+(A.length+S.length))→A.length≤lo→mid+(A.length+S.length)≤lo+(A.length+S.length+T.length)→(hi=mid∨hi=A.length+S.length)→hi≤mid→hi≤A.length+S.length→lo≤hi →
     za.j8 (za.n f) (A++S++T++B) (A.length:Int) ((A.length+S.length:Nat):Int) ((A.length+S.length+T.length:Nat):Int) cmp (A++srt key (S++T)++B) (mid:Int) (lo:Int) (hi:Int):=by
    intro lo hi hlo hla hlb hhi hhm hhs hle;refine ⟨zi (by omega) (by omega), ?_⟩;refine bsearch (P:=fun k i j=>za.l5 (A++S++T++B) ((A.length+S.length:Nat):Int) cmp (mid:Int) _ k i j) (fun c=>!decide (key (T.getD (mid-1-c) 0#256)<key (S.getD (c-A.length) 0#256))) lo hi (fun c d h1 h2 h3 h4=>?_) (fun k i j h1 h2 h3=>?_) (fun k st h1 h2 h3 h4=>?_) hle
    ·have e1:=gd_le hS (i:=c-A.length) (j:=d-A.length) (by omega) (by omega);have e2:=gd_le hT (i:=mid-1-d) (j:=mid-1-c) (by omega) (by omega);simp only [Bool.not_eq_true',decide_eq_false_iff_not] at h4 ⊢;omega
    ·have hat:=atS ((i+j) / 2) (by omega) (by omega);have hay:=atT (mid+(A.length+S.length)-1-(i+j) / 2) (by omega) (by omega);rw [show mid+(A.length+S.length)-1-(i+j) / 2-(A.length+S.length)=mid-1-(i+j) / 2 by omega] at hay;have hpc:(mid:Int)+((A.length+S.length:Nat):Int)-1-(((i+j) / 2:Nat):Int)=((mid+(A.length+S.length)-1-(i+j) / 2:Nat):Int):=by omega
     have hh:IntKind.wrap .i64 (zou (IntKind.wrap .u64 ((i:Int)+(j:Int))) 1)=(((i+j) / 2:Nat):Int):=by rw [zfx (by omega) (by omega)];omega
     constructor
     ·intro hp hk;refine ⟨fun _=>⟨zi (by omega) (by omega),_,rfl, ?_⟩,fun h=>absurd (by omega) (df0 h)⟩;rw [hh,hpc];refine ⟨zi (by omega) (by omega),_,hay,_,hat,_,hc _ _,fun _=>⟨zi (by omega) (by omega),by simpa using hk⟩,fun h=>?_⟩;exfalso;simp only [Bool.not_eq_true',Bool.not_eq_false',decide_eq_true_eq,decide_eq_false_iff_not] at h hp;omega
     ·intro hp hk;refine ⟨fun _=>⟨zi (by omega) (by omega),_,rfl, ?_⟩,fun h=>absurd (by omega) (df0 h)⟩;rw [hh,hpc];refine ⟨zi (by omega) (by omega),_,hay,_,hat,_,hc _ _,fun h=>?_,fun _=>hk⟩;exfalso;simp only [Bool.not_eq_true',Bool.not_eq_false',decide_eq_true_eq,decide_eq_false_iff_not] at h hp;omega
    ·refine ⟨fun h=>absurd (dt0 h) (by omega),fun _=>?_⟩;obtain ⟨S1,S2,rfl,hS1⟩:=zff S (show st-A.length≤S.length by omega);obtain ⟨T1,T2,rfl,hT1⟩:=zff T (show mid-st≤T.length by omega);simp only [List.length_append] at hmid hs2 ht2 hlo hla hlb hhi hhm hhs hf hl hS1 hT1 ⊢;refine sym_j7 (key:=key) ih hS hT hlen (fun t ht s hs=>?_) (fun s hs t ht=>?_) (by omega) (by omega) (by omega) (by omega) (by omega) (by omega)
     ·-- what stands ahead of the middle behind is less
      have hs2:0<S2.length:=List.length_pos_iff.2 (List.ne_nil_of_mem hs);have ht1:0<T1.length:=List.length_pos_iff.2 (List.ne_nil_of_mem ht);obtain ⟨q,hq,rfl⟩:=List.mem_iff_getElem.1 ht;obtain ⟨r,hr,rfl⟩:=List.mem_iff_getElem.1 hs;have hp:=h4 st (Nat.le_refl _) (by omega);rw [show mid-1-st=T1.length-1 by omega,show st-A.length=S1.length+0 by omega,getD_l (by omega),getD_r hs2] at hp;have e1:=zor (Srt.app.1 hT).1 (i:=q) (j:=T1.length-1) (by omega) (by omega);have e2:=zor (Srt.app.1 hS).2.1 (i:=0) (j:=r) (by omega) hr;simp only [Bool.not_eq_false',decide_eq_true_eq] at hp;omega
     ·have hs1:0<S1.length:=List.length_pos_iff.2 (List.ne_nil_of_mem hs);have ht2:0<T2.length:=List.length_pos_iff.2 (List.ne_nil_of_mem ht);obtain ⟨q,hq,rfl⟩:=List.mem_iff_getElem.1 ht;obtain ⟨r,hr,rfl⟩:=List.mem_iff_getElem.1 hs;have hp:=h3 (st-1) (by omega) (by omega);rw [show mid-1-(st-1)=T1.length+0 by omega,show st-1-A.length=S1.length-1 by omega,getD_r ht2,getD_l (X:=S1) (q:=S1.length-1) (by omega)] at hp;have e1:=zor (Srt.app.1 hT).2.1 (i:=0) (j:=q) (by omega) hq;have e2:=zor (Srt.app.1 hS).1 (i:=r) (j:=S1.length-1) (by omega) (by omega);simp only [Bool.not_eq_true',decide_eq_false_iff_not] at hp;omega
   refine ⟨zi (by omega) (by omega),fun h=>⟨zi (by omega) (by omega), ?_⟩,fun h=>?_⟩
   ·have hlt:mid<A.length+S.length:=by have:=dt0 h;omega
    have:=main (mid+(A.length+S.length)-(A.length+S.length+T.length)) mid (by omega) (by omega) (by omega) (.inl rfl) (Nat.le_refl _) (by omega) (by omega);rw [show ((mid+(A.length+S.length)-(A.length+S.length+T.length):Nat):Int)=(mid:Int)+((A.length+S.length:Nat):Int)-((A.length+S.length+T.length:Nat):Int) by omega] at this;exact this
   ·have hge:¬ mid<A.length+S.length:=by have:=df0 h;omega
    exact main A.length (A.length+S.length) (.inl rfl) (Nat.le_refl _) (by omega) (.inr rfl) (by omega) (Nat.le_refl _) (by omega)
def BS (key:Cl→Int) (n:Nat) (l:List Cl):Prop:=∀(i j:Nat) (hj:j<l.length) (hi:i≤j),i / n=j / n→key (l[i]'(by omega))≤key l[j]
theorem BS.of_srt {key:Cl→Int} {n:Nat} {l:List Cl} (h:Srt key l):BS key n l:=fun i j hj hi _=>zor h hi hj
theorem BS.srt {key:Cl→Int} {n:Nat} {l:List Cl} (h:BS key n l) (hl:l.length≤n):Srt key l:=by
 refine List.pairwise_iff_getElem.2 fun i j hi hj hij=>h i j hj (Nat.le_of_lt hij) ?_;rw [Nat.div_eq_of_lt (by omega),Nat.div_eq_of_lt (by omega)]
theorem BS.app {key:Cl→Int} {n q:Nat} {P Q:List Cl} (hn:0<n) (hP:P.length=q*n) (h1:BS key n P) (h2:BS key n Q):BS key n (P++Q):=fun i j hj hi he=>by
 by_cases hjp:j<P.length
 ·rw [List.getElem_append_left (by omega),List.getElem_append_left hjp];exact h1 i j hjp hi he
 ·have hq:q≤j / n:=by rw [Nat.le_div_iff_mul_le hn];omega
  have hip:P.length≤i:=by
   rcases Nat.lt_or_ge i P.length with h | h
   ·have:i / n<q:=by rw [Nat.div_lt_iff_lt_mul hn];omega
    omega
   ·exact h
  rw [List.getElem_append_right hip,List.getElem_append_right (by omega)];refine h2 (i-P.length) (j-P.length) (by simp at hj;omega) (by omega) ?_;have e1:i=(i-P.length)+q*n:=by omega
  have e2:j=(j-P.length)+q*n:=by omega
  rw [e1,e2,Nat.add_mul_div_right _ _ hn,Nat.add_mul_div_right _ _ hn] at he;omega
theorem BS.left {key:Cl→Int} {n:Nat} {P Q:List Cl} (h:BS key n (P++Q)):BS key n P:=fun i j hj hi he=>by
 have:=h i j (by simp;omega) hi he
 rwa [List.getElem_append_left (by omega),List.getElem_append_left hj] at this
theorem BS.right {key:Cl→Int} {n q:Nat} {P Q:List Cl} (hn:0<n) (hP:P.length=q*n) (h:BS key n (P++Q)):BS key n Q:=fun i j hj hi he=>by
 have:=h (P.length+i) (P.length+j) (by simp;omega) (by omega) (by rw [hP,Nat.add_comm,Nat.add_comm (q*n) j,Nat.add_mul_div_right _ _ hn,Nat.add_mul_div_right _ _ hn,he]);rw [List.getElem_append_right (by omega),List.getElem_append_right (by omega)] at this;simpa using this
theorem sym_in {key:Cl→Int} {cmp:Cl × Cl × Int→Prop} (hc:zq9 key cmp) {A S T B:List Cl} {a m b:Int} (ha:a=(A.length:Int)) (hm:m=((A.length+S.length:Nat):Int)) (hb:b=((A.length+S.length+T.length:Nat):Int)) (hS:S≠[]) (hT:T≠[]) (h1:Srt key S) (h2:Srt key T)
  (hl:(A++S++T++B).length<4611686018427387904):za (A++S++T++B) a m b cmp (A++srt key (S++T)++B):=by
 subst ha;subst hm;subst hb;exact ⟨_,sym_n hc _ A S T B (Nat.le_refl _) hS hT h1 h2 hl⟩
section
variable {key : Cl → Int} {cmp : Cl × Cl × Int → Prop} {xs : List Cl} {r : List Cl}
theorem st_l2 (hc:zq9 key cmp) (hn:xs.length<1152921504606846976) {bs:Nat} (hbs:0<bs) (hbn:bs<xs.length) {L1:List Cl→Int→Prop} (hL:∀Q,BS key (2*bs) Q→SEq key xs Q→L1 Q ((bs:Int)*2)):
  ∀(f:Nat) (P R:List Cl) (q:Nat),R.length≤f→P.length=q*(2*bs)→BS key (2*bs) P→BS key bs R→SEq key xs (P++R) →
   ∃k,zb.l2 (xs.length:Int) cmp (bs:Int) (zb.j2 L1 (xs.length:Int) cmp (bs:Int)) k (P++R) (P.length:Int) ((P.length:Int)+2*(bs:Int)):=by
 intro f
 induction f with
 | zero=>
  intro P R q hf hP h1 h2 h3;have:=List.eq_nil_of_length_eq_zero (show R.length=0 by omega);subst this;have hl:=h3.length;simp at hl;refine ⟨1,fun h=>absurd (dt0 h) (by omega),fun _=>⟨zi (by omega) (by omega),fun h=>absurd (dt0 h) (by omega),fun _=>⟨zi (by omega) (by omega), ?_⟩⟩⟩;rw [List.append_nil] at h3 ⊢;exact hL P h1 h3
 | succ f ih=>
  intro P R q hf hP h1 h2 h3;have hl:=h3.length;simp at hl
  by_cases hle:P.length+2*bs≤xs.length
  ·obtain ⟨S,R1,rfl,hS⟩:=zff R (show bs≤R.length by omega);simp at hl;obtain ⟨T,R2,rfl,hT⟩:=zff R1 (show bs≤R1.length by omega);simp at hl hf;have hSs:=h2.left.srt (by omega);have h2':=BS.right hbs (q:=1) (by omega) h2;have hTs:=h2'.left.srt (by omega);have h2'':=BS.right hbs (q:=1) (by omega) h2';have hP2:(P++srt key (S++T)).length=(q+1)*(2*bs):=by simp [zgv,hP,Nat.add_mul];omega
   obtain ⟨k,hk⟩:=ih (P++srt key (S++T)) R2 (q+1) (by omega) hP2 (BS.app (by omega) hP h1 (BS.of_srt (zh8 _ _))) h2'' (h3.trans (by
    have:=(SEq.refl key P).app ((zga key (S++T)).app (SEq.refl key R2));simpa using this))
   refine ⟨k+1,fun _=>⟨zi (by omega) (by omega),P++srt key (S++T)++R2, ?_,zi (by omega) (by omega),zi (by omega) (by omega), ?_⟩,fun h=>absurd (by omega) (df0 h)⟩
   ·have:=sym_in hc (A:=P) (S:=S) (T:=T) (B:=R2) (a:=(P.length:Int)) (m:=(P.length:Int)+(bs:Int)) (b:=(P.length:Int)+2*(bs:Int)) rfl (by omega) (by omega) (by rintro rfl;simp at hS;omega) (by rintro rfl;simp at hT;omega) hSs hTs (by simp;omega);simpa using this
   ·have e:(((P++srt key (S++T)).length:Nat):Int)=(P.length:Int)+2*(bs:Int):=by simp [zgv];omega
    rw [e] at hk;exact hk
  ·by_cases hm:P.length+bs<xs.length
   ·obtain ⟨S,T,rfl,hS⟩:=zff R (show bs≤R.length by omega);simp at hl;have hSs:=h2.left.srt (by omega);have hTs:=(BS.right hbs (q:=1) (by omega) h2).srt (by omega);refine ⟨1,fun h=>absurd (dt0 h) (by omega),fun _=>⟨zi (by omega) (by omega),fun _=>⟨P++srt key (S++T)++[], ?_,zi (by omega) (by omega), ?_⟩,fun h=>absurd (by omega) (df0 h)⟩⟩
    ·have:=sym_in hc (A:=P) (S:=S) (T:=T) (B:=[]) (a:=(P.length:Int)) (m:=(P.length:Int)+(bs:Int)) (b:=(xs.length:Int)) rfl (by omega) (by omega) (by rintro rfl;simp at hS;omega) (by rintro rfl;simp at hl;omega) hSs hTs (by simp;omega);simpa using this
    ·rw [List.append_nil];exact hL _ (BS.app (by omega) hP h1 (BS.of_srt (zh8 _ _))) (h3.trans (by
      have:=(SEq.refl key P).app (zga key (S++T));simpa using this))
   ·refine ⟨1,fun h=>absurd (dt0 h) (by omega),fun _=>⟨zi (by omega) (by omega),fun h=>absurd (dt0 h) (by omega),fun _=>⟨zi (by omega) (by omega), ?_⟩⟩⟩;exact hL _ (BS.app (by omega) hP h1 (BS.of_srt (h2.srt (by omega)))) h3
theorem st_l1 (hc:zq9 key cmp) (hn:xs.length<1152921504606846976):∀(f:Nat) (bs:Nat) (Q:List Cl),xs.length-bs≤f→0<bs→BS key bs Q→SEq key xs Q →
  zb.l1 (xs.length:Int) cmp (zb.j1 (srt key xs)) (f+1) Q (bs:Int):=by
 intro f
 induction f with
 | zero=>
  intro bs Q hf hbs h1 h2;have hl:=h2.length;exact ⟨fun h=>absurd (dt0 h) (by omega),fun _=>(zh0 (h1.srt (by omega)) h2).symm⟩
 | succ f ih=>
  intro bs Q hf hbs h1 h2;have hl:=h2.length
  by_cases hlt:bs<xs.length
  ·refine ⟨fun _=>⟨zi (by omega) (by omega), ?_⟩,fun h=>absurd (by omega) (df0 h)⟩;have:=st_l2 hc hn hbs hlt (L1:=zb.l1 (xs.length:Int) cmp (zb.j1 (srt key xs)) (f+1)) (fun Q' hb hs=>by
    have:=ih (2*bs) Q' (by omega) (by omega) hb hs
    rwa [show (((2*bs:Nat)):Int)=(bs:Int)*2 by omega] at this) Q.length [] Q 0 (Nat.le_refl _) (by simp) (fun i j hj=>by simp at hj) h1 (by simpa using h2)
   simpa using this
  ·exact ⟨fun h=>absurd (dt0 h) (by omega),fun _=>(zh0 (h1.srt (by omega)) h2).symm⟩
theorem st_l3 (hc:zq9 key cmp) (hn:xs.length<1152921504606846976):∀(f:Nat) (P R:List Cl) (q:Nat),R.length≤f→P.length=q*20→BS key 20 P→SEq key xs (P++R) →
  ∃k,zb.l3 (xs.length:Int) cmp (zb.j3 (xs.length:Int) cmp (srt key xs)) k (P++R) (P.length:Int) ((P.length:Int)+20):=by
 intro f;have fin:∀(P R:List Cl) (q:Nat),P.length=q*20→BS key 20 P→SEq key xs (P++R)→R.length≤20→zb.j3 (xs.length:Int) cmp (srt key xs) (P++R) (P.length:Int):=by
  intro P R q hP h1 h3 hR;have hl:=h3.length;simp at hl;have:=ins_in hc (A:=P) (S:=R) (B:=[]) (a:=(P.length:Int)) (b:=(xs.length:Int)) rfl (by omega) (by simp;omega);refine ⟨P++srt key R,by simpa using this,_,st_l1 hc hn xs.length 20 _ (by omega) (by omega) (BS.app (by omega) hP h1 (BS.of_srt (zh8 _ _))) (h3.trans ((SEq.refl key P).app (zga key R)))⟩
 induction f with
 | zero=>
  intro P R q hf hP h1 h3;have hl:=h3.length;simp at hl;exact ⟨1,fun h=>absurd (dt0 h) (by omega),fun _=>fin P R q hP h1 h3 (by omega)⟩
 | succ f ih=>
  intro P R q hf hP h1 h3;have hl:=h3.length;simp at hl
  by_cases hle:P.length+20≤xs.length
  ·obtain ⟨S,R1,rfl,hS⟩:=zff R (show 20≤R.length by omega);simp at hl hf;have hP2:(P++srt key S).length=(q+1)*20:=by simp [zgv,hP,Nat.add_mul];omega
   obtain ⟨k,hk⟩:=ih (P++srt key S) R1 (q+1) (by omega) hP2 (BS.app (by omega) hP h1 (BS.of_srt (zh8 _ _))) (h3.trans (by
    have:=(SEq.refl key P).app ((zga key S).app (SEq.refl key R1));simpa using this))
   refine ⟨k+1,fun _=>⟨P++srt key S++R1, ?_,zi (by omega) (by omega), ?_⟩,fun h=>absurd (by omega) (df0 h)⟩
   ·have:=ins_in hc (A:=P) (S:=S) (B:=R1) (a:=(P.length:Int)) (b:=(P.length:Int)+20) rfl (by omega) (by simp;omega);simpa using this
   ·have e:(((P++srt key S).length:Nat):Int)=(P.length:Int)+20:=by simp [zgv];omega
    rw [e] at hk;exact hk
  ·exact ⟨1,fun h=>absurd (dt0 h) (by omega),fun _=>fin P R q hP h1 h3 (by omega)⟩
theorem stable_in (hc:zq9 key cmp) (hn:xs.length<1152921504606846976):zbh xs cmp (srt key xs):=by
 have:=st_l3 hc hn xs.length [] xs 0 (Nat.le_refl _) (by simp) (fun i j hj=>by simp at hj) (SEq.refl _ _);refine ⟨_, ?_,rfl⟩;unfold zb;simpa using this
end
end Go.Proofs.YtbojklnokglbhaaGreatDoor.V
namespace Go.Proofs.YtbojklnokglbhaaGreatDoor.V
open Go
set_option linter.unusedVariables false
theorem lk0_le (p:Cl):0≤lk0 p∧lk0 p≤255:=by
 unfold lk0
 by_cases h:0<p.count
 ·obtain ⟨n,h1,h2,_,_⟩:=zqi h;rw [h2];simp;omega
 ·have:p.least=(0,false):=zhr fun m hm=>by
   cases hb:p.has m
   ·rfl
   ·exact absurd (count_pos hm hb) h
  rw [this];simp
theorem split_cmp:zq9 lk0 (fun q_=>zef q_.1 q_.2.1 (fun q_=>zdu q_.1 q_.2) q_.2.2):=fun x y=>by
 have h1:=lk0_le x;have h2:=lk0_le y;exact ⟨lk0 x,⟨_,zg4,rfl⟩,lk0 y,⟨_,zg4,rfl⟩,zi (by omega) (by omega),rfl⟩
theorem flat_len2 (a:Cl) (l:List Cl):(l.flatMap (zgp a)).length≤2*l.length:=by
 induction l with
 | nil=>simp
 | cons p l ih=>
  rw [List.flatMap_cons,List.length_append];have:(zgp a p).length≤2:=by
   have:=List.length_filter_le (fun q:Cl=>decide (0<q.count)) [p &&& a,p &&& ~~~ a];simpa [zgp] using this
  rw [List.length_cons];omega
theorem zmn {ps:List Cl} {a:Cl} (hl:ps.length≤1073741823):z6 ps a (zmo ps a):=by
 refine zhz (P:=fun k (s:List Cl) v=>z6.l1 ps a _ k s v) ps.length (fun i s=>s=(ps.take i).flatMap (zgp a)) ?_ ?_ _ (by simp)
 ·rintro i s hi rfl;refine .inr ⟨_,rfl,fun k h=>⟨fun _=>⟨ps[i],by rw [zbv];simp [hi],_,zkq,_,zlq,_,zkq, ?_⟩,fun h=>absurd (by omega) (df h)⟩⟩;have hb:=flat_len2 a (ps.take i);simp only [List.length_take] at hb;refine zhz (P:=fun k (s:List Cl) v=>z6.l2 _ _ _ k s v) 2 (fun j s=>s=(ps.take i).flatMap (zgp a)++([ps[i] &&& a,ps[i] &&& ~~~ a].take j).filter fun q=>decide (0<q.count)) ?_ ?_ _ (by simp)
  ·rintro j s hj rfl;have hlen:(([ps[i] &&& a,ps[i] &&& ~~~ a].take j).filter fun q=>decide (0<q.count)).length≤1:=by
    have:=List.length_filter_le (fun q:Cl=>decide (0<q.count)) ([ps[i] &&& a,ps[i] &&& ~~~ a].take j);simp at this;omega
   refine .inr ⟨_,rfl,fun k h=>⟨fun _=>⟨[ps[i] &&& a,ps[i] &&& ~~~ a][j],by rw [zbv];simp [hj],_,zoi,fun hc=>?_,fun hc=>?_⟩,fun h=>absurd (by simp;omega) (df h)⟩⟩
   ·have hc:=dt hc;rw [List.take_succ_eq_append_getElem (by simpa using hj),List.filter_append,List.filter_cons_of_pos (by simp;omega),List.filter_nil,← List.append_assoc] at h;exact ⟨by simp only [List.length_append,List.length_cons,List.length_nil];omega,zi (by omega) (by omega),h⟩
   ·have hc:=df hc;rw [List.take_succ_eq_append_getElem (by simpa using hj),List.filter_append,List.filter_cons_of_neg (by simp;omega),List.filter_nil,List.append_nil] at h;exact ⟨zi (by omega) (by omega),h⟩
  ·rintro s rfl k2;refine ⟨fun h=>absurd (dt h) (by simp),fun _=>⟨zi (by omega) (by omega), ?_⟩⟩;rw [List.take_succ_eq_append_getElem hi,List.flatMap_append] at h;simpa [zgp] using h
 ·rintro s rfl k;refine ⟨fun h=>absurd (dt h) (by omega),fun _=>⟨_,stable_in split_cmp ?_, ?_⟩⟩
  ·have:=flat_len2 a (ps.take ps.length);simp only [List.length_take,Nat.min_self] at this;omega
  ·simp [zmo]
theorem zmp (l:List Cl) (i:Nat):(zgl (l.take i)).length≤256:=by
 rw [splitP_eq];have:=heads_len (l.take i);simpa [parts] using this
theorem zn4 {l:List Cl} (hl:l.length≤1073741823):zb4 l (zgl l):=by
 refine ⟨_,zlq, ?_⟩;refine zhz (P:=fun k (s:List Cl) v=>zb4.l1 l _ k s v) l.length (fun i s=>s=zgl (l.take i)) ?_ ?_ _ (by simp [zgl])
 ·rintro i s hi rfl;have:=zmp l i;refine .inr ⟨_,rfl,fun k h=>⟨fun _=>⟨l[i],by rw [zbv];simp [hi],_,zmn (by omega),zi (by omega) (by omega), ?_⟩,fun h=>absurd (by omega) (df h)⟩⟩;have e:zgl (l.take i++[l[i]])=zmo (zgl (l.take i)) l[i]:=by unfold zgl;rw [List.foldl_append];rfl
  rw [List.take_succ_eq_append_getElem hi,e] at h;exact h
 ·rintro s rfl k;exact ⟨fun h=>absurd (dt h) (by omega),fun _=>by rw [List.take_length];rfl⟩
theorem zn6 {l:List Cl} (hl:l.length≤1073741823):zb5 l (zot l):=by
 refine ⟨_,zn4 hl, ?_⟩;have hlen:=zmp l l.length;rw [List.take_length] at hlen;refine zhz (P:=fun k (s:List Int) v=>zb5.l1 (zgl l) _ k s v) (zgl l).length (fun i s=>s=((zgl l).take i).map lk0) ?_ ?_ _ (by simp)
 ·rintro i s hi rfl;refine .inr ⟨_,rfl,fun k h=>⟨fun _=>⟨(zgl l)[i],by rw [zbv];simp [hi],_,zg4,by simp;omega,zi (by omega) (by omega), ?_⟩,fun h=>absurd (by omega) (df h)⟩⟩;rw [List.take_succ_eq_append_getElem hi,List.map_append] at h;exact h
 ·rintro s rfl k;exact ⟨fun h=>absurd (dt h) (by omega),fun _=>by rw [List.take_length];rfl⟩
theorem zfj {a b:List Int} (ha:a.length<9223372036854775807):zbs a b (decide (a=b)):=by
 refine ⟨fun h=>?_,fun h=>?_⟩
 ·simp at h;exact decide_eq_false fun e=>by subst e;omega
 ·have hl:a.length=b.length:=by simp at h;omega
  refine zhz (P:=fun k (_:Unit) v=>zbs.l1 a b (decide (a=b)) _ k v) a.length (fun i _=>∀j (hj:j<i) (h1:j<a.length),a[j]=b[j]'(by omega)) ?_ ?_ () (by intro j hj;omega)
  ·intro i s hi hs;have hat:at? a (i:Int)=some a[i]:=by rw [zbv];simp [hi]
   have hbt:at? b (i:Int)=some (b[i]'(by omega)):=by rw [zbv];simp [show i<b.length by omega]
   by_cases he:a[i]=b[i]'(by omega)
   ·refine .inr ⟨(),fun j hj h1=>?_,fun k h=>⟨fun _=>⟨_,hat,_,hbt,fun h=>by simp [he] at h,fun _=>⟨zi (by omega) (by omega),h⟩⟩,fun h=>absurd (by omega) (df h)⟩⟩
    by_cases hji:j=i
    ·subst hji;exact he
    ·exact hs j (by omega) h1
   ·exact .inl fun k=>⟨fun _=>⟨_,hat,_,hbt,fun _=>decide_eq_false fun e=>he (by subst e;rfl),fun h=>by simp at h;exact absurd h he⟩,fun h=>absurd (by omega) (df h)⟩
  ·intro s hs k;refine ⟨fun h=>absurd (dt h) (by omega),fun _=>?_⟩;show decide (a=b)=true;exact decide_eq_true (List.ext_getElem hl fun j h1 h2=>hs j h1 h1)
theorem zm7 {a b:List SItem} (h:zq7 a) (k:zq7 b):zq7 (a++b):=fun x hx=>(List.mem_append.1 hx).elim (h x) (k x)
theorem pm_noend {d:List SNode} (hd:ROk d):∀(k:Nat) (i:Int),i<(k:Int)→∀p∈pm d i,zq7 p
 | 0,i,hi,p,hp=>by
  have:at? d i=none:=at_none (.inl (by omega));unfold pm at hp;rw [zhx hd d.length 0 i] at hp
  ·simp [PM] at hp
  ·omega
  ·omega
 | k+1,i,hi,p,hp=>by
  have ih:=pm_noend hd k;cases hn:at? d i with
  | none=>
   exfalso;unfold pm at hp;cases hdl:d.length with
   | zero=>rw [hdl] at hp;simp [PM] at hp
   | succ m=>rw [hdl] at hp;simp [PM,hn] at hp
  | some n=>
   have one:∀x:SItem,x.1≠5→zq7 [x]:=fun x h y hy=>by rw [List.mem_singleton.1 hy];exact h
   have e1:pm d i=(PM d d.length i).1:=rfl;rw [e1,zku hd hn] at hp
   by_cases h1:n.1=1
   ·rw [if_pos h1] at hp;cases hp
   ·rw [if_neg h1] at hp
    by_cases h3:n.1=3
    ·rw [if_pos h3,List.mem_singleton] at hp;subst hp;exact one _ (by simp)
    ·rw [if_neg h3] at hp
     by_cases h4:n.1=4
     ·rw [if_pos h4] at hp;obtain ⟨⟨a,b⟩,c,e⟩:=hd.two _ n hn (.inl h4);rcases List.mem_append.1 hp with hp | hp
      ·obtain ⟨q,hq,rfl⟩:=List.mem_map.1 hp;exact zm7 (ih _ (by omega) q hq) (one _ (by simp))
      ·obtain ⟨L,hL,hp⟩:=List.mem_flatten.1 hp;rw [(List.mem_replicate.1 hL).2] at hp;exact ih _ (by omega) p hp
     ·rw [if_neg h4] at hp
      by_cases h5:n.1=5
      ·rw [if_pos h5] at hp;obtain ⟨⟨a,b⟩,c,e⟩:=hd.two _ n hn (.inr h5);rcases List.mem_append.1 hp with hp | hp
       ·exact ih _ (by omega) p hp
       ·exact ih _ (by omega) p hp
      ·rw [if_neg h5] at hp
       by_cases h6:n.1=6
       ·rw [if_pos h6] at hp;obtain ⟨a,b⟩:=hd.one _ n hn (.inl h6);obtain ⟨q,hq,rfl⟩:=List.mem_map.1 hp;exact zm7 (ih _ (by omega) q hq) (one _ (by simp))
       ·rw [if_neg h6] at hp
        by_cases h7:n.1=7
        ·rw [if_pos h7] at hp;obtain ⟨a,b⟩:=hd.one _ n hn (.inr (.inl h7));simp only at hp;split at hp
         ·obtain ⟨q,hq,rfl⟩:=List.mem_map.1 hp;exact zm7 (ih _ (by omega) q hq) (one _ (by simp))
         ·cases hp
        ·rw [if_neg h7,List.mem_singleton] at hp;subst hp;exact one _ (by simp)
def shJ (c:Int) (x:SItem):SItem:=if x.1=5 then x else shI c x
def shT (c:Int) (s:List SItem):List SItem:=s.map (shJ c)
theorem zjl (c:Int) (a b:List SItem):shT c (a++b)=shT c a++shT c b:=List.map_append ..
theorem shT_noend {c:Int} {s:List SItem} (h:zq7 s):shS c s=shT c s:=List.map_congr_left fun x hx=>by unfold shJ;rw [if_neg (h x hx)]
section
variable {l l' : List SNode} {c : Int} (h : Emb l l' c) (hl : ROk l) (hl' : ROk l')
include h hl hl'
theorem pmI_emb {x:SItem} (hx:zel l x=true):pmI l' (shJ c x)=(pmI l x).map (shT c)∧nwI l' (shJ c x)=nwI l x:=by
 by_cases h5:x.1=5
 ·have e:shJ c x=x:=by unfold shJ;rw [if_pos h5]
  rw [e];unfold pmI nwI;simp [h5]
 ·obtain ⟨n,hn,hk⟩:=zez hx h5;have e:shJ c x=shI c x:=by unfold shJ;rw [if_neg h5]
  rw [e];have pmT:∀(i:Int) m,at? l i=some m→pm l' (i+c)=(pm l i).map (shT c)∧nw l' (i+c)=nw l i:=fun i m hm=>by
   obtain ⟨p1,p2⟩:=PM_emb h hl hl' (i.toNat+1) i m (by have:=zbn hm;omega) hm;refine ⟨?_,p2⟩;rw [p1];exact List.map_congr_left fun p hp=>shT_noend (pm_noend hl (i.toNat+1) i (by have:=zbn hm;omega) p hp)
  rcases hk with h1 | ⟨h2,h7⟩ | ⟨h3,_⟩ | ⟨h4,_⟩
  ·have:=pmT _ n hn;unfold pmI nwI;have e1:(shI c x).1=1:=h1;rw [if_pos e1,if_pos h1,if_pos e1,if_pos h1];exact this
  ·obtain ⟨m,hm,f1,f2,f3,f4,f5⟩:=h.get hn;obtain ⟨a,b⟩:=hl.one _ n hn (.inr (.inl h7));obtain ⟨m1,hm1⟩:=zdk hn a b;obtain ⟨p1,_⟩:=pmT _ m1 hm1;have e1:(shI c x).1=2:=h2;have A:pmI l' (shI c x)=if 0<x.2.2.2 then (pm l' m.2.1).map (·++[(2,x.2.1+c,max (x.2.2.1-1) 0,x.2.2.2-1)]) else []:=by
    unfold pmI;rw [if_neg (by rw [e1];decide),if_pos e1,show (shI c x).2.1=x.2.1+c from rfl,hm];rfl
   have B:pmI l x=if 0<x.2.2.2 then (pm l n.2.1).map (·++[(2,x.2.1,max (x.2.2.1-1) 0,x.2.2.2-1)]) else []:=by
    unfold pmI;rw [if_neg (by rw [h2];decide),if_pos h2,hn]
   have C:nwI l' (shI c x)=nwI l x:=by
    unfold nwI;have k1:¬ (shI c x).1=1:=by rw [e1];decide
    have k2:¬ x.1=1:=by rw [h2];decide
    rw [if_neg k1,if_pos e1,if_neg k2,if_pos h2];rfl
   refine ⟨?_,C⟩;rw [A,B];split
   ·rw [f2 (by omega),p1,List.map_map,List.map_map];refine List.map_congr_left fun q _=>?_;simp only [Function.comp];rw [zjl];rfl
   ·rfl
  ·unfold pmI nwI;have e1:(shI c x).1=3:=h3;rw [if_neg (by omega),if_neg (by omega),if_neg (by omega),if_neg (by omega),if_neg (by omega),if_neg (by omega)];rw [if_neg (by omega),if_neg (by omega),if_neg (by omega),if_neg (by omega),if_neg (by omega),if_neg (by omega)];refine ⟨?_,rfl⟩;simp [shT,e]
  ·unfold pmI nwI;have e1:(shI c x).1=4:=h4;rw [if_neg (by omega),if_neg (by omega),if_neg (by omega),if_neg (by omega),if_neg (by omega),if_neg (by omega)];rw [if_neg (by omega),if_neg (by omega),if_neg (by omega),if_neg (by omega),if_neg (by omega),if_neg (by omega)];refine ⟨?_,rfl⟩;simp [shT,e]
theorem hds_emb:∀s:List SItem,zdo l s=true→hds l' (shT c s)=(hds l s).map (shT c)
 | [],_=>rfl
 | x::rest,hf=>by
  obtain ⟨h1,h2⟩:=zc9 hf;obtain ⟨p,q⟩:=pmI_emb h hl hl' h1;have ih:=hds_emb rest h2;show (pmI l' (shJ c x)).map (·++shT c rest)++(List.replicate (nwI l' (shJ c x)) (hds l' (shT c rest))).flatten=((pmI l x).map (·++rest)++(List.replicate (nwI l x) (hds l rest)).flatten).map (shT c);rw [p,q,ih,List.map_append,List.map_map,List.map_map,← rep_map]
  congr 1
  refine List.map_congr_left fun t _=>?_;simp only [Function.comp];rw [zjl]
omit h hl hl' in
theorem lowF_sh (c:Int) (s:List SItem):zdr (shT c s)=(shT c (zdr s).1,(zdr s).2):=by
 have b:∀x:SItem,badI (shJ c x)=badI x:=fun x=>by
  unfold shJ
  split
  ·rfl
  ·rfl
 have l:∀x:SItem,zh4 (shJ c x)=shJ c (zh4 x):=fun x=>by
  by_cases h5:x.1=5
  ·have e1:zh4 x=(x.1,x.2.1,x.2.2.1-1,x.2.2.2):=by unfold zh4;rw [if_pos h5]
   have e2:shJ c x=x:=by unfold shJ;rw [if_pos h5]
   have e3:shJ c (zh4 x)=zh4 x:=by unfold shJ;rw [if_pos (by rw [e1];exact h5)]
   rw [e2,e3]
  ·have e1:zh4 x=x:=by unfold zh4;rw [if_neg h5]
   have e2:shJ c x=shI c x:=by unfold shJ;rw [if_neg h5]
   rw [e1,e2]
   unfold zh4
   rw [if_neg (show ¬ (shI c x).1=5 from h5)]
 unfold zdr
 have e:(shT c s).any badI=s.any badI:=by
  unfold shT
  rw [List.any_map]
  congr 1
  funext x
  exact b x
 rw [e]
 split
 ·rfl
 ·simp only [shT,List.map_map]
  congr 1
  exact List.map_congr_left fun x _=>l x
omit hl hl' in
theorem readF_emb {t:List SItem} (hf:zdo l t=true) (hr:rdy l t=true) (b:Int):zbc l' (shT c t) b=(shT c (zbc l t b).1,(zbc l t b).2):=by
 cases t with
 | nil=>rfl
 | cons x rest=>
  obtain ⟨n,hn,hm,hk⟩:=zhp hf hr
  have h5:x.1≠5:=by omega
  have e:shJ c x=shI c x:=by unfold shJ;rw [if_neg h5]
  have es:shT c (x::rest)=shI c x::shT c rest:=by show shJ c x::_=_;rw [e];rfl
  have hm':=h.at' _ _ hn
  have n1:(zlb c n).1=n.1:=rfl
  have nt:(zlb c n).2.2.2.2.2=n.2.2.2.2.2:=rfl
  have x1:(shI c x).1=x.1:=rfl
  have x2:(shI c x).2.1=x.2.1+c:=rfl
  have x3:(shI c x).2.2=x.2.2:=rfl
  have five:∀v:Int,shJ c (5,0,v,0)=(5,0,v,0):=fun v=>rfl
  have a4:4≤n.1→(zlb c n).2.1=n.2.1+c:=fun h4=>by unfold zlb;rw [if_pos h4]
  rw [es]
  unfold zbc
  simp only [lowF_sh,x2,hm',hn,x1,n1,nt,x3]
  by_cases hl0:(zdr rest).2=false
  ·rw [if_pos hl0,if_pos hl0];rfl
  ·rw [if_neg hl0,if_neg hl0]
   by_cases h3:x.1=3
   ·rw [if_pos h3,if_pos h3]
    split
    ·split
     ·rw [zjl];rfl
     ·rw [zjl];rfl
    ·rfl
   ·rw [if_neg h3,if_neg h3]
    by_cases h4:x.1=4
    ·have h9:n.1=9:=by omega
     rw [if_pos h4,if_pos h4,a4 (by omega),zjl];rfl
    ·rw [if_neg h4,if_neg h4]
     by_cases h8:n.1=8
     ·rw [if_pos h8,if_pos h8,a4 (by omega),zjl];rfl
     ·rw [if_neg h8,if_neg h8]
      by_cases h9:n.1=9
      ·rw [if_pos h9,if_pos h9,zjl];rfl
      ·rw [if_neg h9,if_neg h9]
       split <;> rfl
theorem wyn_emb:∀(w:List Int) (s:List SItem),(∀b∈w,InR .u8 b)→zdo l s=true→wyn l' w (shT c s)=wyn l w s
 | [],s,_,hf=>by
  show (hds l' (shT c s)).count []=(hds l s).count [];rw [hds_emb h hl hl' s hf,zg6,zg6,zfc];refine zix fun t _=>?_;cases t with
  | nil=>rfl
  | cons x t=>rfl
 | b::w,s,hw,hf=>by
  show zc1 _ (hds l' (shT c s))=zc1 _ (hds l s);rw [hds_emb h hl hl' s hf,zfc];refine zix fun t ht=>?_;obtain ⟨L,⟨k,hk⟩,hp⟩:=zo8 hl s hf;obtain ⟨h3,h4⟩:=lv_vs hl (n0:=s.length) k s L hk (Vs.start hf (Nat.le_refl _)) t (hp.mem_iff.2 ht);rw [readF_emb h h3.form h4 b];cases hr:(zbc l t b).2
  ·rfl
  ·simp only [if_true];exact wyn_emb w _ (fun e he=>hw e (by simp [he])) (form_read hl h3.form h4 (hw b (by simp)))
theorem node_emb {i:Int} {n:SNode} (hn:at? l i=some n) {w:List Int} (hw:∀b∈w,InR .u8 b):zm6 l' (i+c) w=zm6 l i w:=by
 have:=wyn_emb h hl hl' w [(1,i,0,0)] hw (ze0 (zgs ⟨n,hn⟩) rfl);exact this
end
end Go.Proofs.YtbojklnokglbhaaGreatDoor.V
namespace Go.Proofs.YtbojklnokglbhaaGreatDoor.V
open Go
set_option linter.unusedVariables false
theorem zgi {α:Type} {xs:List α} {i:Nat} (h:i<xs.length):at? xs (i:Int)=some xs[i]:=by rw [zbv];exact List.getElem?_eq_getElem h
theorem zo3 {α:Type} [DecidableEq α]:∀{a b:List α},a.Nodup→b.Nodup→(∀x,x∈a↔x∈b)→a.Perm b
 | [],b,_,_,h=>by
  cases b with
  | nil=>exact .refl _
  | cons y b=>exact absurd ((h y).2 (by simp)) (by simp)
 | x::a,b,ha,hb,h=>by
  rw [List.nodup_cons] at ha;have hx:=(h x).1 (by simp);refine (List.Perm.cons x (zo3 ha.2 (hb.erase x) fun y=>?_)).trans (List.perm_cons_erase hx).symm;rw [hb.mem_erase_iff];constructor
  ·intro hy;exact ⟨fun e=>ha.1 (by rw [← e];exact hy),(h y).1 (by simp [hy])⟩
  ·rintro ⟨h1,h2⟩;exact (List.mem_cons.1 ((h y).2 h2)).resolve_left h1
theorem item_StartS {d:List SNode} (h:d≠[]) (hl:d.length≤1000):zi8 d (stS d):=by
 have:=List.length_pos_iff.2 h;exact ⟨zi (by omega) (by omega),rfl⟩
theorem zj4 {d:List SNode} (h:d≠[]) (hl:d.length≤1000):zg7 d [stS d]:=⟨_,item_StartS h hl,rfl⟩
def mS (L:List (List SItem)):List (Str × List SItem):=L.foldl (fun m t=>zfp m (keyS t) t) []
theorem mS_snoc (L:List (List SItem)) (t:List SItem):mS (L++[t])=zfp (mS L) (keyS t) t:=by unfold mS;rw [List.foldl_append];rfl
theorem mS_inv (L:List (List SItem)):((mS L).map (·.2)).Nodup∧∀p,p∈mS L↔p.2∈L∧p.1=keyS p.2:=by
 have:∀n (L:List (List SItem)),L.length=n→((mS L).map (·.2)).Nodup∧∀p,p∈mS L↔p.2∈L∧p.1=keyS p.2:=by
  intro n
  induction n with
  | zero=>intro L hL;rw [List.length_eq_zero_iff.1 hL];exact ⟨List.nodup_nil,by simp [mS]⟩
  | succ n ih=>
   intro L hL;have hne:L≠[]:=fun e=>by subst e;simp at hL
   rw [← List.dropLast_concat_getLast hne];obtain ⟨i1,i2⟩:=ih L.dropLast (by simp [hL]);generalize L.dropLast=A at *;generalize L.getLast hne=t at *;rw [mS_snoc];unfold zfp;cases hh:zhc (mS A) (keyS t)
   ·simp only [cond_false];have hno:t ∉ A:=fun h=>by
     have h1:=(i2 (keyS t,t)).2 ⟨h,rfl⟩;have:zhc (mS A) (keyS t)=true:=by
      unfold zhc;rw [List.any_eq_true];exact ⟨_,h1,by simp⟩
     rw [hh] at this;cases this
    refine ⟨?_,fun p=>?_⟩
    ·rw [List.map_append,List.nodup_append];refine ⟨i1,by simp,fun a ha b hb e=>?_⟩;simp at hb;subst hb;subst e;obtain ⟨p,hp,rfl⟩:=List.mem_map.1 ha;exact hno ((i2 p).1 hp).1
    ·rw [List.mem_append,i2,List.mem_singleton,List.mem_append,List.mem_singleton];constructor
     ·rintro (⟨h1,h2⟩ | rfl)
      ·exact ⟨.inl h1,h2⟩
      ·exact ⟨.inr rfl,rfl⟩
     ·rintro ⟨h1 | h1,h2⟩
      ·exact .inl ⟨h1,h2⟩
      ·exact .inr (Prod.ext (by rw [h2,h1]) h1)
   ·have hh':=hh;unfold zhc at hh';rw [List.any_eq_true] at hh';obtain ⟨q,hq1,hq2⟩:=hh';have hqk:q.1=keyS t:=by simpa using hq2
    have hq3:=(i2 q).1 hq1;have hqt:q.2=t:=zf3.1 (by rw [← hq3.2,hqk]);have hta:t∈A:=by rw [← hqt];exact hq3.1
    simp only [cond_true];have hmap:∀f:Str × List SItem→Str × List SItem,(∀p∈mS A,f p=p)→(mS A).map f=mS A:=fun f hf=>by
     conv=>rhs;rw [← List.map_id (mS A)]
     exact List.map_congr_left hf
    rw [hmap _ fun p hp=>?_]
    rotate_left
    ·by_cases hpk:p.1=keyS t
     ·have hp3:=(i2 p).1 hp;have:p.2=t:=zf3.1 (by rw [← hp3.2,hpk]);have e:p=(keyS t,t):=Prod.ext hpk this;rw [e];simp
     ·exact (congrArg (fun b=>bif b then (keyS t,t) else p) (decide_eq_false hpk)).trans rfl
    refine ⟨i1,fun p=>?_⟩;rw [i2,List.mem_append,List.mem_singleton];constructor
    ·rintro ⟨h1,h2⟩;exact ⟨.inl h1,h2⟩
    ·rintro ⟨h1 | h1,h2⟩
     ·exact ⟨h1,h2⟩
     ·exact ⟨by rw [h1];exact hta,h2⟩
 exact this _ L rfl
structure Room (d:List SNode) (c:Int) (l:List (List SItem)):Prop where
 sm:∀s∈l,Sm d s
 len:l.length≤2000000000
 cov:∃K:List (List SItem),K.length≤2000000000∧∀s∈l,∀t∈zdx d c s,t∈K
theorem zoq {d:List SNode} {s:List SItem} (h:Sm d s) {c:Int} (hc:InR .u8 c) {t:List SItem} (ht:t∈zdx d c s):t.length≤1000:=by
 have:=(step_ok h.rt.toROk h.form hc t ht).2;have:=h.slen;have:=h.len;omega
theorem zow {d:List SNode} {l:List (List SItem)} {c:Int} (hr:Room d c l) (hc:InR .u8 c):zb6 d l c (onS d c l):=by
 have hll:=hr.len;obtain ⟨K,k1,k2⟩:=hr.cov;refine uptoK (P:=fun k m v=>zb6.l1 d l c _ k m v) l.length (fun i m=>m=mS ((l.take i).flatMap fun s=>zjm (zdx d c s))) ?_ ?_ _ (by simp [mS])
 ·rintro i m k hi rfl hk;have hsm:=hr.sm _ (List.getElem_mem hi);obtain ⟨o,o1,_,o3⟩:=on_step hsm hc;have ho:o.map (·.1)=zjm (zdx d c l[i]):=can_set o3 fun t=>by rw [← List.count_pos_iff];omega
  have hol:o.length≤2000000000:=by
   have:=zj5 (A:=zdx d c l[i]) (K:=K) fun t ht=>k2 _ (List.getElem_mem hi) t ht;rw [← ho,List.length_map] at this;omega
  refine ⟨fun _=>⟨_,zgi hi,o,o1, ?_⟩,fun h=>absurd (by omega) (df h)⟩;refine uptoK (P:=fun k m v=>zb6.l2 o _ k m v) o.length (fun j m=>m=mS (((l.take i).flatMap fun s=>zjm (zdx d c s))++(o.map (·.1)).take j)) ?_ ?_ _ (by simp)
  ·rintro j m k' hj rfl hk';have hmem:o[j].1∈zdx d c l[i]:=zd1.1 (by rw [← ho];exact List.mem_map.2 ⟨_,List.getElem_mem hj,rfl⟩);have hlen:=zoq hsm hc hmem;refine ⟨fun _=>⟨_,zgi hj,_,znh hlen,zi (by omega) (by omega),hk' _ ?_⟩,fun h=>absurd (by omega) (df h)⟩;rw [List.take_succ_eq_append_getElem (by simpa using hj),← List.append_assoc,mS_snoc];simp
  ·rintro m rfl k';refine ⟨fun h=>absurd (dt h) (by omega),fun _=>⟨zi (by omega) (by omega),hk _ ?_⟩⟩;rw [List.take_of_length_le (l:=o.map (·.1)) (by simp),List.take_succ_eq_append_getElem hi,List.flatMap_append,ho];simp
 ·rintro m rfl k;refine ⟨fun h=>absurd (dt h) (by omega),fun _=>?_⟩;rw [List.take_length];obtain ⟨i1,i2⟩:=mS_inv (l.flatMap fun s=>zjm (zdx d c s));have hmm:∀t,t∈(mS (l.flatMap fun s=>zjm (zdx d c s))).map (·.2)↔t∈onS d c l:=fun t=>by
   rw [zk6,List.mem_map];constructor
   ·rintro ⟨p,hp,rfl⟩;obtain ⟨s,h1,h2⟩:=List.mem_flatMap.1 ((i2 p).1 hp).1;exact ⟨s,h1,zd1.1 h2⟩
   ·rintro ⟨s,h1,h2⟩;exact ⟨(keyS t,t),(i2 _).2 ⟨List.mem_flatMap.2 ⟨s,h1,zd1.2 h2⟩,rfl⟩,rfl⟩
  refine ⟨fun b hb=>?_, ?_,zo3 (zpp (zfm _)) i1 fun t=>(hmm t).symm,zfm _⟩
  ·obtain ⟨s,h1,h2⟩:=zk6.1 ((hmm b).1 hb);exact zoq (hr.sm s h1) hc h2
  ·have:=zil (U:=K) i1 fun t ht=>by
    obtain ⟨s,h1,h2⟩:=zk6.1 ((hmm t).1 ht);exact k2 s h1 t h2
   omega
theorem idxS_in {s:List (List SItem)} {f:List SItem × Bool→Prop} {g:List SItem→Bool} (hf:∀x∈s,f (x,g x)) (hl:s.length≤140737488351232):zbj s f (s.any g):=by
 have key:∃i:Int,zl s f i∧(decide (0≤i))=s.any g:=by
  cases hc:s.any g
  ·refine ⟨-1, ?_,by decide⟩;rw [List.any_eq_false] at hc;refine zhz (P:=fun k (_:Unit) v=>zl.l1 s f (-1) _ k v) s.length (fun _ _=>True) ?_ ?_ () trivial
   ·intro j _ hj _;exact .inr ⟨(),trivial,fun k hk=>⟨fun _=>⟨_,zgi hj,_,hf _ (List.getElem_mem hj),fun h=>absurd h (hc _ (List.getElem_mem hj)),fun _=>⟨zi (by omega) (by omega),hk⟩⟩,fun h=>absurd (by omega) (df h)⟩⟩
   ·intro _ _ k;exact ⟨fun h=>absurd (dt h) (by omega),fun _=>rfl⟩
  ·rw [List.any_eq_true] at hc;obtain ⟨x,hx,hgx⟩:=hc;have hex:∃i,∃(h:i<s.length),g s[i]=true:=by
    obtain ⟨i,hi,rfl⟩:=List.mem_iff_getElem.1 hx;exact ⟨i,hi,hgx⟩
   obtain ⟨i,⟨hi,hi2⟩,hmin⟩:=exists_least hex;refine ⟨(i:Int), ?_,by simp⟩;refine zhz (P:=fun k (_:Unit) v=>zl.l1 s f (i:Int) _ k v) (i+1) (fun j _=>j≤i) ?_ ?_ () (by omega)
   ·intro j _ hj hle;have hat:=zgi (show j<s.length by omega);have hfj:=hf _ (List.getElem_mem (show j<s.length by omega))
    by_cases hji:j=i
    ·subst hji;rw [hi2] at hfj;exact .inl fun k=>⟨fun _=>⟨_,hat,true,hfj,fun _=>rfl,(fun h=>by cases h)⟩,fun h=>absurd (by omega) (df h)⟩
    ·have hno:g (s[j]'(by omega))=false:=by
      cases hg:g (s[j]'(by omega))
      ·rfl
      ·have:=hmin j ⟨by omega,hg⟩;omega
     rw [hno] at hfj;exact .inr ⟨(),by omega,fun k hk=>⟨fun _=>⟨_,hat,false,hfj,(fun h=>by cases h),fun _=>⟨zi (by omega) (by omega),hk⟩⟩,fun h=>absurd (by omega) (df h)⟩⟩
   ·intro _ h k;omega
 obtain ⟨i,h1,h2⟩:=key;exact ⟨i,h1,h2.symm⟩
theorem sat_pos (n:Nat):decide (0<sat n)=decide (n≠0):=by
 by_cases h:n=0
 ·subst h;simp [sat]
 ·rw [decide_eq_true (by unfold sat;omega),decide_eq_true h]
theorem zib {d:List SNode} {l:List (List SItem)} (hl:∀s∈l,Sm d s) (hn:l.length≤2000000000):zg8 d l (ziq d l):=by
 refine ⟨_,idxS_in (g:=fun s=>decide ((hds d s).count []≠0)) (fun s hs=>⟨_,(ends_both (hl s hs)).1, ?_⟩) (by omega),rfl⟩;exact (sat_pos _).symm
theorem zid {d:List SNode} {l:List (List SItem)} (hl:∀s∈l,Sm d s) (hn:l.length≤2000000000) (hc:(zjw d l).length*32≤140737488355328):zbq d l (zjw d l):=by
 refine zhz (P:=fun k out v=>zbq.l1 d l _ k out v) l.length (fun i out=>out=zjw d (l.take i)) ?_ ?_ _ (by simp [zjw])
 ·rintro i out hi rfl;have e:zjw d (l.take (i+1))=zjw d (l.take i)++clsA d l[i]:=by
   unfold zjw;rw [List.take_succ_eq_append_getElem hi,List.flatMap_append];simp
  refine .inr ⟨_,rfl,fun k hk=>⟨fun _=>⟨_,zgi hi,_,(clsA_in (hl _ (List.getElem_mem hi))).1, ?_,zi (by omega) (by omega),by rw [← e];exact hk⟩,fun h=>absurd (by omega) (df h)⟩⟩;have h2:zjw d l=zjw d (l.take (i+1))++zjw d (l.drop (i+1)):=by unfold zjw;rw [← List.flatMap_append,List.take_append_drop]
  have h3:=congrArg List.length h2;rw [e,List.length_append,List.length_append] at h3;omega
 ·rintro out rfl k;refine ⟨fun h=>absurd (dt h) (by omega),fun _=>?_⟩;show zjw d l=_;rw [List.take_length]
theorem sets_Once_in {l:List Cl} (hn:l.length≤140737488351232) (ho:(zfw l).length≤2147483647):zcs l (zfw l):=by
 have hpre:∀i,(zfw (l.take i)).length≤(zfw l).length:=fun i=>by
  refine zil (zm5 _) fun x hx=>(zfo l).2 (List.mem_of_mem_take ((zfo _).1 hx))
 refine zhz (P:=fun k (s:List (Cl × Bool) × List Cl) v=>zcs.l1 l _ k s.1 s.2 v) l.length (fun i s=>s.2=zfw (l.take i)∧∀x,zd3 s.1 x false=decide (x∈l.take i)) ?_ ?_ ([],[]) ⟨by simp [zfw],fun x=>by simp [zd3]⟩
 ·rintro i ⟨met,out⟩ hi ⟨h1,h2⟩;simp only at h1 h2;subst h1;have htk:l.take (i+1)=l.take i++[l[i]]:=List.take_succ_eq_append_getElem hi;have hnext:∀x,zd3 (zfp met l[i] true) x false=decide (x∈l.take (i+1)):=fun x=>by
   rw [znc,h2,htk]
   by_cases hx:l[i]=x
   ·rw [if_pos hx];exact (decide_eq_true (List.mem_append.2 (.inr (by rw [← hx];exact List.mem_singleton.2 rfl)))).symm
   ·rw [if_neg hx];exact decide_eq_decide.2 ⟨fun h=>List.mem_append.2 (.inl h),fun h=>(List.mem_append.1 h).resolve_right fun e=>hx (List.mem_singleton.1 e).symm⟩
  have hp1:=hpre (i+1)
  by_cases hm:l[i]∈l.take i
  ·refine .inr ⟨(zfp met l[i] true,zfw (l.take i)),⟨?_,hnext⟩,fun k hk=>⟨fun _=>⟨_,zgi hi,fun h=>?_,fun _=>⟨zi (by omega) (by omega),hk⟩⟩,fun h=>absurd (by omega) (df h)⟩⟩
   ·rw [htk,zi3,if_pos ((zfo _).2 hm)]
   ·rw [h2,decide_eq_true hm] at h;cases h
  ·have e:zfw (l.take (i+1))=zfw (l.take i)++[l[i]]:=by rw [htk,zi3,if_neg fun h=>hm ((zfo _).1 h)]
   refine .inr ⟨(zfp met l[i] true,zfw (l.take i)++[l[i]]),⟨e.symm,hnext⟩,fun k hk=>⟨fun _=>⟨_,zgi hi,fun _=>⟨?_,zi (by omega) (by omega),hk⟩,fun h=>?_⟩,fun h=>absurd (by omega) (df h)⟩⟩
   ·rw [e] at hp1;simp only [List.length_append,List.length_cons,List.length_nil] at hp1 ⊢;omega
   ·rw [h2,decide_eq_false hm] at h;cases h
 ·rintro ⟨met,out⟩ ⟨h1,h2⟩ k;simp only at h1;subst h1;refine ⟨fun h=>absurd (dt h) (by omega),fun _=>?_⟩;show zfw l=_;rw [List.take_length]
theorem room_after {d:List SNode} (h:Rt d) (hl:d.length≤24) (ht:Txt d) {w:List Int} (hw:∀c∈w,InR .u8 c) {c:Int} (hc:InR .u8 c) (hp:pas d.length (w.length+1)≤2000000000):Room d c (zeo d w):=by
 refine ⟨fun s hs=>(zfy h hl ht hw hs).1, ?_, ?_⟩
 ·have:=zq4 h hw;have:=pas_more d.length w.length;omega
 ·have hw2:∀b∈w++[c],InR .u8 b:=fun b hb=>(List.mem_append.1 hb).elim (hw b) fun e=>by rw [List.mem_singleton.1 e];exact hc
  obtain ⟨K,k1,k2⟩:=after_cov h fun b hb=>(zfr.1 (hw2 b hb)).1;rw [List.length_append,List.length_singleton] at k1;refine ⟨K,by omega,fun s hs t hts=>k2 t ?_⟩;show t∈zcq d (w++[c]) (stS d);rw [← zjb,zdt,zk6];exact ⟨s,hs,hts⟩
theorem zp9 {m k m' k':Nat} (h1:m≤m') (h2:k≤k') {n:Nat} (h:pas m' k'≤n):pas m k≤n:=Nat.le_trans (Nat.le_trans (pas_mono h1 k) (pas_long m' h2)) h
theorem itoa_no47 (n:Int):∀c∈Lib.itoa n,c≠47:=by
 intro c hc he;subst he;unfold Lib.itoa at hc;split at hc
 ·rcases List.mem_cons.1 hc with h | h
  ·exact absurd h (by decide)
  ·have:=(zpa _ _ h).1;exact absurd this (by decide)
 ·have:=(zpa _ _ hc).1;exact absurd this (by decide)
theorem keyN_no47 (l:List Int):∀c∈zjq l,c≠47:=by
 induction l with
 | nil=>intro c hc;simp [zjq] at hc
 | cons z l ih=>
  intro c hc;rw [zhf,List.mem_append,List.mem_cons] at hc;rcases hc with h | rfl | h
  ·exact itoa_no47 z c h
  ·decide
  ·exact ih c h
theorem cut47 {a b:List UInt8} (ha:∀c∈a,c≠47) (hb:∀c∈b,c≠47) {u v:List UInt8} (h:a++47::u=b++47::v):a=b∧u=v:=by
 induction a generalizing b with
 | nil=>
  cases b with
  | nil=>exact ⟨rfl,(List.cons.inj h).2⟩
  | cons y b=>exact absurd (List.cons.inj h).1.symm (hb y (by simp))
 | cons x a ih=>
  cases b with
  | nil=>exact absurd (List.cons.inj h).1 (ha x (by simp))
  | cons y b=>
   obtain ⟨h1,h2⟩:=List.cons.inj h;obtain ⟨h3,h4⟩:=ih (fun c hc=>ha c (by simp [hc])) (fun c hc=>hb c (by simp [hc])) h2;exact ⟨by rw [h1,h3],h4⟩
theorem zim (s:List SItem) (l:List (List SItem)):zki (s::l)=keyS s++47::zki l:=by simp [zki]
theorem keyL_inj {l m:List (List SItem)} (h:zki l=zki m):l=m:=by
 induction l generalizing m with
 | nil=>
  cases m with
  | nil=>rfl
  | cons y m=>rw [zim] at h;simp [zki] at h
 | cons z l ih=>
  cases m with
  | nil=>rw [zim] at h;simp [zki] at h
  | cons y m=>
   rw [zim,zim] at h;obtain ⟨h1,h2⟩:=cut47 (keyN_no47 _) (keyN_no47 _) h;rw [zf3.1 h1,ih h2]
theorem zmv {l:List (List SItem)} (h1:l.length≤1000000000) (h2:∀s∈l,s.length≤1000):zl5 l (zki l):=⟨h1,h2,rfl⟩
theorem Sm.short {d:List SNode} {s:List SItem} (h:Sm d s):s.length≤1000:=by have:=h.slen;omega
structure Sch (T:Type) where
 start:T
 ways:T→List (Int × T)
 hit:T→Bool
abbrev Qb (T:Type):=T × Int × Int × List Int
section
variable {T : Type} [DecidableEq T]
def hasQ (acc:List (Qb T)) (x:T):Bool:=acc.any fun q=>decide (q.1=x)
def stB (i:Nat) (w:List Int) (acc:List (Qb T)) (e:Int × T):List (Qb T):=if hasQ acc e.2=true then acc else acc++[(e.2,(i:Int),e.1,w++[e.1])]
def rdB (S:Sch T) (i:Nat) (q:Qb T) (acc:List (Qb T)):List (Qb T):=(S.ways q.1).foldl (stB i q.2.2.2) acc
def zc2 (S:Sch T):Nat→List (Qb T)
 | 0=>[(S.start, -1,0,[])]
 | i+1=>match (zc2 S i)[i]? with
  | some q=>rdB S i q (zc2 S i)
  | none=>zc2 S i
theorem zl9 {acc:List (Qb T)} {x:T}:hasQ acc x=true↔∃q∈acc,q.1=x:=by simp [hasQ]
theorem hasQ_app {acc:List (Qb T)} {q:Qb T} {x:T}:hasQ (acc++[q]) x=(hasQ acc x||decide (q.1=x)):=by simp [hasQ]
theorem zeb {α:Type} {a b:List α} (h:a <+: b) {j:Nat} {q:α} (hq:a[j]?=some q):b[j]?=some q:=by
 obtain ⟨r,rfl⟩:=h;rw [List.getElem?_append_left (List.getElem?_eq_some_iff.1 hq).1];exact hq
theorem stB_pre (i:Nat) (w:List Int) (acc:List (Qb T)) (e:Int × T):acc <+: stB i w acc e:=by
 unfold stB;split
 ·exact List.prefix_refl _
 ·exact List.prefix_append _ _
theorem znl (i:Nat) (w:List Int) (es:List (Int × T)):∀acc:List (Qb T),acc <+: es.foldl (stB i w) acc:=by
 induction es with
 | nil=>intro acc;exact List.prefix_refl _
 | cons e es ih=>intro acc;exact (stB_pre i w acc e).trans (ih _)
theorem zfu {S:Sch T} {i:Nat} {q:Qb T} (h:(zc2 S i)[i]?=some q):zc2 S (i+1)=rdB S i q (zc2 S i):=by
 show (match (zc2 S i)[i]? with | some q=>rdB S i q (zc2 S i) | none=>zc2 S i)=_;rw [h]
theorem zhw {S:Sch T} {i:Nat} (h:(zc2 S i)[i]?=none):zc2 S (i+1)=zc2 S i:=by
 show (match (zc2 S i)[i]? with | some q=>rdB S i q (zc2 S i) | none=>zc2 S i)=_;rw [h]
theorem zgj (S:Sch T) (i:Nat):zc2 S i <+: zc2 S (i+1):=by
 cases h:(zc2 S i)[i]? with
 | none=>rw [zhw h];exact List.prefix_refl _
 | some q=>rw [zfu h];exact znl _ _ _ _
theorem zmd (S:Sch T) {i j:Nat} (h:i≤j):zc2 S i <+: zc2 S j:=by
 obtain ⟨d,rfl⟩:∃d,j=i+d:=⟨j-i,by omega⟩;clear h
 induction d with
 | zero=>exact List.prefix_refl _
 | succ d ih=>exact ih.trans (zgj S (i+d))
theorem accB_stop {S:Sch T} {i:Nat} (h:(zc2 S i)[i]?=none):∀d,zc2 S (i+d)=zc2 S i
 | 0=>rfl
 | d+1=>by
  have ih:=accB_stop h d;have:(zc2 S (i+d))[i+d]?=none:=by
   rw [ih];rw [List.getElem?_eq_none_iff] at h ⊢;omega
  rw [← Nat.add_assoc,zhw this,ih]
structure GoodB (S:Sch T) (acc:List (Qb T)):Prop where
 nd:(acc.map (·.1)).Nodup
 par:∀j q,acc[j]?=some q→(j=0∧q=(S.start, -1,0,[]))∨∃p q',q.2.1=((p:Nat):Int)∧p<j∧acc[p]?=some q'∧q.2.2.2=q'.2.2.2++[q.2.2.1]∧(q.2.2.1,q.1)∈S.ways q'.1
theorem stB_good {S:Sch T} {i:Nat} {q0:Qb T} {acc:List (Qb T)} {e:Int × T} (h:GoodB S acc) (hi:acc[i]?=some q0) (he:e∈S.ways q0.1):GoodB S (stB i q0.2.2.2 acc e):=by
 unfold stB;split
 ·exact h
 ·rename_i hno
  have hni:e.2 ∉ acc.map (·.1):=fun hm=>by
   obtain ⟨q,hq,he⟩:=List.mem_map.1 hm;exact hno (zl9.2 ⟨q,hq,he⟩)
  have hil:i<acc.length:=(List.getElem?_eq_some_iff.1 hi).1;refine ⟨?_, ?_⟩
  ·rw [List.map_append,List.nodup_append];exact ⟨h.nd,by simp,fun a ha b hb e=>by simp at hb;subst hb;subst e;exact hni ha⟩
  ·intro j q hj
   by_cases hjl:j<acc.length
   ·rw [List.getElem?_append_left hjl] at hj;rcases h.par j q hj with h1 | ⟨p,q',h1,h2,h3,h4⟩
    ·exact .inl h1
    ·exact .inr ⟨p,q',h1,h2,zeb (List.prefix_append _ _) h3,h4⟩
   ·have hjl':=(List.getElem?_eq_some_iff.1 hj).1;simp at hjl';have:j=acc.length:=by omega
    subst this;rw [List.getElem?_append_right (Nat.le_refl _)] at hj;simp at hj;subst hj;exact .inr ⟨i,q0,rfl,hil,zeb (List.prefix_append _ _) hi,rfl,he⟩
theorem foldB_good {S:Sch T} {i:Nat} {q0:Qb T} {es:List (Int × T)} (hes:∀e∈es,e∈S.ways q0.1):∀acc:List (Qb T),GoodB S acc→acc[i]?=some q0→GoodB S (es.foldl (stB i q0.2.2.2) acc):=by
 induction es with
 | nil=>intro acc h _;exact h
 | cons e es ih=>
  intro acc h hi;exact ih (fun e he=>hes e (by simp [he])) _ (stB_good h hi (hes e (by simp))) (zeb (stB_pre _ _ _ _) hi)
theorem ziu (S:Sch T):∀i,GoodB S (zc2 S i)
 | 0=>⟨by simp [zc2],fun j q hj=>by
   cases j with
   | zero=>simp [zc2] at hj;subst hj;exact .inl ⟨rfl,rfl⟩
   | succ j=>simp [zc2] at hj⟩
 | i+1=>by
  have ih:=ziu S i;cases hi:(zc2 S i)[i]? with
  | none=>rw [zhw hi];exact ih
  | some q=>rw [zfu hi];exact foldB_good (fun e he=>he) _ ih hi
omit [DecidableEq T] in
theorem GoodB.wlen {S:Sch T} {acc:List (Qb T)} (h:GoodB S acc):∀(j:Nat) (q:Qb T),acc[j]?=some q→q.2.2.2.length≤j:=by
 intro j
 induction j using Nat.strongRecOn with
 | ind j ih=>
  intro q hq
  rcases h.par j q hq with ⟨_,rfl⟩ | ⟨p,q',_,h2,h3,h4,_⟩
  ·simp
  ·have:=ih p h2 q' h3
   rw [h4];simp;omega
theorem stB_len (i:Nat) (w:List Int) (acc:List (Qb T)) (e:Int × T):(stB i w acc e).length≤acc.length+1:=by
 unfold stB;split <;> simp
theorem znm (i:Nat) (w:List Int):∀(es:List (Int × T)) (acc:List (Qb T)),(es.foldl (stB i w) acc).length≤acc.length+es.length
 | [],acc=>Nat.le_refl _
 | e::es,acc=>by
  have h1:=znm i w es (stB i w acc e);have h2:=stB_len i w acc e;rw [List.foldl_cons,List.length_cons];omega
def zjy (S:Sch T) (b:Int):Nat→Nat→Int × List Int × Int × Option T
 | 0,i=>(1,[],((zc2 S i).length:Int),none)
 | f+1,i=>match (zc2 S i)[i]? with
  | none=>(1,[],((zc2 S i).length:Int),none)
  | some q=>if b≤(i:Int) then (3,[],max b 0,none) else if S.hit q.1=true then (2,q.2.2.2,(i:Int)+1,some q.1) else zjy S b f (i+1)
def zee (S:Sch T) (b:Int):Int × List Int × Int × Option T:=zjy S b (b.toNat+1) 0
inductive OutB (S:Sch T) (b:Int):Int × List Int × Int × Option T→Prop
 | yes (i:Nat) (hb:(i:Int)≤b∨i=0∧b≤0) (h:(zc2 S i)[i]?=none) (hno:∀j q,j<i→(zc2 S i)[j]?=some q→S.hit q.1=false):OutB S b (1,[],((zc2 S i).length:Int),none)
 | no (i:Nat) (q:Qb T) (hb:(i:Int)<b) (h:(zc2 S i)[i]?=some q) (hh:S.hit q.1=true) (hno:∀j q,j<i→(zc2 S i)[j]?=some q→S.hit q.1=false):OutB S b (2,q.2.2.2,(i:Int)+1,some q.1)
 | limit (hl:∃q,(zc2 S b.toNat)[b.toNat]?=some q) (hno:∀j q,j<b.toNat→(zc2 S b.toNat)[j]?=some q→S.hit q.1=false):OutB S b (3,[],max b 0,none)
theorem verdB_out (S:Sch T) (b:Int):∀(f i:Nat),f+i=b.toNat+1→i≤b.toNat→(∀j q,j<i→(zc2 S i)[j]?=some q→S.hit q.1=false)→OutB S b (zjy S b f i)
 | 0,i,h1,h2,_=>by omega
 | f+1,i,h1,h2,hno=>by
  unfold zjy;cases hq:(zc2 S i)[i]? with
  | none=>exact .yes i (by omega) hq hno
  | some q=>
   simp only
   by_cases hb:b≤(i:Int)
   ·rw [if_pos hb];have:i=b.toNat:=by omega
    subst this;exact .limit ⟨q,hq⟩ hno
   ·rw [if_neg hb]
    by_cases hh:S.hit q.1=true
    ·rw [if_pos hh];exact .no i q (by omega) hq hh hno
    ·rw [if_neg hh];refine verdB_out S b f (i+1) (by omega) (by omega) fun j q' hj hq'=>?_
     by_cases hji:j=i
     ·subst hji;rw [zeb (zgj S j) hq] at hq';cases hq';simpa using hh
     ·have hlt:i<(zc2 S i).length:=(List.getElem?_eq_some_iff.1 hq).1;obtain ⟨x,hx⟩:∃x,(zc2 S i)[j]?=some x:=⟨_,List.getElem?_eq_getElem (show j<(zc2 S i).length by omega)⟩;rw [zeb (zgj S i) hx] at hq';cases hq';exact hno j _ (by omega) hx
theorem zml (S:Sch T) (b:Int):OutB S b (zee S b):=verdB_out S b _ 0 (by omega) (by omega) fun j q h=>by omega
theorem accB_at {S:Sch T} {i j:Nat} (hij:i≤j):(zc2 S j)[i]?=(zc2 S i)[i]?:=by
 cases h:(zc2 S i)[i]? with
 | some q=>exact zeb (zmd S hij) h
 | none=>
  have:=accB_stop h (j-i);rw [show i+(j-i)=j by omega] at this;rw [this,h]
theorem OutB.made {S:Sch T} {b:Int} {v:Int × List Int × Int × Option T} (hb:0≤b) (h:OutB S b v):v.2.2.1≤b:=by
 cases h with
 | yes i hb' h hno=>
  have:=List.getElem?_eq_none_iff.1 h;simp only;omega
 | no i q hb' h hh hno=>simp only;omega
 | limit _ _=>simp only;omega
inductive Rn (step:T→Int→T→Prop) (s0:T):List Int→T→Prop
 | nil:Rn step s0 [] s0
 | snoc {w:List Int} {x:T} {c:Int} {y:T} (h:Rn step s0 w x) (hs:step x c y):Rn step s0 (w++[c]) y
theorem accB_rn {S:Sch T} {step:T→Int→T→Prop} (hs:∀x c y,(c,y)∈S.ways x→step x c y) (i:Nat):∀(j:Nat) (q:Qb T),(zc2 S i)[j]?=some q→Rn step S.start q.2.2.2 q.1:=by
 intro j
 induction j using Nat.strongRecOn with
 | ind j ih=>
  intro q hq;rcases (ziu S i).par j q hq with ⟨_,rfl⟩ | ⟨p,q',_,h2,h3,h4,h5⟩
  ·exact .nil
  ·rw [h4];exact .snoc (ih p h2 q' h3) (hs _ _ _ h5)
theorem stB_mem {i:Nat} {w:List Int} {acc:List (Qb T)} {e:Int × T}:∀q∈stB i w acc e,q∈acc∨q=(e.2,(i:Int),e.1,w++[e.1]):=fun q hq=>by
 unfold stB at hq;split at hq
 ·exact .inl hq
 ·exact (List.mem_append.1 hq).imp id fun h=>List.mem_singleton.1 h
theorem foldB_mem {i:Nat} {w:List Int}:∀(es:List (Int × T)) (acc:List (Qb T)),∀q∈es.foldl (stB i w) acc,q∈acc∨∃e∈es,q=(e.2,(i:Int),e.1,w++[e.1])
 | [],acc,q,hq=>.inl hq
 | e::es,acc,q,hq=>by
  rcases foldB_mem es _ q hq with h | ⟨e',h1,h2⟩
  ·rcases stB_mem q h with h | h
   ·exact .inl h
   ·exact .inr ⟨e,by simp,h⟩
  ·exact .inr ⟨e',by simp [h1],h2⟩
theorem zkt (S:Sch T):∀(i:Nat),∀q∈zc2 S i,q=(S.start, -1,0,[])∨∃(p:Nat) (q':Qb T),p<i∧(zc2 S i)[p]?=some q'∧q.2.2.2=q'.2.2.2++[q.2.2.1]∧(q.2.2.1,q.1)∈S.ways q'.1
 | 0,q,hq=>.inl (by simpa [zc2] using hq)
 | i+1,q,hq=>by
  have lift:(q=(S.start, -1,0,[])∨∃(p:Nat) (q':Qb T),p<i∧(zc2 S i)[p]?=some q'∧q.2.2.2=q'.2.2.2++[q.2.2.1]∧(q.2.2.1,q.1)∈S.ways q'.1)→(q=(S.start, -1,0,[])∨∃(p:Nat) (q':Qb T),p<i+1∧(zc2 S (i+1))[p]?=some q'∧q.2.2.2=q'.2.2.2++[q.2.2.1]∧(q.2.2.1,q.1)∈S.ways q'.1):=fun h=>h.imp id fun ⟨p,q',h1,h2,h3⟩=>⟨p,q',by omega,zeb (zgj S i) h2,h3⟩;cases hi:(zc2 S i)[i]? with
  | none=>
   rw [zhw hi] at hq;exact lift (zkt S i q hq)
  | some q0=>
   have hq':=hq;rw [zfu hi] at hq';rcases foldB_mem _ _ q hq' with h | ⟨e,h1,h2⟩
   ·exact lift (zkt S i q h)
   ·exact .inr ⟨i,q0,by omega,zeb (zgj S i) hi,by rw [h2],by rw [h2];exact h1⟩
end
end Go.Proofs.YtbojklnokglbhaaGreatDoor.V
namespace Go.Proofs.YtbojklnokglbhaaGreatDoor.V
open Go
set_option linter.unusedVariables false
def ltL:List Int→List Int→Prop
 | a::u,b::v=>a<b∨(a=b∧ltL u v)
 | _,_=>False
theorem ltL_trans:∀{u v w:List Int},ltL u v→ltL v w→ltL u w
 | [],_,_,h,_=>h.elim
 | _::_,[],_,h,_=>h.elim
 | _::_,_::_,[],_,k=>k.elim
 | a::u,b::v,c::w,h,k=>by
  rcases h with h | ⟨h1,h2⟩
  ·rcases k with k | ⟨k1,k2⟩
   ·exact .inl (by omega)
   ·exact .inl (by omega)
  ·rcases k with k | ⟨k1,k2⟩
   ·exact .inl (by omega)
   ·exact .inr ⟨by omega,ltL_trans h2 k2⟩
theorem ltL_app (c d:Int):∀{u v:List Int},ltL u v→ltL (u++[c]) (v++[d])
 | [],_,h=>h.elim
 | _::_,[],h=>h.elim
 | a::u,b::v,h=>h.imp id fun h=>⟨h.1,ltL_app c d h.2⟩
theorem ltL_last {c d:Int} (h:c<d):∀u:List Int,ltL (u++[c]) (u++[d])
 | []=>.inl h
 | a::u=>.inr ⟨rfl,ltL_last h u⟩
def sls (u v:List Int):Prop:=u.length<v.length∨(u.length=v.length∧ltL u v)
def sle (u v:List Int):Prop:=u=v∨sls u v
theorem zmr {u v w:List Int} (h:sls u v) (k:sls v w):sls u w:=by
 rcases h with h | ⟨h1,h2⟩ <;> rcases k with k | ⟨k1,k2⟩
 ·exact .inl (by omega)
 ·exact .inl (by omega)
 ·exact .inl (by omega)
 ·exact .inr ⟨by omega,ltL_trans h2 k2⟩
theorem sle_sls {u v w:List Int} (h:sle u v) (k:sls v w):sls u w:=h.elim (fun e=>by rw [e];exact k) fun h=>zmr h k
theorem sls_sle {u v w:List Int} (h:sls u v) (k:sle v w):sls u w:=k.elim (fun e=>by rw [← e];exact h) fun k=>zmr h k
theorem sle_trans {u v w:List Int} (h:sle u v) (k:sle v w):sle u w:=h.elim (fun e=>by rw [e];exact k) fun h=>.inr (sls_sle h k)
theorem sls_app {u v:List Int} (c d:Int) (h:sls u v):sls (u++[c]) (v++[d]):=h.imp (fun h=>by simp;omega) fun h=>⟨by simp;omega,ltL_app c d h.2⟩
theorem sls_last (u:List Int) {c d:Int} (h:c<d):sls (u++[c]) (u++[d]):=.inr ⟨by simp,ltL_last h u⟩
theorem sle_app {u v:List Int} {c d:Int} (h:sle u v) (hc:c≤d):sle (u++[c]) (v++[d]):=by
 rcases h with rfl | h
 ·rcases Int.lt_or_eq_of_le hc with h | rfl
  ·exact .inr (sls_last u h)
  ·exact .inl rfl
 ·exact .inr (sls_app c d h)
theorem sls_more (u:List Int) (c:Int):sls u (u++[c]):=.inl (by simp)
section
variable {T : Type} [DecidableEq T]
def Ris (acc:List (Qb T)):Prop:=∀(j m:Nat) (q q':Qb T),j<m→acc[j]?=some q→acc[m]?=some q'→sls q.2.2.2 q'.2.2.2
theorem stB_ris {i:Nat} {w:List Int} {acc:List (Qb T)} {e:Int × T} (h:Ris acc) (h2:∀q∈acc,sls q.2.2.2 (w++[e.1])):Ris (stB i w acc e):=fun j m q q' hjm hq hq'=>by
 unfold stB at hq hq';split at hq
 ·rename_i hh
  rw [if_pos hh] at hq';exact h j m q q' hjm hq hq'
 ·rename_i hh
  rw [if_neg hh] at hq';have hml:=(List.getElem?_eq_some_iff.1 hq').1;simp at hml;have hj:j<acc.length:=by omega
  rw [List.getElem?_append_left hj] at hq
  by_cases hm:m<acc.length
  ·rw [List.getElem?_append_left hm] at hq';exact h j m q q' hjm hq hq'
  ·have em:m=acc.length:=by omega
   subst em;rw [List.getElem?_append_right (Nat.le_refl _)] at hq';simp at hq';subst hq';exact h2 q (List.mem_of_getElem? hq)
theorem znk {i:Nat} {w:List Int}:∀(es:List (Int × T)) (acc:List (Qb T)),es.Pairwise (fun a b=>a.1<b.1)→Ris acc→(∀q∈acc,∀e∈es,sls q.2.2.2 (w++[e.1])) →
  Ris (es.foldl (stB i w) acc)∧∀e∈es,∃q'∈es.foldl (stB i w) acc,q'.1=e.2∧sle q'.2.2.2 (w++[e.1])
 | [],acc,_,h,_=>⟨h,fun e h=>by cases h⟩
 | e::es,acc,hp,h,h2=>by
  rw [List.pairwise_cons] at hp;have h3:=stB_ris (i:=i) h fun q hq=>h2 q hq e (by simp);obtain ⟨k1,k2⟩:=znk (i:=i) es (stB i w acc e) hp.2 h3 fun q hq e' he'=>by
   rcases stB_mem q hq with hq | hq
   ·exact h2 q hq e' (by simp [he'])
   ·rw [hq];exact sls_last w (hp.1 e' he')
  refine ⟨k1,fun e' he'=>?_⟩;rcases List.mem_cons.1 he' with rfl | he'
  ·cases hh:hasQ acc e'.2
   ·refine ⟨(e'.2,(i:Int),e'.1,w++[e'.1]),(znl i w es _).subset ?_,rfl,.inl rfl⟩;unfold stB;rw [hh];simp
   ·obtain ⟨q',a,b⟩:=zl9.1 hh;refine ⟨q',(znl i w es _).subset ((stB_pre i w acc e').subset a),b,.inr (h2 q' a e' (by simp))⟩
  ·exact k2 e' he'
theorem zq6 {S:Sch T}:∀(i:Nat),(∀(j:Nat) (q:Qb T),j<i→(zc2 S i)[j]?=some q→(S.ways q.1).Pairwise (fun a b=>a.1<b.1))→Ris (zc2 S i)
 | 0,_=>fun j m q q' hjm hq hq'=>by
  have:=(List.getElem?_eq_some_iff.1 hq').1;simp [zc2] at this;omega
 | i+1,hst=>by
  have ih:=zq6 i fun j q hj hq=>hst j q (by omega) (zeb (zgj S i) hq);cases hi:(zc2 S i)[i]? with
  | none=>rw [zhw hi];exact ih
  | some q0=>
   have hw:=hst i q0 (by omega) (zeb (zgj S i) hi);rw [zfu hi];refine (znk _ _ hw ih fun q hq e he=>?_).1;rcases zkt S i q hq with h | ⟨p,q',h1,h2,h3,_⟩
   ·rw [h];exact .inl (by simp)
   ·rw [h3];exact sls_app _ _ (ih p i q' q0 h1 h2 hi)
theorem accB_least {S:Sch T} {i j:Nat} {q:Qb T} (hst:∀(j:Nat) (q:Qb T),j<i→(zc2 S i)[j]?=some q→(S.ways q.1).Pairwise (fun a b=>a.1<b.1)) (hj:j<i) (hq:(zc2 S i)[j]?=some q) {e:Int × T} (he:e∈S.ways q.1):
  ∃(m:Nat) (q':Qb T),(zc2 S i)[m]?=some q'∧q'.1=e.2∧sle q'.2.2.2 (q.2.2.2++[e.1]):=by
 have hq0:(zc2 S j)[j]?=some q:=by rw [← accB_at (Nat.le_of_lt hj)];exact hq
 have hst':∀(k:Nat) (q:Qb T),k<j→(zc2 S j)[k]?=some q→(S.ways q.1).Pairwise (fun a b=>a.1<b.1):=fun k q hk h=>hst k q (by omega) (zeb (zmd S (Nat.le_of_lt hj)) h);have ih:=zq6 j hst';have h1:=(znk (i:=j) (w:=q.2.2.2) (S.ways q.1) (zc2 S j) (hst j q hj hq) ih fun q' hq' e' he'=>by
  rcases zkt S j q' hq' with h | ⟨p,q2,k1,k2,k3,_⟩
  ·rw [h];exact .inl (by simp)
  ·rw [k3];exact sls_app _ _ (ih p j q2 q k1 k2 hq0)).2 e he
 obtain ⟨q',a,b,c⟩:=h1;have e1:zc2 S (j+1)=(S.ways q.1).foldl (stB j q.2.2.2) (zc2 S j):=zfu hq0;rw [← e1] at a;obtain ⟨m,hm⟩:=List.getElem?_of_mem a;exact ⟨m,q',zeb (zmd S hj) hm,b,c⟩
theorem cov_least {S:Sch T} {step:T→Int→T→Prop} {B:Int→Prop} {i:Nat} (hst:∀(j:Nat) (q:Qb T),j<i→(zc2 S i)[j]?=some q→(S.ways q.1).Pairwise (fun a b=>a.1<b.1))
  (hc:∀q∈zc2 S i,∀c y,B c→step q.1 c y→∃b,b≤c∧(b,y)∈S.ways q.1) {w:List Int} {y:T} (h:Rn step S.start w y) (hw:∀c∈w,B c):
  (∃(m:Nat) (q:Qb T),(zc2 S i)[m]?=some q∧q.1=y∧sle q.2.2.2 w)∨∃(k:Nat) (q:Qb T),i≤k∧(zc2 S i)[k]?=some q∧sls q.2.2.2 w:=by
 induction h with
 | nil=>
  left;have:(zc2 S 0)[0]?=some (S.start, -1,0,[]):=rfl;exact ⟨0,_,zeb (zmd S (Nat.zero_le i)) this,rfl,.inl rfl⟩
 | snoc h hs ih=>
  rename_i w x c y
  rcases ih fun c hc=>hw c (by simp [hc]) with ⟨m,q,h1,h2,h3⟩ | ⟨k,q,h1,h2,h3⟩
  ·by_cases hm:m<i
   ·rw [← h2] at hs;obtain ⟨b,hb1,hb⟩:=hc q (List.mem_of_getElem? h1) c y (hw c (by simp)) hs;obtain ⟨m',q',k1,k2,k3⟩:=accB_least hst hm h1 hb;exact .inl ⟨m',q',k1,k2,sle_trans k3 (sle_app h3 hb1)⟩
   ·exact .inr ⟨m,q,by omega,h1,sle_sls h3 (sls_more w c)⟩
  ·exact .inr ⟨k,q,h1,h2,zmr h3 (sls_more w c)⟩
theorem OutB.least {S:Sch T} {step:T→Int→T→Prop} {B:Int→Prop} {b:Int} {v:Int × List Int × Int × Option T} (h:OutB S b v) (hs:∀x c y,(c,y)∈S.ways x→step x c y)
  (hst:∀i:Nat,(i:Int)≤b∨i=0→∀q∈zc2 S i,(S.ways q.1).Pairwise (fun a b=>a.1<b.1))
  (hc:∀i:Nat,(i:Int)≤b∨i=0→∀q∈zc2 S i,∀c y,B c→step q.1 c y→∃d,d≤c∧(d,y)∈S.ways q.1):
  (v.1=1→v.2.1=[]∧∀w y,(∀c∈w,B c)→Rn step S.start w y→S.hit y=false)∧(v.1=2→∃x,v.2.2.2=some x∧S.hit x=true∧Rn step S.start v.2.1 x∧∀w y,(∀c∈w,B c)→Rn step S.start w y→S.hit y=true→sle v.2.1 w)∧(v.1=1∨v.1=2∨v.1=3):=by
 cases h with
 | limit _ _=>exact ⟨(fun h=>by simp at h),(fun h=>by simp at h),.inr (.inr rfl)⟩
 | yes i hb h hno=>
  have hst':∀(j:Nat) (q:Qb T),j<i→(zc2 S i)[j]?=some q→(S.ways q.1).Pairwise (fun a b=>a.1<b.1):=fun j q _ hq=>hst i (by omega) q (List.mem_of_getElem? hq);refine ⟨fun _=>⟨rfl,fun w y hw hr=>?_⟩,(fun h=>by simp at h),.inl rfl⟩;have hl:=List.getElem?_eq_none_iff.1 h;rcases cov_least hst' (hc i (by omega)) hr hw with ⟨m,q,h1,h2,_⟩ | ⟨k,q,h1,h2,_⟩
  ·have:=(List.getElem?_eq_some_iff.1 h1).1;rw [← h2];exact hno m q (by omega) h1
  ·have:=(List.getElem?_eq_some_iff.1 h2).1;omega
 | no i q hb h hh hno=>
  have hst':∀(j:Nat) (q:Qb T),j<i→(zc2 S i)[j]?=some q→(S.ways q.1).Pairwise (fun a b=>a.1<b.1):=fun j q _ hq=>hst i (by omega) q (List.mem_of_getElem? hq);have hris:=zq6 i hst';have hle:∀m q',i≤m→(zc2 S i)[m]?=some q'→sle q.2.2.2 q'.2.2.2:=fun m q' him hq'=>by
   rcases Nat.lt_or_eq_of_le him with h1 | h1
   ·exact .inr (hris i m q q' h1 h hq')
   ·subst h1;rw [h] at hq';cases hq';exact .inl rfl
  refine ⟨(fun h=>by simp at h),fun _=>⟨q.1,rfl,hh,accB_rn hs i i q h,fun w y hw hr hy=>?_⟩,.inr (.inl rfl)⟩;rcases cov_least hst' (hc i (by omega)) hr hw with ⟨m,q',h1,h2,h3⟩ | ⟨k,q',h1,h2,h3⟩
  ·have hm:i≤m:=by
    rcases Nat.lt_or_ge m i with hm | hm
    ·have:=hno m q' hm h1;rw [h2,hy] at this;cases this
    ·exact hm
   exact sle_trans (hle m q' hm h1) h3
  ·exact .inr (sle_sls (hle k q' h1 h2) h3)
end
end Go.Proofs.YtbojklnokglbhaaGreatDoor.V
namespace Go.Proofs.YtbojklnokglbhaaGreatDoor.V
open Go
set_option linter.unusedVariables false
abbrev TS:=List (List SItem)
structure Rm (d:List SNode) (l:TS):Prop where
 sm:∀s∈l,Sm d s
 len:l.length≤1000000000
 cls:(zjw d l).length≤1000000000000
 on:∀c,InR .u8 c→Room d c l
 out:∀c,InR .u8 c→(onS d c l).length≤1000000000
theorem pas_24_10:pas 24 10≤1000000000:=pas_le (by decide +kernel)
theorem pas_17_9:pas 17 9≤4000000:=pas_le (by decide +kernel)
theorem rm_of {d:List SNode} (h:Rt d) (hl:d.length≤24) (ht:Txt d) {w:List Int} (hw:∀c∈w,InR .u8 c) (hwl:w.length≤9) (l1:(zeo d w).length≤4000000):Rm d (zeo d w):=by
 have p10:pas d.length (w.length+1)≤1000000000:=zp9 (m':=24) (k':=10) (by omega) (by omega) pas_24_10;refine ⟨fun s hs=>(zfy h (by omega) ht hw hs).1,by omega, ?_,fun c hc=>room_after h (by omega) ht hw hc (by omega),fun c hc=>?_⟩
 ·have h1:=zq0 h (m:=24) (zeo d w) fun s hs=>(zfy h (by omega) ht hw hs).2;have h2:256*(24*(d.length+1)+1)*(zeo d w).length≤256*(24*25+1)*4000000:=Nat.mul_le_mul (by omega) (by omega);omega
 ·have hw2:∀b∈w++[c],InR .u8 b:=fun b hb=>(List.mem_append.1 hb).elim (hw b) fun e=>by rw [List.mem_singleton.1 e];exact hc
  have:=zq4 h hw2;rw [zdt,List.length_append,List.length_singleton] at this;omega
theorem rm_heavy {d:List SNode} (h:Rt d) (hl:d.length≤17) (ht:Txt d) {w:List Int} (hw:∀c∈w,InR .u8 c) (hwl:w.length≤9):Rm d (zeo d w):=
 rm_of h (by omega) ht hw hwl (Nat.le_trans (zq4 h hw) (zp9 (m':=17) (k':=9) (by omega) (by omega) pas_17_9))
theorem rm_light {d:List SNode} (h:Rt d) (hl:d.length≤24) (ht:Txt d) (hn:NoFr d) (hs:szN d d.length ((d.length:Int)-1)≤1000) {w:List Int} (hw:∀c∈w,InR .u8 c):Rm d (zeo d w):=by
 obtain ⟨K,k1,k2⟩:=aftS_all h hn;have l1:=aftS_few h hn w;refine ⟨fun s hs=>(zfy h hl ht hw hs).1,by omega, ?_,fun c hc=>⟨fun s hs=>(zfy h hl ht hw hs).1,by omega,K,by omega,fun s hs t hts=>k2 (w++[c]) t ?_⟩,fun c hc=>?_⟩
 ·have h1:=zq0 h (m:=24) (zeo d w) fun s hs=>(zfy h hl ht hw hs).2;have h2:256*(24*(d.length+1)+1)*(zeo d w).length≤256*(24*25+1)*1001:=Nat.mul_le_mul (by omega) (by omega);omega
 ·rw [zdt,zk6];exact ⟨s,hs,hts⟩
 ·have:=aftS_few h hn (w++[c]);rw [zdt] at this;omega
def Lk (d:List SNode) (b:Int):Prop:=∀w,(∀c∈w,InR .u8 c)→(w.length:Int)<b∨w.length≤9→Rm d (zeo d w)
theorem zqj {d:List SNode} (h:Rt d) (hl:d.length≤24) (ht:Txt d) (hn:NoFr d) (hs:szN d d.length ((d.length:Int)-1)≤1000) (b:Int):Lk d b:=fun w hw _=>rm_light h hl ht hn hs hw
theorem zi5 {d:List SNode} (h:Rt d) (hl:d.length≤17) (ht:Txt d) {b:Int} (hb:b≤10):Lk d b:=fun w hw hwl=>rm_heavy h hl ht hw (by omega)
theorem rm_nil {d:List SNode} (l:TS) (h:Rm d l):Rm d []:=⟨(fun s hs=>by cases hs),by simp,by simp [zjw],(fun c hc=>⟨(fun s hs=>by cases hs),by simp,[],by simp,fun s hs=>by cases hs⟩),fun c hc=>by simp [onS,zjm]⟩
def zf1 (l:List Int) (x:Int):Int:=if 0≤x∧x<(l.length:Int) then (at? l x).getD 0 else 0
def zol (e:SNode) (a b:Int):Int:=if e.1=7 then (1+max 0 (min e.2.2.2.2.1 1000))*a else if e.1=6∨e.1=8∨e.1=9 then a+1 else if e.1=4∨e.1=5 then a+b else if e.1=3 then 1+min (e.2.2.2.2.2.2.length:Int) 1000 else 1
def wl (d:List SNode):Nat→List Int
 | 0=>[]
 | i+1=>match d[i]? with
  | none=>wl d i
  | some e=>wl d i++[min (zol e (zf1 (wl d i) e.2.1) (zf1 (wl d i) e.2.2.1)) 1000]
theorem zky {d:List SNode} {i:Nat} (hi:i<d.length):wl d (i+1)=wl d i++[min (zol d[i] (zf1 (wl d i) d[i].2.1) (zf1 (wl d i) d[i].2.2.1)) 1000]:=by
 show (match d[i]? with | none=>wl d i | some e=>wl d i++[min (zol e (zf1 (wl d i) e.2.1) (zf1 (wl d i) e.2.2.1)) 1000])=_;rw [List.getElem?_eq_getElem hi]
theorem zok {d:List SNode}:∀{i:Nat},i≤d.length→(wl d i).length=i
 | 0,_=>rfl
 | i+1,h=>by rw [zky (by omega),List.length_append,zok (by omega)];rfl
theorem mul_few {x a:Int} (hx:0≤x∧x≤1001) (ha:0≤a∧a≤1000):0≤x*a∧x*a≤1001000:=by
 refine ⟨Int.mul_nonneg hx.1 ha.1, ?_⟩;have:=Int.mul_le_mul hx.2 ha.2 ha.1 (by omega);omega
theorem wgt1_ok {e:SNode} {a b:Int} (ha:0≤a∧a≤1000) (hb:0≤b∧b≤1000):0≤zol e a b:=by
 unfold zol;split
 ·exact (mul_few (by omega) ha).1
 ·split
  ·omega
  ·split
   ·omega
   ·split <;> omega
theorem zij {l:List Int} (h:∀x∈l,0≤x∧x≤1000) (x:Int):0≤zf1 l x∧zf1 l x≤1000:=by
 unfold zf1;split
 ·rename_i hx
  obtain ⟨y,hy,hm⟩:=zl0 hx.1 hx.2;rw [hy];exact h y hm
 ·omega
theorem wl_ok {d:List SNode}:∀{i:Nat},i≤d.length→∀x∈wl d i,0≤x∧x≤1000
 | 0,_,x,hx=>by cases hx
 | i+1,h,x,hx=>by
  have ih:=wl_ok (d:=d) (i:=i) (by omega);rw [zky (by omega)] at hx;rcases List.mem_append.1 hx with hx | hx
  ·exact ih x hx
  ·rw [List.mem_singleton.1 hx];have:=wgt1_ok (e:=d[i]) (zij ih d[i].2.1) (zij ih d[i].2.2.1);omega
theorem w7 {L1:List Int→Int→Prop} {l:List Int} {i:Int} {e:SNode} {a:Int} (hl:l.length≤1000) (hi:0≤i∧i≤1000) (ha:0≤a∧a≤1000) (hb:0≤zf1 l e.2.2.1∧zf1 l e.2.2.1≤1000) (h:L1 (l++[min (zol e a (zf1 l e.2.2.1)) 1000]) (i+1)):zk.j7 L1 l i e a:=by
 have e2:∀w,w=zol e a (zf1 l e.2.2.1)→zk.j2 L1 l i w:=fun w hw=>by
  subst hw;exact ⟨by simp;omega,zi (by omega) (by omega),h⟩
 have e3:∀w,e.1=7∨w=zol e a (zf1 l e.2.2.1)→zk.j3 L1 l i e a w:=fun w hw=>by
  refine ⟨fun h7=>?_,fun h7=>e2 w (hw.resolve_left (by simpa using h7))⟩;have h7:e.1=7:=by simpa using h7
  have:=mul_few (x:=1+max 0 (min e.2.2.2.2.1 1000)) (by omega) ha;exact ⟨zi (by omega) (by omega),zi (by omega) (by omega),e2 _ (by unfold zol;rw [if_pos h7])⟩
 have e4:∀w,e.1=7∨(e.1=6∨e.1=8∨e.1=9)∨w=zol e a (zf1 l e.2.2.1)→zk.j4 L1 l i e a w:=fun w hw=>by
  refine ⟨fun h6=>⟨zi (by omega) (by omega),e3 _ ?_⟩,fun h6=>e3 w ?_⟩
  ·have h6:e.1=6∨e.1=8∨e.1=9:=by simpa [or_assoc] using h6
   refine .inr ?_;unfold zol;rw [if_neg (by omega),if_pos h6]
  ·have h6:¬ (e.1=6∨e.1=8∨e.1=9):=by simpa [or_assoc,and_assoc] using h6
   exact hw.imp id fun h=>h.resolve_left h6
 have e5:∀w,e.1=7∨(e.1=6∨e.1=8∨e.1=9)∨(e.1=4∨e.1=5)∨w=zol e a (zf1 l e.2.2.1)→zk.j5 L1 l i e a (zf1 l e.2.2.1) w:=fun w hw=>by
  refine ⟨fun h4=>⟨zi (by omega) (by omega),e4 _ ?_⟩,fun h4=>e4 w ?_⟩
  ·have h4:e.1=4∨e.1=5:=by simpa using h4
   refine .inr (.inr ?_);unfold zol;rw [if_neg (by omega),if_neg (by omega),if_pos h4]
  ·have h4:¬ (e.1=4∨e.1=5):=by simpa using h4
   exact hw.imp id fun h=>h.imp id fun h=>h.resolve_left h4
 have e6:zk.j6 L1 l i e a (zf1 l e.2.2.1):=by
  refine ⟨fun h3=>⟨zi (by omega) (by omega),e5 _ ?_⟩,fun h3=>e5 1 ?_⟩
  ·have h3:e.1=3:=by simpa using h3
   refine .inr (.inr (.inr ?_));unfold zol;rw [if_neg (by omega),if_neg (by omega),if_neg (by omega),if_pos h3]
  ·have h3:¬ e.1=3:=by simpa using h3
   by_cases k7:e.1=7
   ·exact .inl k7
   by_cases k6:e.1=6∨e.1=8∨e.1=9
   ·exact .inr (.inl k6)
   by_cases k4:e.1=4∨e.1=5
   ·exact .inr (.inr (.inl k4))
   refine .inr (.inr (.inr ?_));unfold zol;rw [if_neg k7,if_neg k6,if_neg k4,if_neg h3]
 refine ⟨_,rfl,fun hc=>?_,fun hc=>?_⟩
 ·simp only [Bool.and_eq_true,decide_eq_true_eq] at hc;obtain ⟨y,hy,_⟩:=zl0 hc.1 hc.2;have:zf1 l e.2.2.1=y:=by unfold zf1;rw [if_pos hc,hy];rfl
  rw [this] at e6;exact ⟨y,hy,e6⟩
 ·have:zf1 l e.2.2.1=0:=by
   unfold zf1;rw [if_neg];simp only [Bool.and_eq_false_iff,decide_eq_false_iff_not] at hc;omega
  rw [this] at e6;exact e6
theorem zmz {d:List SNode} (hl:d.length≤100):zk d (if d.length=0 then 0 else zf1 (wl d d.length) ((d.length:Int)-1)):=by
 refine zhz (P:=fun k l v=>zk.l1 d _ k l v) d.length (fun i l=>l=wl d i) ?_ ?_ [] rfl
 ·rintro i l hi rfl;have hlen:=zok (d:=d) (i:=i) (by omega);have hok:=wl_ok (d:=d) (i:=i) (by omega);refine .inr ⟨_,(zky hi).symm,fun k hk=>⟨_,rfl,fun _=>⟨_,zgi hi,_,rfl,fun hc=>?_,fun hc=>?_⟩,fun hc=>?_⟩⟩
  ·simp only [Bool.and_eq_true,decide_eq_true_eq] at hc;obtain ⟨y,hy,hm⟩:=zl0 hc.1 hc.2;have e:zf1 (wl d i) d[i].2.1=y:=by unfold zf1;rw [if_pos hc,hy];rfl
   rw [e] at hk;exact ⟨y,hy,w7 (by omega) (by omega) (hok y hm) (zij hok _) hk⟩
  ·have e:zf1 (wl d i) d[i].2.1=0:=by
    unfold zf1;rw [if_neg];simp only [Bool.and_eq_false_iff,decide_eq_false_iff_not] at hc;omega
   rw [e] at hk;exact w7 (by omega) (by omega) (by omega) (zij hok _) hk
  ·exfalso;simp only [Bool.and_eq_false_iff,decide_eq_false_iff_not] at hc;omega
 ·rintro l rfl k;have hlen:=zok (d:=d) (i:=d.length) (Nat.le_refl _);refine ⟨_,rfl,fun hc=>?_,fun _=>⟨fun h=>?_,fun h=>?_⟩⟩
  ·exfalso;simp only [Bool.and_eq_true,decide_eq_true_eq] at hc;omega
  ·rw [hlen] at h;rw [if_pos (by have:=eq_of_beq h;omega)]
  ·rw [hlen] at h;have hp:d.length≠0:=by have:=beq_eq_false_iff_ne.1 h;omega
   obtain ⟨y,hy,_⟩:=zl0 (xs:=wl d d.length) (i:=(d.length:Int)-1) (by omega) (by omega);refine ⟨zi (by omega) (by omega),y,by rw [hlen];exact hy, ?_⟩;rw [if_neg hp];unfold zf1;rw [if_pos (by omega),hy];rfl
theorem wl_pre {d:List SNode} {i:Nat}:∀{j:Nat},i≤j→j≤d.length→wl d i <+: wl d j
 | 0,h,_=>by rw [Nat.le_zero.1 h];exact List.prefix_refl _
 | j+1,h,hj=>by
  rcases Nat.lt_or_eq_of_le h with h1 | h1
  ·rw [zky (by omega)];exact (wl_pre (Nat.le_of_lt_succ h1) (by omega)).trans (List.prefix_append _ _)
  ·rw [h1];exact List.prefix_refl _
theorem zl8 {d:List SNode} {i:Nat} (hi:i≤d.length) {x:Int} (h0:0≤x) (h1:x<(i:Int)):zf1 (wl d i) x=zf1 (wl d d.length) x:=by
 have l1:=zok (d:=d) hi;have l2:=zok (d:=d) (i:=d.length) (Nat.le_refl _);obtain ⟨m,rfl⟩:∃m:Nat,x=m:=⟨x.toNat,by omega⟩;unfold zf1;rw [if_pos (by omega),if_pos (by omega),zbv,zbv];obtain ⟨r,hr⟩:=wl_pre (d:=d) hi (Nat.le_refl _);rw [← hr,List.getElem?_append_left (by omega)]
theorem look_at {d:List SNode} {i:Int} {e:SNode} (he:at? d i=some e):zf1 (wl d d.length) i=min (zol e (zf1 (wl d i.toNat) e.2.1) (zf1 (wl d i.toNat) e.2.2.1)) 1000:=by
 obtain ⟨h0,h1⟩:=zbn he;obtain ⟨m,rfl⟩:∃m:Nat,i=m:=⟨i.toNat,by omega⟩;have hm:m<d.length:=by omega
 have he':d[m]=e:=by
  rw [zbv,List.getElem?_eq_getElem hm] at he;exact Option.some.inj he
 rw [← zl8 (d:=d) (i:=m+1) (by omega) (by omega) (by omega)];have l1:=zok (d:=d) (i:=m) (by omega);unfold zf1;rw [if_pos (by rw [zky hm,List.length_append,l1];simp;omega),zbv,zky hm,List.getElem?_append_right (by omega),l1,Nat.sub_self,he'];simp [zf1]
theorem sz_wgt {d:List SNode} (hn:∀n∈d,n.1≠8∧n.1≠9) {f i:Int} (h:Tr d f i):∀k,zf1 (wl d d.length) i<1000→((szN d k i:Nat):Int)≤zf1 (wl d d.length) i:=by
 have hok:∀x,0≤zf1 (wl d d.length) x∧zf1 (wl d d.length) x≤1000:=fun x=>zij (wl_ok (Nat.le_refl _)) x;have hs:∀{i:Int} {e:SNode} (k:Nat),at? d i=some e→szN d (k+1) i=if e.1=2 then 1 else if e.1=3 then e.2.2.2.2.2.2.length else if e.1=4∨e.1=5 then szN d k e.2.1+szN d k e.2.2.1 else if e.1=6 then szN d k e.2.1 else if e.1=7 then e.2.2.2.2.1.toNat*szN d k e.2.1 else 0:=fun {i e} k he=>by
  simp only [szN,he]
 induction h with
 | leaf he hk hx h0=>
  rename_i i e
  intro k hlt;have hl:=look_at he;rw [hl] at hlt ⊢;cases k with
  | zero=>have:=wgt1_ok (e:=e) (zij (wl_ok (d:=d) (i:=i.toNat) (by have:=zbn he;omega)) e.2.1) (zij (wl_ok (d:=d) (i:=i.toNat) (by have:=zbn he;omega)) e.2.2.1);show (0:Int)≤_;omega
  | succ k=>
   rw [hs k he];unfold zol at hlt ⊢;rcases hk with k1 | k1 | k1
   ·simp only [k1] at hlt ⊢;simp;try omega
   ·simp only [k1] at hlt ⊢;simp;try omega
   ·simp only [k1] at hlt ⊢;simp at hlt ⊢;omega
 | one he hk ha hb hr h ih=>
  rename_i f i e
  intro k hlt;have hle:=h.le;have hbd:=zbn he;have hl:=look_at he;rw [ha,zl8 (i:=i.toNat) (by omega) (by omega) (by omega)] at hl;have hA:=hok (i-1);have hw:=wgt1_ok (e:=e) (a:=zf1 (wl d d.length) (i-1)) hA (zij (wl_ok (d:=d) (i:=i.toNat) (by omega)) e.2.2.1);rw [hl] at hlt ⊢;cases k with
  | zero=>show (0:Int)≤_;omega
  | succ k=>
   rw [hs k he,ha];have ih:=ih k;unfold zol at hlt ⊢;rcases hk with k1 | k1 | k1 | k1
   ·simp only [k1] at hlt ⊢;simp at hlt ⊢;have:=ih (by omega);omega
   ·have hr:=hr k1;simp only [k1] at hlt ⊢;simp only [show ¬ ((7:Int)=2) by decide,show ¬ ((7:Int)=3) by decide,show ¬ ((7:Int)=4∨(7:Int)=5) by decide,show ¬ ((7:Int)=6) by decide,if_false,if_true] at hlt ⊢;have hx:1+max 0 (min e.2.2.2.2.1 1000)=1+e.2.2.2.2.1:=by omega
    rw [hx] at hlt ⊢;have hA2:zf1 (wl d d.length) (i-1)<1000:=by
     rcases Int.lt_or_le (zf1 (wl d d.length) (i-1)) 1000 with h | h
     ·exact h
     ·have h2:zf1 (wl d d.length) (i-1)≤(1+e.2.2.2.2.1)*zf1 (wl d d.length) (i-1):=by
       have:=Int.mul_le_mul_of_nonneg_right (show (1:Int)≤1+e.2.2.2.2.1 by omega) hA.1;omega
      omega
    have ih:=ih hA2;have e1:(((e.2.2.2.2.1.toNat*szN d k (i-1):Nat)):Int)=e.2.2.2.2.1*(szN d k (i-1):Int):=by
     rw [Int.natCast_mul,Int.toNat_of_nonneg (by omega)]
    rw [e1];have h3:e.2.2.2.2.1*(szN d k (i-1):Int)≤(1+e.2.2.2.2.1)*zf1 (wl d d.length) (i-1):=Int.mul_le_mul (by omega) ih (by omega) (by omega);omega
   ·exact absurd k1 (hn _ (at_mem he)).1
   ·exact absurd k1 (hn _ (at_mem he)).2
 | two he hk ha hb h1 h2 i1 i2=>
  rename_i f p i e
  intro k hlt;have l1:=h1.le;have l2:=h2.le;have hbd:=zbn he;have hl:=look_at he;rw [ha,hb,zl8 (i:=i.toNat) (by omega) (by omega) (by omega),zl8 (i:=i.toNat) (by omega) (by omega) (by omega)] at hl;have hA:=hok (p-1);have hB:=hok (i-1);rw [hl] at hlt ⊢;have hw:zol e (zf1 (wl d d.length) (p-1)) (zf1 (wl d d.length) (i-1))=zf1 (wl d d.length) (p-1)+zf1 (wl d d.length) (i-1):=by
   unfold zol;rw [if_neg (by omega),if_neg (by omega),if_pos hk]
  rw [hw] at hlt ⊢;cases k with
  | zero=>show (0:Int)≤_;omega
  | succ k=>
   rw [hs k he,ha,hb,if_neg (by omega),if_neg (by omega),if_pos hk];have j1:=i1 k (by omega);have j2:=i2 k (by omega);rw [Int.natCast_add];omega
theorem zme {d:List SNode} (hl:d.length≤1000):∃r,zbo d r∧(r=false→∀n∈d,n.1≠8∧n.1≠9):=by
 rcases Classical.em (∀n∈d,n.1≠8∧n.1≠9) with hn | hn
 ·refine ⟨false, ?_,fun _=>hn⟩;refine zhz (P:=fun k (_:Unit) v=>zbo.l1 d false _ k v) d.length (fun _ _=>True) ?_ ?_ () trivial
  ·intro i _ hi _;have:=hn _ (List.getElem_mem hi);refine .inr ⟨(),trivial,fun k hk=>⟨fun _=>⟨_,zgi hi,_,fun _=>zgi hi,fun h=>?_,fun _=>⟨zi (by omega) (by omega),hk⟩⟩,fun h=>absurd (by omega) (df h)⟩⟩;simp [this.1,this.2] at h
  ·intro _ _ k;exact ⟨fun h=>absurd (dt h) (by omega),fun _=>rfl⟩
 ·refine ⟨true, ?_,(fun h=>by cases h)⟩;refine zhz (P:=fun k (_:Unit) v=>zbo.l1 d true _ k v) d.length (fun i _=>∀n∈d.take i,n.1≠8∧n.1≠9) ?_ ?_ () (by simp)
  ·intro i _ hi hI
   by_cases hb:d[i].1=8∨d[i].1=9
   ·exact .inl fun k=>⟨fun _=>⟨_,zgi hi,_,fun _=>zgi hi,fun _=>rfl,fun h=>by
     rcases hb with hb | hb <;> simp [hb] at h⟩,fun h=>absurd (by omega) (df h)⟩
   ·refine .inr ⟨(),fun n hnm=>?_,fun k hk=>⟨fun _=>⟨_,zgi hi,_,fun _=>zgi hi,fun _=>rfl,fun _=>⟨zi (by omega) (by omega),hk⟩⟩,fun h=>absurd (by omega) (df h)⟩⟩;rw [List.take_succ_eq_append_getElem hi,List.mem_append,List.mem_singleton] at hnm;rcases hnm with h | rfl
    ·exact hI n h
    ·omega
  ·intro _ hI k;rw [List.take_length] at hI;exact absurd hI hn
theorem Light_ex {d e:List SNode} (hl:d.length≤1000) (hm:e.length≤1000) (b:Int):∃r,zgc d e b r∧(r=true→b≤10∨(∀n∈d,n.1≠8∧n.1≠9)∧∀n∈e,n.1≠8∧n.1≠9):=by
 obtain ⟨r,h1,h2⟩:=zme hl;obtain ⟨s,k1,k2⟩:=zme hm;refine ⟨_,⟨r,fun _=>h1,s,fun _=>k1,rfl⟩,fun h=>?_⟩;simp only [Bool.or_eq_true,decide_eq_true_eq,Bool.and_eq_true,Bool.not_eq_true'] at h;exact h.imp id fun h=>⟨h2 h.1,k2 h.2⟩
structure FewD (d:List SNode):Prop where
 rt:Rt d
 len:d.length≤16
 sz:(∀n∈d,n.1≠8∧n.1≠9)→szN d d.length ((d.length:Int)-1)≤60
def FewB (d:List SNode) (r:Bool):Prop:=∃r1:Bool,zcu d r1∧∃r3:Int,((((r1&&(decide ((d.length:Int)≤16))))=true)→zk d r3)∧∃b5:Bool,b5=((r1&&(decide ((d.length:Int)≤16)))&&(decide (r3≤60)))∧∃r7:Bool,(((b5)=true)→zgb d r7)∧r=(b5&&r7)
theorem few_of {d:List SNode} (ht:Txt d):∃r,FewB d r∧(r=true→FewD d):=by
 obtain ⟨r3,h3,h3b⟩:=few_ex ht;cases r3
 ·exact ⟨false,⟨false,h3,0,(fun h=>by simp at h),_,rfl,false,(fun h=>by simp at h),by simp⟩,(fun h=>by cases h)⟩
 ·have hl:=h3b rfl;have hw:=zmz hl;obtain ⟨r9,h9,h9b⟩:=right_ok (d:=d) (by omega) ht;refine ⟨_,⟨true,h3,_,fun _=>hw,_,rfl,r9,fun _=>h9,rfl⟩,fun h=>?_⟩;simp only [Bool.true_and,Bool.and_eq_true,decide_eq_true_eq] at h;obtain ⟨⟨g1,g2⟩,g3⟩:=h;have hR:=h9b g3;refine ⟨hR,by omega,fun hn=>?_⟩;have hp:=List.length_pos_iff.2 hR.ne;rw [if_neg (by omega)] at g2;have:=sz_wgt hn hR.tr d.length (by omega);omega
theorem FewD.lk {d:List SNode} (h:FewD d) (ht:Txt d) {b:Int} (h1:b≤10∨∀n∈d,n.1≠8∧n.1≠9):Lk d b:=
 h1.elim (fun h1=>zi5 h.rt (by have:=h.len;omega) ht h1) fun h1=>zqj h.rt (by have:=h.len;omega) ht (nf_of h1 _ _) (Nat.le_trans (h.sz h1) (by omega)) b
section
variable {T U : Type} [DecidableEq T] [DecidableEq U]
def mapQ (f:T→U) (q:Qb T):Qb U:=(f q.1,q.2.1,q.2.2.1,q.2.2.2)
structure Iso (S:Sch T) (R:Sch U) (f:T→U):Prop where
 inj:∀a b,f a=f b→a=b
 start:R.start=f S.start
 ways:∀x,R.ways (f x)=(S.ways x).map fun e=>(e.1,f e.2)
 hit:∀x,R.hit (f x)=S.hit x
theorem Iso.has {S:Sch T} {R:Sch U} {f:T→U} (h:Iso S R f) (acc:List (Qb T)) (x:T):hasQ (acc.map (mapQ f)) (f x)=hasQ acc x:=by
 rw [Bool.eq_iff_iff,zl9,zl9];constructor
 ·rintro ⟨q,hq,he⟩;obtain ⟨p,hp,rfl⟩:=List.mem_map.1 hq;exact ⟨p,hp,h.inj _ _ he⟩
 ·rintro ⟨q,hq,rfl⟩;exact ⟨_,List.mem_map.2 ⟨q,hq,rfl⟩,rfl⟩
theorem Iso.fold {S:Sch T} {R:Sch U} {f:T→U} (h:Iso S R f) (i:Nat) (w:List Int):∀(es:List (Int × T)) (acc:List (Qb T)),(es.map fun e=>(e.1,f e.2)).foldl (stB i w) (acc.map (mapQ f))=(es.foldl (stB i w) acc).map (mapQ f)
 | [],acc=>rfl
 | e::es,acc=>by
  rw [List.map_cons,List.foldl_cons,List.foldl_cons,← Iso.fold h i w es]
  congr 1
  unfold stB;simp only;rw [h.has];split
  ·rfl
  ·rw [List.map_append];rfl
theorem Iso.acc {S:Sch T} {R:Sch U} {f:T→U} (h:Iso S R f):∀i,zc2 R i=(zc2 S i).map (mapQ f)
 | 0=>by simp [zc2,h.start,mapQ]
 | i+1=>by
  have ih:=Iso.acc h i;cases hq:(zc2 S i)[i]? with
  | none=>
   rw [zhw hq,zhw (by rw [ih,List.getElem?_map,hq];rfl),ih]
  | some q=>
   rw [zfu hq,zfu (q:=mapQ f q) (by rw [ih,List.getElem?_map,hq];rfl),ih];unfold rdB;show (R.ways (f q.1)).foldl (stB i q.2.2.2) _=_;rw [h.ways,h.fold]
theorem Iso.verd {S:Sch T} {R:Sch U} {f:T→U} (h:Iso S R f) (b:Int):∀(n i:Nat),zjy R b n i=((zjy S b n i).1,(zjy S b n i).2.1,(zjy S b n i).2.2.1,(zjy S b n i).2.2.2.map f)
 | 0,i=>by simp [zjy,h.acc]
 | n+1,i=>by
  have ih:=Iso.verd h b n (i+1);unfold zjy;cases hq:(zc2 S i)[i]? with
  | none=>rw [show (zc2 R i)[i]?=none by rw [h.acc,List.getElem?_map,hq];rfl];simp [h.acc]
  | some q=>
   rw [show (zc2 R i)[i]?=some (mapQ f q) by rw [h.acc,List.getElem?_map,hq];rfl];simp only [mapQ,h.hit];split
   ·rfl
   ·split
    ·rfl
    ·exact ih
theorem Iso.srch {S:Sch T} {R:Sch U} {f:T→U} (h:Iso S R f) (b:Int):zee R b=((zee S b).1,(zee S b).2.1,(zee S b).2.2.1,(zee S b).2.2.2.map f):=h.verd b _ 0
end
section
variable {T : Type} [DecidableEq T]
theorem OutB.len {S:Sch T} {b:Int} {v:Int × List Int × Int × Option T} (h:OutB S b v):v.2.1.length≤b.toNat∧(v.1=2→(v.2.1.length:Int)<b):=by
 cases h with
 | yes i hb h hno=>simp
 | no i q hb h hh hno=>
  have:=(ziu S i).wlen i q h;simp only;omega
 | limit _ _=>simp
theorem OutB.lim {S:Sch T} {b:Int} {v:Int × List Int × Int × Option T} (hb:0≤b) (h:OutB S b v):v.1=3→v.2.1=[]∧v.2.2.1=b:=by
 cases h with
 | limit _ _=>exact fun _=>⟨rfl,by show max b 0=b;omega⟩
 | yes i _ _ _=>exact fun h=>by simp at h
 | no i q _ _ _ _=>exact fun h=>by simp at h
end
end Go.Proofs.YtbojklnokglbhaaGreatDoor.V
namespace Go.Proofs.YtbojklnokglbhaaGreatDoor.V
open Go
set_option linter.unusedVariables false
abbrev TP:=TS × TS
instance decTP:DecidableEq TP:=@instDecidableEqProd TS TS inferInstance inferInstance
def bytP (d e:List SNode) (p:TP):List Int:=bytC (zjw d p.1++zjw e p.2)
def zh6 (d e:List SNode) (p:TP):List (Int × TP):=(bytP d e p).map fun c=>(c,(onS d c p.1,onS e c p.2))
def zd2 (d e:List SNode):Sch TP:=⟨([stS d],[stS e]),zh6 d e,fun p=>ziq d p.1 != ziq e p.2⟩
theorem waysP_len (d e:List SNode) (p:TP):(zh6 d e p).length≤256:=by unfold zh6;rw [List.length_map];exact bytC_len _
theorem bytP_u8 {d e:List SNode} {p:TP} {c:Int} (h:c∈bytP d e p):InR .u8 c:=bytC_u8 h
theorem once_few2 (d e:List SNode) (l m:TS):(zfw (zjw d l++zjw e m)).length≤256+d.length+e.length:=by
 have h1:=zil (U:=sing++(d.map (fun n=>n.2.2.2.2.2.1)++e.map fun n=>n.2.2.2.2.2.1)) (zm5 (zjw d l++zjw e m)) fun x hx=>by
  rcases List.mem_append.1 ((zfo _).1 hx) with hx | hx
  ·obtain ⟨s,_,h2⟩:=List.mem_flatMap.1 hx;unfold clsA zko at h2;obtain ⟨b,_,h3⟩:=List.mem_flatMap.1 h2;have:=clsF_of d b.1 (fun _ _=>trivial) x h3;rw [List.mem_append] at this ⊢;exact this.imp id fun h=>List.mem_append.2 (.inl h)
  ·obtain ⟨s,_,h2⟩:=List.mem_flatMap.1 hx;unfold clsA zko at h2;obtain ⟨b,_,h3⟩:=List.mem_flatMap.1 h2;have:=clsF_of e b.1 (fun _ _=>trivial) x h3;rw [List.mem_append] at this ⊢;exact this.imp id fun h=>List.mem_append.2 (.inr h)
 rw [List.length_append,List.length_append,List.length_map,List.length_map,zhk] at h1;omega
theorem zk5 (d e:List SNode):∀(x:TP) (c:Int) (y:TP),(c,y)∈(zd2 d e).ways x→InR .u8 c∧y=(onS d c x.1,onS e c x.2):=fun x c y h=>by
 obtain ⟨b,h1,h2⟩:=List.mem_map.1 h;cases h2;exact ⟨bytP_u8 h1,rfl⟩
theorem rnP_aft {d e:List SNode} {w:List Int} {x:TP} (h:Rn (fun (x:TP) c y=>InR .u8 c∧y=(onS d c x.1,onS e c x.2)) ([stS d],[stS e]) w x):x=(zeo d w,zeo e w)∧∀c∈w,InR .u8 c:=by
 induction h with
 | nil=>exact ⟨rfl,fun c hc=>by cases hc⟩
 | snoc h hs ih=>
  obtain ⟨h1,h2⟩:=hs;refine ⟨by rw [h2,ih.1,zdt,zdt],fun b hb=>?_⟩;rcases List.mem_append.1 hb with hb | hb
  ·exact ih.2 b hb
  ·rw [List.mem_singleton.1 hb];exact h1
theorem aft_rnP {d e:List SNode} (w:List Int) (hw:∀c∈w,InR .u8 c):Rn (fun (x:TP) c y=>InR .u8 c∧y=(onS d c x.1,onS e c x.2)) ([stS d],[stS e]) w (zeo d w,zeo e w):=by
 refine zpe (p:=fun w=>(∀c∈w,InR .u8 c)→Rn (fun (x:TP) c y=>InR .u8 c∧y=(onS d c x.1,onS e c x.2)) ([stS d],[stS e]) w (zeo d w,zeo e w)) (fun _=>.nil) (fun w c ih hw=>?_) w hw;exact .snoc (ih fun b hb=>hw b (by simp [hb])) ⟨hw c (by simp),by rw [zdt,zdt]⟩
theorem zq5 {d e:List SNode} {i j:Nat} {q:Qb TP} (h:(zc2 (zd2 d e) i)[j]?=some q):q.1=(zeo d q.2.2.2,zeo e q.2.2.2)∧(∀c∈q.2.2.2,InR .u8 c)∧q.2.2.2.length≤j:=by
 obtain ⟨h1,h2⟩:=rnP_aft (accB_rn (S:=zd2 d e) (zk5 d e) i j q h);exact ⟨h1,h2,(ziu _ _).wlen j q h⟩
theorem accP_rm {d e:List SNode} {b:Int} (hk:Lk d b) (he:Lk e b) {i j:Nat} {q:Qb TP} (hq:(zc2 (zd2 d e) i)[j]?=some q) (hj:(j:Int)<b):Rm d q.1.1∧Rm e q.1.2:=by
 obtain ⟨h1,h2,h3⟩:=zq5 hq;rw [h1];exact ⟨hk _ h2 (.inl (by omega)),he _ h2 (.inl (by omega))⟩
theorem waysP_rise (d e:List SNode) (p:TP):(zh6 d e p).Pairwise fun a b=>a.1<b.1:=by
 unfold zh6;rw [List.pairwise_map];exact bytC_srt _
theorem onP_byte {d e:List SNode} {l m:TS} (hl:∀s∈l,Sm d s) (hm:∀s∈m,Sm e s) {c:Int} (hc:InR .u8 c):∃b∈bytP d e (l,m),b≤c∧onS d b l=onS d c l∧onS e b m=onS e c m:=by
 obtain ⟨b,h1,h2,h3⟩:=bytC_of (zjw d l++zjw e m) hc;exact ⟨b,h1,h2,onS_like hl (bytC_u8 h1) hc fun x hx=>h3 x (List.mem_append.2 (.inl hx)),onS_like hm (bytC_u8 h1) hc fun x hx=>h3 x (List.mem_append.2 (.inr hx))⟩
theorem zo1 {d e:List SNode} (h:Rt d) (hl:d.length≤24) (ht:Txt d) (h':Rt e) (hl':e.length≤24) (ht':Txt e) {b:Int} {v:Int × List Int × Int × Option TP} (ho:OutB (zd2 d e) b v):
  (v.1=1→v.2.1=[]∧∀w,(∀c∈w,InR .u8 c)→ziq d (zeo d w)=ziq e (zeo e w))∧(v.1=2→(∀c∈v.2.1,InR .u8 c)∧v.2.2.2=some (zeo d v.2.1,zeo e v.2.1)∧ziq d (zeo d v.2.1)≠ziq e (zeo e v.2.1)∧∀w,(∀c∈w,InR .u8 c)→ziq d (zeo d w)≠ziq e (zeo e w)→sle v.2.1 w)∧(v.1=1∨v.1=2∨v.1=3):=by
 obtain ⟨h1,h2,h3⟩:=ho.least (B:=fun c=>InR .u8 c) (zk5 d e) (fun i _ q _=>waysP_rise d e q.1) fun i _ q hq c y hc hs=>by
  obtain ⟨j,hj⟩:=List.getElem?_of_mem hq;obtain ⟨q1,q2,_⟩:=zq5 hj;have hsm:∀s∈q.1.1,Sm d s:=fun s hs=>by rw [q1] at hs;exact (zfy h hl ht q2 hs).1
  have hsm':∀s∈q.1.2,Sm e s:=fun s hs=>by rw [q1] at hs;exact (zfy h' hl' ht' q2 hs).1
  obtain ⟨x,x1,x2,x3,x4⟩:=onP_byte hsm hsm' hc;refine ⟨x,x2, ?_⟩;rw [hs.2,← x3,← x4];exact List.mem_map.2 ⟨x,x1,rfl⟩
 refine ⟨fun k=>⟨(h1 k).1,fun w hw=>?_⟩,fun k=>?_,h3⟩
 ·have:=(h1 k).2 w _ hw (aft_rnP w hw);simpa [zd2] using this
 obtain ⟨x,x1,x2,x3,x4⟩:=h2 k;obtain ⟨y1,y2⟩:=rnP_aft x3;rw [y1] at x1 x2;refine ⟨y2,x1,by simpa [zd2] using x2,fun w hw hwe=>x4 w _ hw (aft_rnP w hw) ?_⟩;simpa [zd2] using hwe
theorem znu {α:Type} {xs:List α} {i:Nat} {x:α} (h:xs[i]?=some x):at? xs (i:Int)=some x:=by rw [zbv];exact h
theorem rev_in {l:List Int} (hl:l.length≤1000):zu l l.reverse:=by
 refine ⟨zi (by omega) (by omega), ?_⟩;have key:=zhz (P:=fun k (s:List Int) v=>zu.l1 (zu.j1 l.reverse) k s v ((l.length:Int)-1-v)) l.length
  (fun i s=>s.length=l.length∧∀k,k<l.length→s[k]?=if k<i∨l.length≤k+i then l[l.length-1-k]? else l[k]?) ?_ ?_ l ⟨rfl,fun k hk=>by rw [if_neg (by omega)]⟩
 ·simpa using key
 ·rintro i s hi ⟨h1,h2⟩
  by_cases hij:i<l.length-1-i
  ·have hj:(l.length:Int)-1-(i:Int)=((l.length-1-i:Nat):Int):=by omega
   have e1:s[i]?=some l[i]:=by rw [h2 i hi,if_neg (by omega)];exact List.getElem?_eq_getElem hi
   have hjl:l.length-1-i<l.length:=by omega
   have e2:s[l.length-1-i]?=some l[l.length-1-i]:=by rw [h2 _ hjl,if_neg (by omega)];exact List.getElem?_eq_getElem hjl
   refine .inr ⟨(s.set i l[l.length-1-i]).set (l.length-1-i) l[i],⟨by simp [h1],fun k hk=>?_⟩,fun k hk=>⟨fun _=>⟨_,by rw [hj];exact znu e2,_,znu e1,_,znu e1,l[l.length-1-i], ?_,zi (by omega) (by omega),zi (by omega) (by omega), ?_⟩,fun h=>absurd (by omega) (df h)⟩⟩
   ·rw [List.getElem?_set]
    by_cases hk1:l.length-1-i=k
    ·subst hk1;rw [if_pos rfl,if_pos (by simp [h1];omega),if_pos (by omega)];rw [show l.length-1-(l.length-1-i)=i by omega];exact (List.getElem?_eq_getElem hi).symm
    ·rw [if_neg hk1,List.getElem?_set]
     by_cases hk2:i=k
     ·subst hk2;rw [if_pos rfl,if_pos (by rw [h1];exact hi),if_pos (by omega)];exact (List.getElem?_eq_getElem hjl).symm
     ·rw [if_neg hk2,h2 k hk]
      by_cases hk3:k<i∨l.length≤k+i
      ·rw [if_pos hk3,if_pos (by omega)]
      ·rw [if_neg hk3,if_neg (by omega)]
   ·rw [hj];rw [Int.toNat_natCast,zbv,List.getElem?_set,if_neg (by omega)];exact e2
   ·rw [show (l.length:Int)-1-((i:Int)+1)=(l.length:Int)-1-(i:Int)-1 by omega] at hk;rw [hj] at hk ⊢;rw [Int.toNat_natCast,Int.toNat_natCast];exact hk
  ·refine .inl fun k=>⟨fun h=>absurd (dt h) (by omega),fun _=>?_⟩;show l.reverse=s;refine List.ext_getElem? fun k=>?_
   by_cases hk:k<l.length
   ·rw [List.getElem?_reverse hk,h2 k hk];split
    ·rfl
    ·rw [show l.length-1-k=k by omega]
   ·rw [List.getElem?_eq_none (by simp;omega),List.getElem?_eq_none (by omega)]
 ·rintro s ⟨h1,h2⟩ k;refine ⟨fun h=>absurd (dt h) (by omega),fun _=>?_⟩;show l.reverse=s;refine List.ext_getElem? fun k=>?_
  by_cases hk:k<l.length
  ·rw [List.getElem?_reverse hk,h2 k hk,if_pos (by omega)]
  ·rw [List.getElem?_eq_none (by simp;omega),List.getElem?_eq_none (by omega)]
def mdP (q:Qb TP):Smade_scantling_equiv_pair_search:=(q.1,q.2.1,q.2.2.1)
theorem wordP_in {S:Sch TP} {acc:List (Qb TP)} (h:GoodB S acc) {i:Nat} {q:Qb TP} (hi:acc[i]?=some q) (hl:q.2.2.2.length≤1000):zx (acc.map mdP) (i:Int) q.2.2.2:=by
 have hM:∀(j:Nat) (x:Qb TP),acc[j]?=some x→at? (acc.map mdP) (j:Int)=some (mdP x):=fun j x hx=>znu (by rw [List.getElem?_map,hx];rfl);have:=run (P:=fun k (s:Int × List Int)=>zx.l1 (acc.map mdP) (zx.j1 q.2.2.2) k s.1 s.2) (fun s=>∃(j:Nat) (x:Qb TP),s.1=(j:Int)∧acc[j]?=some x∧x.2.2.2++s.2.reverse=q.2.2.2) (fun s=>s.1.toNat) ?_ ((i:Int),[]) ⟨i,q,rfl,hi,by simp⟩
 ·exact this
 ·rintro ⟨v,out⟩ ⟨j,x,h1,hx,hwo⟩;simp only at h1 hwo;subst h1;have hlen:out.length≤1000:=by
   have:=congrArg List.length hwo;simp at this;omega
  rcases h.par j x hx with ⟨h0,hx0⟩ | ⟨p,q',h2,h3,h4,h5,_⟩
  ·subst h0;subst hx0;refine .inl fun k=>⟨_,hM 0 _ hx,fun h=>absurd (dt h) (by simp [mdP]),fun _=>?_⟩;refine ⟨out.reverse,rev_in hlen, ?_⟩;simpa using hwo.symm
  ·refine .inr ⟨((p:Int),out++[x.2.2.1]),⟨p,q',rfl,h4, ?_⟩,by simp only;omega,fun k hk=>⟨_,hM j x hx,fun _=>⟨_,hM j x hx,by simp;omega,_,hM j x hx, ?_⟩,fun h=>absurd (by simp [mdP,h2]) (df h)⟩⟩
   ·rw [← hwo,h5];simp
   ·simp only [mdP];rw [h2];exact hk
def SnP (kf:TP→Str) (seen:List (Str × Bool)) (acc:List (Qb TP)):Prop:=∀z,zd3 seen (kf z) false=hasQ acc z
theorem snP_put {kf:TP→Str} (hinj:∀a b,kf a=kf b→a=b) {seen:List (Str × Bool)} {acc:List (Qb TP)} (h:SnP kf seen acc) (x:TP) (q:Int × Int × List Int):SnP kf (zfp seen (kf x) true) (acc++[(x,q)]):=fun z=>by
 rw [znc,h z,hasQ_app]
 by_cases hz:x=z
 ·subst hz;simp
 ·rw [if_neg (fun e=>hz (hinj _ _ e))];simp [hz]
theorem roundP {S:Sch TP} {s_:SSpace_scantling_equiv_pair_search} {kf:TP→Str} (hinj:∀a b,kf a=kf b→a=b) {i:Nat} {q0:Qb TP} {acc:List (Qb TP)} {seen:List (Str × Bool)} (hs:SnP kf seen acc)
  (hkey:∀e∈S.ways q0.1,s_.2.1 (e.2,kf e.2)) (hlen:acc.length+(S.ways q0.1).length≤2000000000) (X:List Smade_scantling_equiv_pair_search→List (Str × Bool)→Prop)
  (hX:∀seen',SnP kf seen' (rdB S i q0 acc)→X ((rdB S i q0 acc).map mdP) seen'):∃k,ze.l2 s_ (i:Int) (S.ways q0.1) X k (acc.map mdP) seen 0:=by
 have hlj:∀j,(((S.ways q0.1).take j).foldl (stB i q0.2.2.2) acc).length≤2000000000:=fun j=>by
  have h1:=znm i q0.2.2.2 ((S.ways q0.1).take j) acc;have h2:((S.ways q0.1).take j).length≤(S.ways q0.1).length:=by rw [List.length_take];omega
  omega
 refine zhz (P:=fun k (s:List Smade_scantling_equiv_pair_search × List (Str × Bool)) v=>ze.l2 s_ (i:Int) (S.ways q0.1) X k s.1 s.2 v) (S.ways q0.1).length
  (fun j s=>s.1=(((S.ways q0.1).take j).foldl (stB i q0.2.2.2) acc).map mdP∧SnP kf s.2 (((S.ways q0.1).take j).foldl (stB i q0.2.2.2) acc)) ?_ ?_ (acc.map mdP,seen) ⟨rfl,hs⟩
 ·rintro j ⟨ls,sn⟩ hj ⟨h1,h2⟩;simp only at h1 h2;subst h1;have hk:=hkey _ (List.getElem_mem hj);have hnext:((S.ways q0.1).take (j+1)).foldl (stB i q0.2.2.2) acc=stB i q0.2.2.2 (((S.ways q0.1).take j).foldl (stB i q0.2.2.2) acc) (S.ways q0.1)[j]:=by
   rw [List.take_succ_eq_append_getElem hj,List.foldl_append];rfl
  rw [hnext];have hlen2:=hlj j;have hll:(S.ways q0.1).length≤2000000000:=by omega
  generalize ((S.ways q0.1).take j).foldl (stB i q0.2.2.2) acc=A at *;cases hin:hasQ A (S.ways q0.1)[j].2
  ·refine .inr ⟨(A.map mdP++[((S.ways q0.1)[j].2,(i:Int),(S.ways q0.1)[j].1)],zfp sn (kf (S.ways q0.1)[j].2) true),⟨?_, ?_⟩,fun k h=>⟨fun _=>⟨_,znu (List.getElem?_eq_getElem hj),kf (S.ways q0.1)[j].2,hk,fun _=>⟨by simp;omega,zi (by omega) (by omega),h⟩,fun hc=>?_⟩,fun h=>absurd (by omega) (df h)⟩⟩
   ·simp only [stB,hin,Bool.false_eq_true,if_false,List.map_append];rfl
   ·simp only [stB,hin,Bool.false_eq_true,if_false];exact snP_put hinj h2 _ _
   ·rw [h2,hin] at hc;cases hc
  ·refine .inr ⟨(A.map mdP,sn),⟨?_, ?_⟩,fun k h=>⟨fun _=>⟨_,znu (List.getElem?_eq_getElem hj),kf (S.ways q0.1)[j].2,hk,fun hc=>?_,fun _=>⟨zi (by omega) (by omega),h⟩⟩,fun h=>absurd (by omega) (df h)⟩⟩
   ·simp only [stB,hin,if_true]
   ·simp only [stB,hin,if_true];exact h2
   ·rw [h2,hin] at hc;cases hc
 ·rintro ⟨ls,sn⟩ ⟨h1,h2⟩ k;simp only at h1 h2;rw [List.take_length] at h1 h2;subst h1;exact ⟨fun h=>absurd (dt h) (by omega),fun _=>hX sn h2⟩
def zgr (v:Int × List Int × Int × Option TP):SFound_scantling_equiv_pair_search:=((v.1,v.2.1,[],0,0,0,v.2.2.1),v.2.2.2.getD ([],[]))
theorem walkP_in {S:Sch TP} {kf:TP→Str} (hinj:∀a b,kf a=kf b→a=b) {KP:TP × Str→Prop} {WP:TP × List SOn_scantling_equiv_pair_search→Prop} {HP:TP × Bool→Prop} {b:Int} (hb:b≤1000) {M:Nat} (hM:1+M*b.toNat≤2000000000) (h0:KP (S.start,kf S.start))
  (hh:∀(i:Nat) q,(i:Int)<b→(zc2 S i)[i]?=some q→HP (q.1,S.hit q.1))
  (hw:∀(i:Nat) q,(i:Int)<b→(zc2 S i)[i]?=some q→S.hit q.1=false→WP (q.1,S.ways q.1)∧(S.ways q.1).length≤M∧∀e∈S.ways q.1,KP (e.2,kf e.2)):
  ze (S.start,KP,WP,HP) b (zgr (zee S b)):=by
 refine ⟨_,h0, ?_⟩;refine uptoK (P:=fun k (s:List Smade_scantling_equiv_pair_search × List (Str × Bool)) v=>ze.l1 (S.start,KP,WP,HP) b (zgr (zee S b)) _ k ((0,[],[],0,0,0,0),([],[])) s.1 s.2 v) b.toNat
  (fun i s=>s.1=(zc2 S i).map mdP∧SnP kf s.2 (zc2 S i)∧zee S b=zjy S b (b.toNat+1-i) i∧(zc2 S i).length≤1+M*i) ?_ ?_ ([(S.start, -1,0)],_) ⟨rfl,fun z=>?_,rfl,by simp [zc2]⟩
 ·rintro i ⟨ls,sn⟩ k hi ⟨h1,h2,h3,h4⟩ hk;simp only at h1 h2 h3 h4;subst h1;have hib:(i:Int)<b:=by omega
  obtain ⟨f,hf⟩:∃f,b.toNat+1-i=f+1:=⟨b.toNat-i,by omega⟩;rw [hf] at h3;unfold zjy at h3;cases hq:(zc2 S i)[i]? with
  | none=>
   rw [hq] at h3;simp only at h3;have hl:=List.getElem?_eq_none_iff.1 hq;refine ⟨fun h=>absurd (dt h) (by simp;omega),fun _=>?_⟩;show zgr _=_;rw [h3];simp [zgr]
  | some q=>
   rw [hq] at h3;simp only at h3;have hl:=(List.getElem?_eq_some_iff.1 hq).1;rw [if_neg (by omega)] at h3;have hMi:M*(i+1)≤M*b.toNat:=Nat.mul_le_mul_left _ (by omega);rw [Nat.mul_succ] at hMi;refine ⟨fun _=>⟨fun h=>absurd (dt h) (by omega),fun _=>⟨mdP q,znu (by rw [List.getElem?_map,hq];rfl),_,hh i q hib hq,fun hhit=>?_,fun hno=>?_⟩⟩,fun h=>absurd (by simp;omega) (df h)⟩
   ·have hhit':S.hit q.1=true:=hhit;rw [if_pos hhit'] at h3;have hg:=ziu S i;have hwl:=hg.wlen i q hq;refine ⟨q.2.2.2,wordP_in hg hq (by omega),zi (by omega) (by omega), ?_⟩;rw [h3];rfl
   ·have hno':S.hit q.1=false:=hno;rw [if_neg (by rw [hno'];simp)] at h3;obtain ⟨w1,w2,w3⟩:=hw i q hib hq hno';refine ⟨_,w1,roundP (S:=S) (q0:=q) (kf:=kf) hinj h2 w3 (by omega) _ fun seen' hs'=>?_⟩;have hn:=zfu hq;refine ⟨zi (by omega) (by omega),hk (_,seen') ⟨by rw [hn],by rw [hn];exact hs', ?_, ?_⟩⟩
    ·rw [h3,show b.toNat+1-(i+1)=f by omega]
    ·rw [hn];have:=znm i q.2.2.2 (S.ways q.1) (zc2 S i);unfold rdB;rw [Nat.mul_succ];omega
 ·rintro ⟨ls,sn⟩ ⟨h1,h2,h3,h4⟩ k;simp only at h1 h2 h3 h4;subst h1;rw [show b.toNat+1-b.toNat=0+1 by omega] at h3;unfold zjy at h3;cases hq:(zc2 S b.toNat)[b.toNat]? with
  | none=>
   rw [hq] at h3;simp only at h3;have hl:=List.getElem?_eq_none_iff.1 hq;refine ⟨fun h=>absurd (dt h) (by simp;omega),fun _=>?_⟩;show zgr _=_;rw [h3];simp [zgr]
  | some q=>
   rw [hq] at h3;simp only at h3;have hl:=(List.getElem?_eq_some_iff.1 hq).1;rw [if_pos (by omega)] at h3;refine ⟨fun _=>⟨fun _=>?_,fun h=>absurd (by omega) (df h)⟩,fun h=>absurd (by simp;omega) (df h)⟩;rw [h3];rfl
 ·show zd3 (zfp [] (kf S.start) true) (kf z) false=_;rw [znc,zqf]
  by_cases hz:S.start=z
  ·subst hz;simp [zc2,hasQ]
  ·rw [if_neg (fun e=>hz (hinj _ _ e))];simp [zc2,hasQ,hz]
theorem keyN_low (l:List Int):∀c∈zjq l,32≤c.toNat∧c.toNat≤57∧c≠33∧c≠47:=by
 induction l with
 | nil=>intro c hc;simp [zjq] at hc
 | cons z l ih=>
  intro c hc;rw [zhf,List.mem_append,List.mem_cons] at hc;rcases hc with h | rfl | h
  ·have one:∀(n:Nat),∀c∈Lib.decDigits n,32≤c.toNat∧c.toNat≤57∧c≠33∧c≠47:=fun n c hc=>by
    have:=zpa _ c hc;exact ⟨by omega,this.2,(fun e=>by subst e;exact absurd this.1 (by decide)),fun e=>by subst e;exact absurd this.1 (by decide)⟩
   unfold Lib.itoa at h;split at h
   ·rcases List.mem_cons.1 h with h | h
    ·subst h;decide
    ·exact one _ c h
   ·exact one _ c h
  ·decide
  ·exact ih c h
theorem keyL_low (l:TS):∀c∈zki l,32≤c.toNat∧c.toNat≤57∧c≠33:=by
 induction l with
 | nil=>intro c hc;simp [zki] at hc
 | cons s l ih=>
  intro c hc;rw [zim,List.mem_append,List.mem_cons] at hc;rcases hc with h | rfl | h
  ·have:=keyN_low _ c h;exact ⟨this.1,this.2.1,this.2.2.1⟩
  ·decide
  ·exact ih c h
theorem cutC {k:UInt8} {a b:List UInt8} (ha:∀c∈a,c≠k) (hb:∀c∈b,c≠k) {u v:List UInt8} (h:a++k::u=b++k::v):a=b∧u=v:=by
 induction a generalizing b with
 | nil=>
  cases b with
  | nil=>exact ⟨rfl,(List.cons.inj h).2⟩
  | cons y b=>exact absurd (List.cons.inj h).1.symm (hb y (by simp))
 | cons x a ih=>
  cases b with
  | nil=>exact absurd (List.cons.inj h).1 (ha x (by simp))
  | cons y b=>
   obtain ⟨h1,h2⟩:=List.cons.inj h;obtain ⟨h3,h4⟩:=ih (fun c hc=>ha c (by simp [hc])) (fun c hc=>hb c (by simp [hc])) h2;exact ⟨by rw [h1,h3],h4⟩
theorem zo5 (l:TS):∀c∈zki l,c≠124:=fun c hc e=>by subst e;exact absurd (keyL_low l _ hc).2.1 (by decide)
theorem sm_nums {d:List SNode} {s:List SItem} (h2:Sm d s):∀x∈s,∀z∈zc0 x,InR .i64 z:=fun x hx z hz=>by
 obtain ⟨a,b,c,e⟩:=itR_all h2.rt.toROk (by have:=h2.len;omega) h2.txt h2.form x hx;simp only [zc0,List.mem_cons,List.not_mem_nil,or_false] at hz;rcases hz with rfl | rfl | rfl | rfl
 ·exact a
 ·exact b
 ·exact c
 ·exact e
theorem keyL_sm {d:List SNode} {l:TS} (hl:∀s∈l,Sm d s):(zki l).length≤88001*l.length:=zqn fun s hs=>⟨(hl s hs).short,sm_nums (hl s hs)⟩
def keyP (p:TP):Str:=(zki p.1++[124])++zki p.2
theorem keyP_inj (a b:TP) (h:keyP a=keyP b):a=b:=by
 unfold keyP at h;rw [List.append_assoc,List.append_assoc,List.singleton_append,List.singleton_append] at h;obtain ⟨h1,h2⟩:=cutC (zo5 _) (zo5 _) h;exact Prod.ext (keyL_inj h1) (keyL_inj h2)
theorem zlo {d e:List SNode} {p:TP} (ha:∀s∈p.1,Sm d s) (hb:∀s∈p.2,Sm e s) (la:p.1.length≤1000000000) (lb:p.2.length≤1000000000):ze1 p (keyP p):=by
 have k1:=keyL_sm ha;have k2:=keyL_sm hb;exact ⟨_,zmv la fun s hs=>(ha s hs).short,by simp;omega,_,zmv lb fun s hs=>(hb s hs).short,by simp;omega,rfl⟩
theorem concat_in {a b:List Cl} (ha:a.length≤1000000000000) (hb:b.length≤1000000000000):zh [a,b] (a++b):=by
 refine ⟨3,fun _=>⟨a,rfl,zi (by omega) (by omega),fun h=>absurd (dt h) (by omega),fun _=>⟨zi (by omega) (by omega),fun _=>⟨b,rfl,zi (by omega) (by omega),fun h=>absurd (dt h) (by omega),fun _=>⟨zi (by omega) (by omega),fun h=>absurd (dt h) (by simp),fun _=>?_⟩⟩,fun h=>absurd (by simp) (df h)⟩⟩,fun h=>absurd (by simp) (df h)⟩;refine ⟨[],⟨by omega,by omega,rfl⟩,3,fun _=>⟨a,rfl,by simp;omega,zi (by omega) (by omega),fun _=>⟨b,rfl,by simp;omega,zi (by omega) (by omega),fun h=>absurd (dt h) (by simp),fun _=>?_⟩,fun h=>absurd (by simp) (df h)⟩,fun h=>absurd (by simp) (df h)⟩;show a++b=_;simp
theorem zkl {d e:List SNode} {a b:TS} (h:Rm d a) (k:Rm e b) (hd:d.length≤1000) (he:e.length≤1000):zfb d e a b (bytP d e (a,b)):=by
 have h1:=h.cls;have h2:=h.len;have k1:=k.cls;have k2:=k.len;have ho:=once_few2 d e a b;exact ⟨_,zid h.sm (by omega) (by omega),_,zid k.sm (by omega) (by omega),_,concat_in h1 k1,_,sets_Once_in (by rw [List.length_append];omega) (by omega),_,zn6 (by omega),rfl⟩
theorem waysP_in {d e:List SNode} {p:TP} (h:Rm d p.1) (k:Rm e p.2) (hd:d.length≤1000) (he:e.length≤1000):zbe p d e (zh6 d e p):=by
 refine ⟨_,zkl h k hd he, ?_⟩;have hbl:(bytP d e p).length≤256:=bytC_len _;refine zhz (P:=fun k out v=>zbe.l1 p d e (bytP d e p) _ k out v) (bytP d e p).length (fun i out=>out=(zh6 d e p).take i) ?_ ?_ _ (by simp)
 ·rintro i out hi rfl;have hc:=bytP_u8 (List.getElem_mem hi);have hi2:i<(zh6 d e p).length:=by unfold zh6;rw [List.length_map];exact hi
  refine .inr ⟨_,rfl,fun n hk=>⟨fun _=>⟨_,zgi hi,_,zow (h.on _ hc) hc,_,zow (k.on _ hc) hc, ?_,zi (by omega) (by omega), ?_⟩,fun h=>absurd (by omega) (df h)⟩⟩
  ·rw [List.length_take];simp;omega
  ·rw [List.take_succ_eq_append_getElem hi2] at hk;have e:(zh6 d e p)[i]=((bytP d e p)[i],(onS d (bytP d e p)[i] p.1,onS e (bytP d e p)[i] p.2)):=by simp [zh6]
   rw [e] at hk;exact hk
 ·rintro out rfl n;refine ⟨fun h=>absurd (dt h) (by omega),fun _=>?_⟩;show zh6 d e p=_;rw [List.take_of_length_le (by unfold zh6;rw [List.length_map];omega)]
structure Duo (d e:List SNode) (b:Int):Prop where
 r1:Rt d
 l1:d.length≤24
 t1:Txt d
 k1:Lk d b
 r2:Rt e
 l2:e.length≤24
 t2:Txt e
 k2:Lk e b
theorem Duo.turn {d e:List SNode} {b:Int} (h:Duo d e b):Duo e d b:=⟨h.r2,h.l2,h.t2,h.k2,h.r1,h.l1,h.t1,h.k1⟩
theorem walk_pair {d e:List SNode} {b:Int} (h:Duo d e b) (hb:b≤1000):
  ze (([stS d],[stS e]),(fun q_=>ze1 q_.1 q_.2),(fun q_=>zbe q_.1 d e q_.2),(fun q_=>zda q_.1 d e q_.2)) b (zgr (zee (zd2 d e) b)):=by
 have hst:ze1 ([stS d],[stS e]) (keyP ([stS d],[stS e])):=by
  have a:=zfy h.r1 h.l1 h.t1 (w:=[]) (fun c hc=>by cases hc) (u:=stS d) (by rw [zmc];simp);have b:=zfy h.r2 h.l2 h.t2 (w:=[]) (fun c hc=>by cases hc) (u:=stS e) (by rw [zmc];simp);exact zlo (d:=d) (e:=e) (fun s hs=>by rw [List.mem_singleton.1 hs];exact a.1) (fun s hs=>by rw [List.mem_singleton.1 hs];exact b.1) (by simp) (by simp)
 have l1:=h.l1;have l2:=h.l2;refine walkP_in (S:=zd2 d e) (kf:=keyP) keyP_inj hb (M:=256) (by omega) hst (fun i q hi hq=>?_) fun i q hi hq _=>?_
 ·obtain ⟨r1,r2⟩:=accP_rm h.k1 h.k2 hq hi;exact ⟨_,zib r1.sm (by have:=r1.len;show q.1.1.length≤_;omega),_,zib r2.sm (by have:=r2.len;show q.1.2.length≤_;omega),rfl⟩
 ·obtain ⟨r1,r2⟩:=accP_rm h.k1 h.k2 hq hi;obtain ⟨q1,q2,q3⟩:=zq5 hq;refine ⟨waysP_in r1 r2 (by omega) (by omega),waysP_len _ _ _,fun x hx=>?_⟩;obtain ⟨e1,e2⟩:=zk5 d e q.1 x.1 x.2 hx;have hu:∀c∈q.2.2.2++[x.1],InR .u8 c:=fun c hc=>(List.mem_append.1 hc).elim (q2 c) fun h=>by rw [List.mem_singleton.1 h];exact e1
  have ea:onS d x.1 q.1.1=zeo d (q.2.2.2++[x.1]):=by rw [zdt,q1]
  have eb:onS e x.1 q.1.2=zeo e (q.2.2.2++[x.1]):=by rw [zdt,q1]
  have oa:=r1.out _ e1;have ob:=r2.out _ e1;rw [e2];rw [ea] at oa ⊢;rw [eb] at ob ⊢;exact zlo (fun s hs=>(zfy h.r1 h.l1 h.t1 hu hs).1) (fun s hs=>(zfy h.r2 h.l2 h.t2 hu hs).1) oa ob
def zms (d:List SNode) (v:Int × List Int × Int × Option TP):Int:=if v.1=2 then (if ziq d (v.2.2.2.getD ([],[])).1=true then 1 else 2) else 0
def zdg (d e:List SNode) (b:Int):SVerdict:=((zee (zd2 d e) b).1,(zee (zd2 d e) b).2.1,[],0,zms d (zee (zd2 d e) b),0,(zee (zd2 d e) b).2.2.1)
theorem zca {d e:List SNode} {b:Int} (h:Duo d e b) (hb:b≤1000):zbt d e b (zdg d e b):=by
 have l1:=h.l1;have l2:=h.l2;refine ⟨_,zj4 h.r1.ne (by omega),_,zj4 h.r2.ne (by omega),_,walk_pair h hb,fun hk=>?_,fun hk=>?_⟩
 ·have:(zee (zd2 d e) b).1≠2:=by simpa [zgr] using hk
  simp [zdg,zms,zgr,this]
 ·have k2:(zee (zd2 d e) b).1=2:=by simpa [zgr] using hk
  obtain ⟨_,p2,_⟩:=zo1 h.r1 h.l1 h.t1 h.r2 h.l2 h.t2 (zml (zd2 d e) b);obtain ⟨u1,u2,u3,_⟩:=p2 k2;have hlen:=(zml (zd2 d e) b).len.2 k2;have r1:=h.k1 _ u1 (.inl hlen);have e1:(zgr (zee (zd2 d e) b)).2=(zeo d (zee (zd2 d e) b).2.1,zeo e (zee (zd2 d e) b).2.1):=by simp [zgr,u2]
  refine ⟨ziq d (zeo d (zee (zd2 d e) b).2.1), ?_,fun hs=>?_,fun hs=>?_⟩
  ·rw [e1];exact zib r1.sm (by have:=r1.len;show (zeo d (zee (zd2 d e) b).2.1).length≤_;omega)
  ·simp [zdg,zms,zgr,k2,u2,hs]
  ·simp [zdg,zms,zgr,k2,u2,hs]
def wN (d:List SNode) (w:List Int):Nat:=zm6 d ((d.length:Int)-1) w
theorem endS_wN (d:List SNode) (w:List Int):ziq d (zeo d w)=true↔wN d w≠0:=endS_word d w
theorem rt_root {a:List SNode} (h:Rt a):∃n,at? a ((a.length:Int)-1)=some n:=by
 have:=List.length_pos_iff.2 h.ne;obtain ⟨x,hx,_⟩:=zl0 (xs:=a) (i:=(a.length:Int)-1) (by omega) (by omega);exact ⟨x,hx⟩
theorem zkd {k:Int} {a b:List SNode}:Emb a (zde k a b) 0∧Emb b (zde k a b) (a.length:Int):=⟨by unfold zde;rw [List.append_assoc];exact zqx _,emb_mid⟩
section
variable {k : Int} {a b : List SNode} (ha : Rt a) (hb : Rt b) {w : List Int} (hw : ∀ c ∈ w,InR .u8 c)
include ha hb hw
theorem pair_left (hk:k=4∨k=5):zm6 (zde k a b) ((a.length:Int)-1) w=wN a w:=by
 obtain ⟨n,hn⟩:=rt_root ha;have:=node_emb (zkd (k:=k) (a:=a) (b:=b)).1 ha.toROk (zig ha hb hk).toROk hn hw
 rwa [Int.add_zero] at this
theorem pair_right (hk:k=4∨k=5):zm6 (zde k a b) ((a.length:Int)+(b.length:Int)-1) w=wN b w:=by
 obtain ⟨n,hn⟩:=rt_root hb;have:=node_emb (zkd (k:=k) (a:=a) (b:=b)).2 hb.toROk (zig ha hb hk).toROk hn hw;rw [show (b.length:Int)-1+(a.length:Int)=(a.length:Int)+(b.length:Int)-1 by omega] at this;exact this
theorem wN_or:wN (zde 5 a b) w=wN a w+wN b w:=by
 have hr:=zig ha hb (k:=5) (.inr rfl);unfold wN;rw [show (((zde 5 a b).length:Int)-1)=(a.length:Int)+(b.length:Int) by rw [zew];omega];rw [node_or hr.toROk (zkc 5 a b) rfl,pair_left ha hb hw (.inr rfl),pair_right ha hb hw (.inr rfl)];rfl
end
theorem aftS_or {a b:List SNode} (ha:Rt a) (hb:Rt b) {w:List Int} (hw:∀c∈w,InR .u8 c):(zeo (zde 5 a b) w).length≤pas a.length w.length+pas b.length w.length:=by
 have hr:=zig ha hb (k:=5) (.inr rfl);obtain ⟨ea,eb⟩:=zkd (k:=5) (a:=a) (b:=b);cases w with
 | nil=>
  have:=zjo a.length 0;show 1≤_;simp only [List.length_nil];omega
 | cons c w=>
  have hw0:∀b∈c::w,0≤b:=fun b hb=>(zfr.1 (hw b hb)).1;have ta:=ha.tr.emb ea;have tb:=hb.tr.emb eb;have c1:=cov_pas hr.toROk ta (c::w) hw0;have c2:=cov_pas hr.toROk tb (c::w) hw0;rw [show ((a.length:Int)-1+0-(0+0)+1).toNat=a.length by omega,Int.add_zero] at c1;rw [show ((b.length:Int)-1+(a.length:Int)-(0+(a.length:Int))+1).toNat=b.length by omega,show (b.length:Int)-1+(a.length:Int)=(a.length:Int)+(b.length:Int)-1 by omega] at c2;obtain ⟨K,k1,k2⟩:=c1.or c2 (r:=Rch (zde 5 a b) [(1,(a.length:Int)+(b.length:Int),0,0)] (c::w)) fun u hu=>rch_or hr.toROk (zkc 5 a b) rfl hu;rw [aftS_set];refine Nat.le_trans (zj5 (K:=K) fun u hu=>k2 u ⟨[],c::w,rfl,by simp, ?_⟩) k1;rw [show stS (zde 5 a b)=[(1,(a.length:Int)+(b.length:Int),0,0)] by unfold stS;rw [zew];simp] at hu;exact hu
theorem zi2 {k:Int} {a b:List SNode} (ha:Txt a) (hb:Txt b):Txt (zde k a b):=fun n hn=>by
 unfold zde at hn;rcases List.mem_append.1 hn with hn | hn
 ·rcases List.mem_append.1 hn with hn | hn
  ·exact ha n hn
  ·obtain ⟨m,hm,rfl⟩:=List.mem_map.1 hn;exact hb m hm
 ·rw [List.mem_singleton.1 hn];simp
theorem pair_no8 {k:Int} {a b:List SNode} (hk:k≠8∧k≠9) (ha:∀n∈a,n.1≠8∧n.1≠9) (hb:∀n∈b,n.1≠8∧n.1≠9):∀n∈zde k a b,n.1≠8∧n.1≠9:=fun n hn=>by
 unfold zde at hn;rcases List.mem_append.1 hn with hn | hn
 ·rcases List.mem_append.1 hn with hn | hn
  ·exact ha n hn
  ·obtain ⟨m,hm,rfl⟩:=List.mem_map.1 hn;exact hb m hm
 ·rw [List.mem_singleton.1 hn];exact hk
theorem szN_emb {l l':List SNode} {c:Int} (h:Emb l l' c):∀(k:Nat) (i:Int),(∃f,Tr l f i)→szN l' k (i+c)=szN l k i
 | 0,_,_=>rfl
 | k+1,i,⟨f,ht⟩=>by
  have ih:=szN_emb h k;cases ht with
  | leaf he hk hx h0=>
   rename_i e
   have e2:=h.get he;have e3:=h.2 _ _ he;unfold szN;rw [he,e3];simp only [zlb];rcases hk with k1 | k1 | k1 <;> simp [k1]
  | one he hk ha hb hr h1=>
   rename_i e
   have e3:=h.2 _ _ he;unfold szN;rw [he,e3];simp only [zlb];have ih:=ih (i-1) ⟨_,h1⟩;simp only [if_pos (show 4≤e.1 by omega),ha,if_neg (show ¬ (e.1=4∨e.1=5) by omega)];rw [show i-1+c=i-1+c from rfl,ih]
  | two he hk ha hb h1 h2=>
   rename_i p e
   have e3:=h.2 _ _ he;unfold szN;rw [he,e3];simp only [zlb];have i1:=ih (p-1) ⟨_,h2⟩;have i2:=ih (i-1) ⟨_,h1⟩;simp only [if_pos (show 4≤e.1 by omega),if_pos hk,ha,hb,i1,i2]
theorem szN_fuel {l:List SNode} {f i:Int} (h:Tr l f i):∀{k m:Nat},(i-f+1).toNat≤k→(i-f+1).toNat≤m→szN l k i=szN l m i:=by
 have hs:∀{i:Int} {e:SNode} (k:Nat),at? l i=some e→szN l (k+1) i=if e.1=2 then 1 else if e.1=3 then e.2.2.2.2.2.2.length else if e.1=4∨e.1=5 then szN l k e.2.1+szN l k e.2.2.1 else if e.1=6 then szN l k e.2.1 else if e.1=7 then e.2.2.2.2.1.toNat*szN l k e.2.1 else 0:=fun {i e} k he=>by
  simp only [szN,he]
 induction h with
 | leaf he hk hx h0=>
  intro k m h1 h2;obtain ⟨k,rfl⟩:∃q,k=q+1:=⟨k-1,by omega⟩;obtain ⟨m,rfl⟩:∃q,m=q+1:=⟨m-1,by omega⟩;rw [hs k he,hs m he];rcases hk with k1 | k1 | k1 <;> simp [k1]
 | one he hk ha hb hr h ih=>
  intro k m h1 h2;have:=h.le;obtain ⟨k,rfl⟩:∃q,k=q+1:=⟨k-1,by omega⟩;obtain ⟨m,rfl⟩:∃q,m=q+1:=⟨m-1,by omega⟩
  rename_i f i e
  rw [hs k he,hs m he,ha];have e45:¬ (e.1=4∨e.1=5):=by omega
  simp only [if_neg e45];rw [ih (k:=k) (m:=m) (by omega) (by omega)]
 | two he hk ha hb h1 h2 i1 i2=>
  intro k m g1 g2;have:=h1.le;have:=h2.le;obtain ⟨k,rfl⟩:∃q,k=q+1:=⟨k-1,by omega⟩;obtain ⟨m,rfl⟩:∃q,m=q+1:=⟨m-1,by omega⟩;rw [hs k he,hs m he,ha,hb];rw [i1 (k:=k) (m:=m) (by omega) (by omega),i2 (k:=k) (m:=m) (by omega) (by omega)]
theorem szN_pair {k:Int} {a b:List SNode} (ha:Rt a) (hb:Rt b) (hk:k=4∨k=5):szN (zde k a b) (zde k a b).length (((zde k a b).length:Int)-1)=szN a a.length ((a.length:Int)-1)+szN b b.length ((b.length:Int)-1):=by
 obtain ⟨ea,eb⟩:=zkd (k:=k) (a:=a) (b:=b);have ta:=ha.tr.emb ea;have tb:=hb.tr.emb eb;have la:=ha.tr.le;have lb:=hb.tr.le;rw [show (((zde k a b).length:Int)-1)=(a.length:Int)+(b.length:Int) by rw [zew];omega];rw [zew];simp only [szN,zkc];rw [if_neg (by omega),if_neg (by omega),if_pos hk];have e1:=szN_emb ea a.length ((a.length:Int)-1) ⟨_,ha.tr⟩;have e2:=szN_emb eb b.length ((b.length:Int)-1) ⟨_,hb.tr⟩;rw [← e1,← e2];rw [Int.add_zero,Int.add_zero] at ta;rw [Int.add_zero];rw [show (b.length:Int)-1+(a.length:Int)=(a.length:Int)+(b.length:Int)-1 by omega] at tb ⊢;rw [szN_fuel ta (k:=a.length+b.length) (m:=a.length) (by omega) (by omega),szN_fuel tb (k:=a.length+b.length) (m:=b.length) (by omega) (by omega)]
theorem pas_7_9:pas 7 9≤12000:=pas_le (by decide +kernel)
theorem pas_16_9c:pas 16 9≤2042975:=pas_le (by decide +kernel)
theorem lk_or {a b:List SNode} (ha:Rt a) (hb:Rt b) (la:a.length≤7) (lb:b.length≤16) (ta:Txt a) (tb:Txt b) {m:Int} (hm:m≤10):Lk (zde 5 a b) m:=fun w hw hwl=>by
 have h1:=aftS_or ha hb hw;have p1:pas a.length w.length≤12000:=zp9 (m':=7) (k':=9) (by omega) (by omega) pas_7_9;have p2:pas b.length w.length≤2042975:=zp9 (m':=16) (k':=9) (by omega) (by omega) pas_16_9c;exact rm_of (zig ha hb (.inr rfl)) (by rw [zew];omega) (zi2 ta tb) hw (by omega) (by omega)
end Go.Proofs.YtbojklnokglbhaaGreatDoor.V
namespace Go.Proofs.YtbojklnokglbhaaGreatDoor.V
open Go
set_option linter.unusedVariables false
theorem zn8 (a:SVerdict) (h1:a.2.1.length<9223372036854775807) (h2:a.2.2.1.length<9223372036854775807):zg9 a a true:=
 ⟨_,fun _=>zfj h1,_,fun _=>zfj h2,_,rfl,_,rfl,by simp⟩
def eDot:List SNode:=[(2,0,0,0,0,Cl.row 0 255,([]:Str))]
def eTwo:List SNode:=zde 4 eDot eDot
def eS:List SNode:=zjx 6 eDot
def eT:List SNode:=zjx 6 eTwo
theorem zjv:Rt eDot:=leaf_rt (.inr rfl) ⟨rfl,rfl⟩
theorem eTwo_rt:Rt eTwo:=zig zjv zjv (.inl rfl)
theorem eS_rt:Rt eS:=wrap_rt zjv (.inl rfl) fun _=>by decide +kernel
theorem eT_rt:Rt eT:=wrap_rt eTwo_rt (.inl rfl) fun _=>by decide +kernel
def pairH (d e:List SNode):Sch TP:=⟨([stS d],[stS e]),fun p=>((zf4 (zjw d p.1++zjw e p.2)).map fun n:Nat=>(n:Int)).map fun c=>(c,(onS d c p.1,onS e c p.2)),fun p=>ziq d p.1 != ziq e p.2⟩
theorem pairs_H (d e:List SNode):zd2 d e=pairH d e:=by
 unfold zd2 pairH zh6 bytP
 congr 1
 funext p;rw [zlg]
def verH (d e:List SNode) (b:Int):SVerdict:=((zee (pairH d e) b).1,(zee (pairH d e) b).2.1,[],0,zms d (zee (pairH d e) b),0,(zee (pairH d e) b).2.2.1)
theorem verP_H (d e:List SNode) (b:Int):zdg d e b=verH d e b:=by unfold zdg verH;rw [pairs_H]
theorem duo_small {d e:List SNode} (h1:Rt d) (l1:d.length≤17) (t1:Txt d) (h2:Rt e) (l2:e.length≤17) (t2:Txt e) {b:Int} (hb:b≤10):Duo d e b:=⟨h1,by omega,t1,zi5 h1 l1 t1 hb,h2,by omega,t2,zi5 h2 l2 t2 hb⟩
theorem eS_txt:Txt eS:=zj2 (by decide +kernel)
theorem eT_txt:Txt eT:=zj2 (by decide +kernel)
theorem eTwo_txt:Txt eTwo:=zj2 (by decide +kernel)
theorem eDot_txt:Txt eDot:=zj2 (by decide +kernel)
theorem awake19:zgf true:=by
 have u8:∀c:Int,0≤c∧c≤255→InR .u8 c:=fun c h=>zfr.2 h;have hst:∀b:Int,b≤10→Duo eS eT b:=fun b hb=>duo_small eS_rt (by decide +kernel) eS_txt eT_rt (by decide +kernel) eT_txt hb;have w1:zbt eS eT 9 (2,[0],[],0,1,0,2):=by
  have:=zca (hst 9 (by decide)) (by decide)
  rwa [verP_H,show verH eS eT 9=(2,[0],[],0,1,0,2) by decide +kernel] at this
 have w2:zbt eT eS 9 (2,[0],[],0,2,0,2):=by
  have:=zca (hst 9 (by decide)).turn (by decide)
  rwa [verP_H,show verH eT eS 9=(2,[0],[],0,2,0,2) by decide +kernel] at this
 have w3:zbt eS eS 9 (1,[],[],0,0,0,1):=by
  have:=zca (duo_small eS_rt (by decide +kernel) eS_txt eS_rt (by decide +kernel) eS_txt (b:=9) (by decide)) (by decide)
  rwa [verP_H,show verH eS eS 9=(1,[],[],0,0,0,1) by decide +kernel] at this
 have w4:zbt eS eT 1 (3,[],[],0,0,0,1):=by
  have:=zca (hst 1 (by decide)) (by decide)
  rwa [verP_H,show verH eS eT 1=(3,[],[],0,0,0,1) by decide +kernel] at this
 have w5:zbt eS eT (-1) (3,[],[],0,0,0,0):=by
  have:=zca (hst (-1) (by decide)) (by decide)
  rwa [verP_H,show verH eS eT (-1)=(3,[],[],0,0,0,0) by decide +kernel] at this
 have kd:Lk eDot 10:=zi5 zjv (by decide +kernel) eDot_txt (by decide);have kt:Lk eTwo 10:=zi5 eTwo_rt (by decide +kernel) eTwo_txt (by decide);have b1:zfb eDot eTwo [[(1,0,0,0)]] ([]:List (List SItem)) [0]:=by
  have:=zkl (kd [] (fun c hc=>by cases hc) (.inr (by decide))) (rm_nil _ (kt [] (fun c hc=>by cases hc) (.inr (by decide)))) (by decide +kernel) (by decide +kernel)
  rwa [show bytP eDot eTwo (zeo eDot [],[])=[0] by unfold bytP;rw [zlg];decide +kernel] at this
 refine ⟨Cl.row 0 255,zif (u8 0 (by decide)) (u8 255 (by decide)),eTwo,Pair_in zjv.tr zjv.tr (by decide) (by decide),eS,Wrap_in zjv.tr (by decide),eT,Wrap_in eTwo_rt.tr (by decide +kernel),_,w1,_,w2,_,w3,_,fun _=>zfj (by decide),_,rfl,_,rfl,_,fun _=>w4,_,fun _=>w5,_,fun _=>b1,_,fun _=>zfj (by decide),_,rfl, ?_⟩;decide
theorem few19 {d:List SNode} (ht:Txt d):∃r,zge d r∧(r=true→FewD d):=few_of ht
theorem duo_of {d e:List SNode} (hd:FewD d) (he:FewD e) (td:Txt d) (te:Txt e) {b:Int} (h:b≤10∨(∀n∈d,n.1≠8∧n.1≠9)∧∀n∈e,n.1≠8∧n.1≠9):Duo d e b:=
 ⟨hd.rt,by have:=hd.len;omega,td,hd.lk td (h.imp id And.left),he.rt,by have:=he.len;omega,te,he.lk te (h.imp id And.right)⟩
theorem guard19 {d e:List SNode} (ht:Txt d) (he:Txt e) (b:Int):∃r4 r6 r10:Bool,zge d r4∧zge e r6∧(r4=true→r6=true→zgc d e b r10)∧(r4=true→r6=true→r10=true→FewD d∧FewD e∧Duo d e b∧(b≤10∨(∀n∈d,n.1≠8∧n.1≠9)∧∀n∈e,n.1≠8∧n.1≠9)):=by
 obtain ⟨r4,h4,k4⟩:=few19 ht;obtain ⟨r6,h6,k6⟩:=few19 he
 by_cases hb:r4=true∧r6=true
 ·have f4:=k4 hb.1;have f6:=k6 hb.2;obtain ⟨r,h1,h2⟩:=Light_ex (d:=d) (e:=e) (by have:=f4.len;omega) (by have:=f6.len;omega) b;exact ⟨r4,r6,r,h4,h6,fun _ _=>h1,fun _ _ hr=>⟨f4,f6,duo_of f4 f6 ht he (h2 hr),h2 hr⟩⟩
 ·exact ⟨r4,r6,false,h4,h6,fun a b=>absurd ⟨a,b⟩ hb,fun _ _ h=>by cases h⟩
structure ToldP (d e:List SNode) (b:Int):Prop where
 yes:(zdg d e b).1=1→(zdg d e b).2.1=[]∧(zdg d e b).2.2.2.2.1=0∧∀w,(∀c∈w,InR .u8 c)→ziq d (zeo d w)=ziq e (zeo e w)
 no:(zdg d e b).1=2→(∀c∈(zdg d e b).2.1,InR .u8 c)∧((zdg d e b).2.1.length:Int)<b∧ziq d (zeo d (zdg d e b).2.1)≠ziq e (zeo e (zdg d e b).2.1)∧(zdg d e b).2.2.2.2.1=(if ziq d (zeo d (zdg d e b).2.1)=true then 1 else 2)∧∀w,(∀c∈w,InR .u8 c)→ziq d (zeo d w)≠ziq e (zeo e w)→sle (zdg d e b).2.1 w
 any:(zdg d e b).1=1∨(zdg d e b).1=2∨(zdg d e b).1=3
 lim:0≤b→(zdg d e b).1=3→(zdg d e b).2.1=[]∧(zdg d e b).2.2.2.2.2.2=b
 made:0≤b→(zdg d e b).2.2.2.2.2.2≤b
 len:(zdg d e b).2.1.length≤b.toNat
theorem toldP {d e:List SNode} {b:Int} (h:Duo d e b):ToldP d e b:=by
 have ho:=zml (zd2 d e) b;obtain ⟨p1,p2,p3⟩:=zo1 h.r1 h.l1 h.t1 h.r2 h.l2 h.t2 ho;refine ⟨fun h1=>?_,fun h2=>?_,p3,fun hb h3=>ho.lim hb h3,fun hb=>ho.made hb,ho.len.1⟩
 ·have h1:(zee (zd2 d e) b).1=1:=h1;obtain ⟨a,c⟩:=p1 h1;exact ⟨a,by simp [zdg,zms,h1],c⟩
 ·have h2:(zee (zd2 d e) b).1=2:=h2;obtain ⟨a,c,f,g⟩:=p2 h2;exact ⟨a,ho.len.2 h2,f,by simp [zdg,zms,h2,c],g⟩
theorem same19 {d e:List SNode} {b:Int} (h:Duo d e b) (hb:b≤1000):zg9 (zdg d e b) (zdg d e b) true:=
 zn8 _ (by have:=(toldP h).len;omega) (by simp [zdg])
theorem bytP_turn (d e:List SNode) (a b:TS):bytP e d (b,a)=bytP d e (a,b):=by
 unfold bytP bytC;exact zos fun x=>by rw [zfo,zfo,List.mem_append,List.mem_append];exact Or.comm
theorem pair_iso (d e:List SNode):Iso (zd2 d e) (zd2 e d) (fun p=>(p.2,p.1)):=by
 refine ⟨fun a b h=>?_,rfl,fun x=>?_,fun x=>?_⟩
 ·have h1:=congrArg Prod.fst h;have h2:=congrArg Prod.snd h;exact Prod.ext h2 h1
 ·show zh6 e d (x.2,x.1)=(zh6 d e x).map _;unfold zh6;rw [bytP_turn d e x.1 x.2,List.map_map];rfl
 ·show (ziq e x.2 != ziq d x.1)=(ziq d x.1 != ziq e x.2);cases ziq e x.2 <;> cases ziq d x.1 <;> rfl
theorem ver_turn {d e:List SNode} {b:Int} (h:Duo d e b):(zdg e d b).1=(zdg d e b).1∧(zdg e d b).2.1=(zdg d e b).2.1∧(zdg e d b).2.2.2.2.2.2=(zdg d e b).2.2.2.2.2.2∧((zdg d e b).1≠2→(zdg e d b).2.2.2.2.1=0∧(zdg d e b).2.2.2.2.1=0)∧((zdg d e b).1=2→(zdg e d b).2.2.2.2.1=3-(zdg d e b).2.2.2.2.1∧(zdg d e b).2.2.2.2.1≠3):=by
 have hi:=(pair_iso d e).srch b;have e1:(zdg e d b).1=(zdg d e b).1:=congrArg (·.1) hi;have e2:(zdg e d b).2.1=(zdg d e b).2.1:=congrArg (·.2.1) hi;have e3:(zdg e d b).2.2.2.2.2.2=(zdg d e b).2.2.2.2.2.2:=congrArg (·.2.2.1) hi;refine ⟨e1,e2,e3,fun hk=>⟨?_, ?_⟩,fun hk=>?_⟩
 ·have:(zee (zd2 e d) b).1≠2:=by rw [show (zee (zd2 e d) b).1=(zee (zd2 d e) b).1 from e1];exact hk
  show zms e (zee (zd2 e d) b)=0;unfold zms;rw [if_neg this]
 ·show zms d (zee (zd2 d e) b)=0;unfold zms;exact if_neg hk
 ·obtain ⟨_,_,u3,u4,_⟩:=(toldP h).no hk;obtain ⟨_,_,_,v4,_⟩:=(toldP h.turn).no (e1.trans hk);rw [e2] at v4;rw [u4,v4];cases h5:ziq d (zeo d (zdg d e b).2.1) <;> cases h6:ziq e (zeo e (zdg d e b).2.1) <;> simp_all
theorem Things_ex {d e:List SNode} (hl:d.length≤1000) (hm:e.length≤1000) (n:Int):∃r,zgo d e n r∧(r=min n 10∨r=n∧(∀n∈d,n.1≠8∧n.1≠9)∧∀n∈e,n.1≠8∧n.1≠9):=by
 obtain ⟨r,h1,h2⟩:=zme hl;obtain ⟨s,k1,k2⟩:=zme hm;cases hrs:(r||s)
 ·refine ⟨n,⟨r,h1,s,(fun _=>k1),(fun h=>by rw [hrs] at h;cases h),fun _=>rfl⟩,.inr ⟨rfl, ?_⟩⟩;rw [Bool.or_eq_false_iff] at hrs;exact ⟨h2 hrs.1,k2 hrs.2⟩
 ·exact ⟨min n 10,⟨r,h1,s,(fun _=>k1),(fun _=>rfl),fun h=>by rw [hrs] at h;cases h⟩,.inl rfl⟩
theorem endS_or {a b:List SNode} (ha:Rt a) (hb:Rt b) {w:List Int} (hw:∀c∈w,InR .u8 c):ziq (zde 5 a b) (zeo (zde 5 a b) w)=(ziq a (zeo a w)||ziq b (zeo b w)):=by
 rw [Bool.eq_iff_iff,Bool.or_eq_true,endS_wN,endS_wN,endS_wN,wN_or ha hb hw];omega
theorem law19_EquivTurned_true {d e:List SNode} {b:Int} (ht:Txt d) (he:Txt e) (hb:InR .u8 b):zbz d e b true:=by
 have hb':=zfr.1 hb;obtain ⟨r4,r6,r10,h4,h6,h10,hG⟩:=guard19 ht he b;refine ⟨true,awake19,r4,fun _=>h4,r6,fun _=>h6,_,rfl,r10,fun h=>h10 (by cases r4 <;> simp_all) (by cases r6 <;> simp_all),_,rfl,fun _=>⟨true,awake19,rfl⟩,fun hc=>?_⟩;simp only [Bool.not_true,Bool.false_or,Bool.or_eq_false_iff,Bool.not_eq_false',decide_eq_false_iff_not] at hc;obtain ⟨⟨⟨⟨g1,g2⟩,g3⟩,g4⟩,g5⟩:=hc;obtain ⟨f1,f2,hD,hlt⟩:=hG g1 g2 g5;have l1:=f1.len;have l2:=f2.len;obtain ⟨t1,t2,t3,t4,t5⟩:=ver_turn hD;have tb:=toldP hD;have fin:zbz.j1 d e b true (zdg d e b) (zdg d e b):=by
  have hdd:Rt (zde 5 d d):=zig hD.r1 hD.r1 (.inr rfl);have hde:Rt (zde 5 d e):=zig hD.r1 hD.r2 (.inr rfl);have D1:Duo d d b:=⟨hD.r1,hD.l1,ht,hD.k1,hD.r1,hD.l1,ht,hD.k1⟩;have kdd:Lk (zde 5 d d) b:=by
   rcases hlt with h | ⟨h,_⟩
   ·exact zi5 hdd (by rw [zew];omega) (zi2 ht ht) h
   ·exact zqj hdd (by rw [zew];omega) (zi2 ht ht) (nf_of (pair_no8 (by decide) h h) _ _) (by rw [szN_pair hD.r1 hD.r1 (.inr rfl)];have:=f1.sz h;omega) b
  have D2:Duo d (zde 5 d d) b:=⟨hD.r1,hD.l1,ht,hD.k1,hdd,by rw [zew];omega,zi2 ht ht,kdd⟩;have q1:(zdg d d b).1≠2:=fun h=>by
   obtain ⟨_,_,u3,_⟩:=(toldP D1).no h;exact u3 rfl
  have q2:(zdg d (zde 5 d d) b).1≠2:=fun h=>by
   obtain ⟨u1,_,u3,_⟩:=(toldP D2).no h;rw [endS_or hD.r1 hD.r1 u1,Bool.or_self] at u3;exact u3 rfl
  obtain ⟨r41,k41,o41⟩:=Things_ex (d:=d) (e:=e) (by omega) (by omega) 100;have kor:Lk (zde 5 d e) r41:=by
   rcases o41 with h | ⟨_,h1,h2⟩
   ·exact lk_or hD.r1 hD.r2 (by omega) l2 ht he (by omega)
   ·exact zqj hde (by rw [zew];omega) (zi2 ht he) (nf_of (pair_no8 (by decide) h1 h2) _ _) (by rw [szN_pair hD.r1 hD.r2 (.inr rfl)];have:=f1.sz h1;have:=f2.sz h2;omega) r41
  have D3:Duo (zde 5 d e) e r41:=⟨hde,by rw [zew];omega,zi2 ht he,kor,hD.r2,hD.l2,he,f2.lk he (o41.imp (fun h=>by omega) fun h=>h.2.2)⟩;refine ⟨true,same19 hD (by omega),(fun h=>by cases h),fun _=>⟨_,Pair_in hD.r1.tr hD.r1.tr (by omega) (by omega),_,zca D1 (by omega),_,fun _=>zca D2 (by omega),_,fun _=>Pair_in hD.r1.tr hD.r2.tr (by omega) (by omega),r41,fun _=>k41,_,fun _=>zca D3 (by omega),_,rfl, ?_⟩⟩;rw [show ((zdg d d b).1 != 2)=true by simp [q1],show ((zdg d (zde 5 d d) b).1 != 2)=true by simp [q2]]
  symm
  rw [Bool.true_and,Bool.true_and,Bool.or_eq_true,Bool.or_eq_true,bne_iff_ne,bne_iff_ne,beq_iff_eq]
  by_cases k2:(zdg d e b).1=2
  ·by_cases k1:(zdg (zde 5 d e) e r41).1=1
   ·right;obtain ⟨u1,u2,u3,u4,_⟩:=tb.no k2;have hy:=((toldP D3).yes k1).2.2 _ u1;rw [endS_or hD.r1 hD.r2 u1] at hy;rw [u4,if_neg];intro h;rw [h] at hy u3;simp at hy;exact u3 hy.symm
   ·exact .inl (.inr k1)
  ·exact .inl (.inl k2)
 refine ⟨_,zca hD (by omega),_,zca hD.turn (by omega),fun h=>?_,fun h=>?_⟩
 ·have hs:(zdg e d b).2.2.2.2.1≠0:=by simpa using h
  have k2:(zdg d e b).1=2:=by
   rcases Classical.em ((zdg d e b).1=2) with h | h
   ·exact h
   ·exact absurd (t4 h).1 hs
  obtain ⟨s1,s2⟩:=t5 k2;have hsd:(zdg d e b).2.2.2.2.1=1∨(zdg d e b).2.2.2.2.1=2:=by
   obtain ⟨_,_,_,u4,_⟩:=tb.no k2;rw [u4];split <;> simp
  have e:((zdg e d b).1,(zdg e d b).2.1,(zdg e d b).2.2.1,(zdg e d b).2.2.2.1,3-(zdg e d b).2.2.2.2.1,(zdg e d b).2.2.2.2.2.1,(zdg e d b).2.2.2.2.2.2)=zdg d e b:=by
   rw [t1,t2,t3,s1,show 3-(3-(zdg d e b).2.2.2.2.1)=(zdg d e b).2.2.2.2.1 by omega];rfl
  refine ⟨zi (by omega) (by omega), ?_⟩;rw [e];exact fin
 ·have hs:(zdg e d b).2.2.2.2.1=0:=by simpa using h
  have k2:(zdg d e b).1≠2:=fun k=>by
   obtain ⟨_,_,_,u4,_⟩:=tb.no k;have:=(t5 k).1;rw [u4] at this;split at this <;> omega
  have e:zdg e d b=zdg d e b:=by
   have:zdg e d b=((zdg e d b).1,(zdg e d b).2.1,(zdg e d b).2.2.1,(zdg e d b).2.2.2.1,(zdg e d b).2.2.2.2.1,(zdg e d b).2.2.2.2.2.1,(zdg e d b).2.2.2.2.2.2):=rfl;rw [this,t1,t2,t3,hs,← (t4 k2).2];rfl
  rw [e];exact fin
open Go.ChangeShapes Go.WideShapes Go.RowKit
structure Rd (P:Program) (t:TypeId) {α:Type} (E:En α) (G:α→Prop):Prop where
 sz:P.cellsOf t=E.sz
 rd:∀{H:Type} (enc:TypeId × Value→H) (w:World) (fuel:Nat) (cs:List Value) (x:DataW H × List MemPlace),
  DataW.trod enc P w 0 (fun _=>true) true fuel t cs=some x→(∀n∈x.1.weights P t,n≤reachBytes)→∃y,E.R w (fun b=>b<w.heap.size) cs y∧G y
 vl:∀(w:World) (v:Value),Value.okWide P w .any 0 t v→(∃y,E.R w (fun b=>b<w.heap.size) v.cells.toList y)→v=E.val v.cells.toList
theorem Rd.int {P:Program} {t:TypeId} {k:IntKind} (ht:P.underlying t=some (.int k)) (hc:P.cellsOf t=1):Rd P t (En.int k) (InR k):=by
 refine ⟨hc, ?_, ?_⟩
 ·intro H enc w fuel cs x h _;obtain ⟨n,rfl,_,hw⟩:=DataW.trod_int ht h;have:InR k n:=by simpa [Lit.wf,InR] using hw
  exact ⟨n,⟨rfl,this⟩,this⟩
 ·intro w v hv _;obtain ⟨n,rfl⟩:=okWide_int ht hv;rfl
theorem Rd.str {P:Program} {t:TypeId} (ht:P.underlying t=some .string) (hc:P.cellsOf t=1):Rd P t En.str (fun y=>y.length≤140737488351232):=by
 refine ⟨hc, ?_, ?_⟩
 ·intro H enc w fuel cs x h hwt;obtain ⟨s,rfl,hx,hs⟩:=DataW.trod_string ht h;have hl:s.data.toList.length≤9223372036854775807:=by simpa [maxLen] using hs
  have h2:s.data.toList.length≤140737488351232:=hwt _ (by rw [hx];simp [DataW.weights]);exact ⟨s.data.toList,⟨rfl,hl⟩,h2⟩
 ·intro w v hv _;simp only [Value.okWide,ht,Cell.okWide,Cell.ok] at hv;cases v <;> simp at hv;rfl
theorem zmf {H:Type} {P:Program} {e:TypeId}:∀{l:List (DataW H)} {d:DataW H},d∈l→∀n∈d.weights P e,n∈DataW.weightsAll P e l
 | [],_,h,_,_=>by cases h
 | d'::l,d,h,n,hn=>by
  simp only [DataW.weightsAll,List.mem_append];rcases List.mem_cons.1 h with rfl | h
  ·exact .inl hn
  ·exact .inr (zmf h n hn)
theorem Rd.slice {P:Program} {t e:TypeId} {α:Type} {E:En α} {G:α→Prop} (ht:P.underlying t=some (.slice e)) (hc:P.cellsOf t=1) (hby:Nat.blt 0 (P.bytesOf e)=true) (he:Rd P e E G):
  Rd P t (En.slice E) (fun xs=>xs.length≤140737488351232∧∀y∈xs,G y):=by
 refine ⟨hc, ?_, ?_⟩
 ·intro H enc w fuel cs x h hwt;rcases Deep.open_slice ht h with ⟨rfl,_⟩ | ⟨a,len,cap,m,n,D,Pl,rfl,hb,hl,hm,hmm,hxe,hx⟩
  ·exact ⟨[],⟨_,rfl,zdd E _ _⟩,Nat.zero_le _,by simp⟩
  ·simp only [if_true] at hmm;subst hmm;have hall:∀i,i<len→∃p:α × List Value,w.cells? 0 (a.add (i*P.cellsOf e)) (P.cellsOf e)=some p.2∧E.R w (fun b=>b<w.heap.size) p.2 p.1∧G p.1:=fun i hi=>by
    obtain ⟨cs',h1,h2⟩:=hx i (by omega);obtain ⟨y,h3,h4⟩:=he.rd enc w n cs' _ h2 fun q hq=>hwt q (by
     rw [hxe];simp only [DataW.weights,ht,List.mem_cons,List.mem_append];exact .inr (.inl (zmf (List.mem_map.2 ⟨i,by simpa using hi,rfl⟩) q hq)))
    exact ⟨(y,cs'),h1,h3,h4⟩
   have hmax2:len≤140737488351232:=by
    have h1:=hwt ((len+(m-len))*P.bytesOf e) (by rw [hxe];simp [DataW.weights,ht]);have h2:0<P.bytesOf e:=Nat.le_of_ble_eq_true hby;have h3:(len+(m-len))*1≤(len+(m-len))*P.bytesOf e:=Nat.mul_le_mul_left _ h2;have h4:reachBytes=140737488351232:=rfl;omega
   have hmax:len≤lim:=by have:maxLen≤lim:=by decide
                         omega
   by_cases h0:len=0
   ·subst h0;exact ⟨[],⟨_,rfl,some a,m,rfl,Nat.zero_le _,(fun h=>by cases h),Nat.zero_le _,fun h=>absurd rfl h⟩,Nat.zero_le _,by simp⟩
   have hinh:Inhabited (α × List Value):=⟨(hall 0 (by omega)).choose⟩;obtain ⟨f,hf⟩:=Deep.choose_lt hall;have hsz:=E.pos;rw [← he.sz] at hsz;obtain ⟨hcell0,hblk⟩:a.spot=none∧a.block<w.heap.size:=by
    obtain ⟨_,hl2,hcl⟩:=World.cells?_some (hf 0 (by omega)).1;have h2:=hcl 0 hsz;rw [List.getElem?_eq_getElem (by omega)] at h2;simp only [Nat.zero_mul,Addr.add,if_true,World.cell?] at h2;cases hb2:w.heap[a.block]? with
    | none=>simp [hb2] at h2
    | some o=>
     refine ⟨?_,(Array.getElem?_eq_some_iff.1 hb2).1⟩;cases o <;> simp [hb2] at h2;exact h2.1
   refine ⟨(List.range len).map (fun i=>(f i).1),⟨_,rfl,some a,m, ?_,by simpa using hl,(fun h=>by cases h),by simpa using hmax,fun _=>⟨a.block,a.off,(List.range len).map (fun i=>(f i).2), ?_,hblk,⟨by simp, ?_⟩, ?_⟩⟩,by simpa using hmax2, ?_⟩
   ·simp
   ·cases a;simp at hcell0;subst hcell0;rfl
   ·intro i c y hc1 hy1;have hi:i<len:=by have:=(List.getElem?_eq_some_iff.1 hc1).1;simpa using this
    simp [hi] at hc1 hy1;subst hc1;subst hy1;exact (hf i hi).2.1
   ·have hlens:∀c∈(List.range len).map (fun i=>(f i).2),c.length=E.sz:=by
     intro c hc;simp only [List.mem_map,List.mem_range] at hc;obtain ⟨i,hi,rfl⟩:=hc;rw [(World.cells?_some (hf i hi).1).2.1,he.sz]
    intro j u hj;have hjl:j<len*E.sz:=by
     have:=(List.getElem?_eq_some_iff.1 hj).1;rw [zgt hlens] at this;simpa using this
    have hp:0<E.sz:=E.pos;have hi:j / E.sz<len:=Nat.div_lt_of_lt_mul (by rw [Nat.mul_comm];exact hjl);have hk:j % E.sz<E.sz:=Nat.mod_lt _ hp;obtain ⟨_,hl2,hcl⟩:=World.cells?_some (hf _ hi).1;have hcell:=hcl (j % E.sz) (by rw [he.sz];exact hk);rw [he.sz] at hl2;have hg:=zi9 hlens (i:=j / E.sz) (cs:=(f (j / E.sz)).2) (j:=j % E.sz) (u:=(f (j / E.sz)).2[j % E.sz]'(by omega)) (by simp [hi]) (by simp);rw [Nat.mul_comm,Nat.div_add_mod] at hg;rw [hg] at hj;rw [List.getElem?_eq_getElem (by omega),hj,Deep.add_add,he.sz,Nat.mul_comm,Nat.div_add_mod] at hcell;rw [← hcell];cases a;simp at hcell0;subst hcell0;rw [zfz]
   ·intro y hy;simp only [List.mem_map,List.mem_range] at hy;obtain ⟨i,hi,rfl⟩:=hy;exact (hf i hi).2.2
 ·intro w v hv _;simp only [Value.okWide,ht,Cell.okWide,Cell.ok] at hv;cases v <;> simp at hv;rfl
theorem u64_word {n:Int} (h:InR .u64 n):∃m:Nat,m<2 ^ 64∧n=m:=by
 simp [InR,IntKind.min,IntKind.max,IntKind.signed,IntKind.bits] at h;exact ⟨n.toNat,by omega,by omega⟩
theorem Rd.cls {P:Program} {t e:TypeId} (ht:P.underlying t=some (.array 4 e)) (hc:P.cellsOf t=4) (he:P.underlying e=some (.int .u64)) (hce:P.cellsOf e=1):Rd P t En.cls (fun _=>True):=by
 refine ⟨hc, ?_, ?_⟩
 ·intro H enc w fuel cs x h _;obtain ⟨xs,m,rfl,rfl,hlen,hn,hx⟩:=DataW.trod_array ht h;rw [hc] at hlen
  match cs,hlen with
  | [u0,u1,u2,u3],_=>
   have hx':∀i (hi:i<4) u,[u0,u1,u2,u3][i]?=some u→∃q:Nat,q<2 ^ 64∧u = .int .u64 q:=by
    intro i hi u hu;have h1:=hx i hi;rw [hce,Nat.mul_one,List.getElem?_eq_getElem (by omega)] at h1;have h2:List.take 1 (List.drop i [u0,u1,u2,u3])=[u]:=by
     match i,hi with
     | 0,_ | 1,_ | 2,_ | 3,_=>simp at hu;subst hu;rfl
    rw [h2] at h1;obtain ⟨n,h3,_,h4⟩:=DataW.trod_int he h1;obtain ⟨q,hq,rfl⟩:=u64_word (n:=n) (by simpa [Lit.wf,InR] using h4);simp at h3;exact ⟨q,hq,h3⟩
   obtain ⟨q0,h0,rfl⟩:=hx' 0 (by omega) u0 rfl;obtain ⟨q1,h1,rfl⟩:=hx' 1 (by omega) u1 rfl;obtain ⟨q2,h2,rfl⟩:=hx' 2 (by omega) u2 rfl;obtain ⟨q3,h3,rfl⟩:=hx' 3 (by omega) u3 rfl;refine ⟨Cl.ofWords q0 q1 q2 q3, ?_,trivial⟩;obtain ⟨e0,e1,e2,e3⟩:=Cl.ofWords_word h0 h1 h2 h3;show _=zbu _;unfold zbu;rw [e0,e1,e2,e3]
 ·intro w v hv _;simp only [Value.okWide,ht] at hv;obtain ⟨cs,rfl,_⟩:=hv;simp [En.val,En.cls,Value.cells]
structure RdF (P:Program) (fs:List Field) (o:Nat) {α:Type} (E:En α) (G:α→Prop):Prop where
 rd:∀{H:Type} (enc:TypeId × Value→H) (w:World) (fuel:Nat) (cs:List Value) (xs:List (DataW H × List MemPlace)),xs.length=fs.length →
  (∀(i:Nat) (f:Field),fs[i]?=some f→DataW.trod enc P w 0 (fun _=>true) true fuel f.type ((cs.drop f.offset).take (P.cellsOf f.type))=xs[i]?) →
  (∀n∈DataW.weightsEach P (fs.map (·.type)) (xs.map (·.1)),n≤reachBytes)→∃y,E.R w (fun b=>b<w.heap.size) ((cs.drop o).take E.sz) y∧G y
theorem RdF.last {P:Program} {f:Field} {o:Nat} {α:Type} {E:En α} {G:α→Prop} (h:Rd P f.type E G) (ho:f.offset=o):RdF P [f] o E G:=⟨by
 intro H enc w fuel cs xs hl hx hw;obtain ⟨x,rfl⟩:∃x,xs=[x]:=List.length_eq_one_iff.1 hl;have h1:=hx 0 f rfl;rw [ho,h.sz] at h1;exact h.rd enc w fuel _ x h1 fun n hn=>hw n (by simp [DataW.weightsEach,hn])⟩
theorem RdF.solo {P:Program} {fs:List Field} {o:Nat} {α:Type} {E:En α} {G:α→Prop} (h:RdF P fs o E G):RdF P fs o E.solo G:=⟨h.rd⟩
theorem zn0 {xs:List Value} {o m n:Nat}:(xs.drop o).take (m+n)=(xs.drop o).take m++(xs.drop (o+m)).take n:=by
 rw [List.take_add,List.drop_drop]
theorem RdF.cons {P:Program} {f:Field} {fs:List Field} {o:Nat} {α β:Type} {E:En α} {F:En β} {G:α→Prop} {K:β→Prop} (h:Rd P f.type E G) (ho:f.offset=o) (hr:RdF P fs (o+E.sz) F K):RdF P (f::fs) o (E.cat F) (fun x=>G x.1∧K x.2):=⟨by
 intro H enc w fuel cs xs hl hx hw;obtain ⟨x,xs',rfl⟩:∃x xs',xs=x::xs':=by
  cases xs with
  | nil=>simp at hl
  | cons x xs'=>exact ⟨x,xs',rfl⟩
 have h1:=hx 0 f rfl;rw [ho,h.sz] at h1;obtain ⟨y,hy1,hy2⟩:=h.rd enc w fuel _ x h1 fun n hn=>hw n (by simp [DataW.weightsEach,hn]);obtain ⟨z,hz1,hz2⟩:=hr.rd enc w fuel cs xs' (by simpa using hl) (fun i g hg=>by have:=hx (i+1) g (by simpa using hg);simpa using this) fun n hn=>hw n (by
  simp only [List.map_cons,DataW.weightsEach,List.mem_append];exact .inr hn)
 exact ⟨(y,z),⟨_,_,zn0,hy1,hz1⟩,hy2,hz2⟩⟩
theorem Rd.struct {P:Program} {t:TypeId} {fs:Array Field} {α:Type} {E:En α} {G:α→Prop} (ht:P.underlying t=some (.struct fs)) (ha:E.agg=true) (hc:P.cellsOf t=E.sz) (h:RdF P fs.toList 0 E G):Rd P t E G:=by
 refine ⟨hc, ?_, ?_⟩
 ·intro H enc w fuel cs x hx hw;obtain ⟨xs,n,rfl,rfl,hlen,hxl,hf⟩:=DataW.trod_struct ht hx;obtain ⟨y,hy1,hy2⟩:=h.rd enc w n cs xs (by simpa using hxl) (fun i f hi=>hf i f (by simpa using hi)) fun q hq=>hw q (by
   simp only [DataW.weights,ht];exact hq)
  rw [List.drop_zero,List.take_of_length_le (by rw [hlen,hc];exact Nat.le_refl _)] at hy1;exact ⟨y,hy1,hy2⟩
 ·intro w v hv _;obtain ⟨cs,rfl,_⟩:=okWide_struct ht hv;unfold En.val;rw [ha];simp [Value.cells]
theorem Rd.open {P:Program} {t:TypeId} {α:Type} {E:En α} {G:α→Prop} (hr:Rd P t E G) {H:Type} {enc:TypeId × Value→H} {W:World} {v:Value} {d:DataW H} {p:List MemPlace}
  (hv:Value.okWide P W .any 0 t v) (hd:DataW.Trod enc P W 0 (fun _=>true) true t v d p) (hw:∀n∈d.weights P t,n≤reachBytes):∃y,(Pd.rep E y).p ⟨W,fun _=>False,fun _ h=>h.elim⟩ v∧G y:=by
 obtain ⟨fuel,h⟩:=hd;obtain ⟨y,hy,hg⟩:=hr.rd enc W fuel _ _ h hw;refine ⟨y,⟨v.cells.toList,hr.vl W v hv ⟨y,hy⟩, ?_⟩,hg⟩;exact E.mono (fun b hb=>⟨hb,fun h=>h⟩) hy
theorem Ex.below {s s':St} (h:Ex s s'):Below s.w.heap.size s.w s'.w:=⟨h.mv.os,h.mv.tape,h.mv.output,h.mv.size,fun k hk=>h.mv.blk k hk (fun h=>h)⟩
theorem okWide_any {P:Program} {W:World} {b:Nat} {t:TypeId} {v:Value} (h:Value.okWide P W .any b t v):Value.okWide P W .any 0 t v:=by
 unfold Value.okWide Row.okWide Cell.okWide Cell.ok World.has at *;exact h
section
variable {H : Type} {enc : TypeId × Value → H} {P : Program}
theorem stays {W W':World} (hl:laidOutB P=true) (hb:Below W.heap.size W W') {sp:Nat→Bool}:∀{ts:List TypeId} {vs:List Value} {ds:List (DataW H)} {ps:List MemPlace},
  (ts.all fun t=>P.readableRec t&&decide (t<P.types.size))=true→DataW.TrodAll enc P W 0 (fun _=>true) true ts vs ds ps→(∀p∈ps,p.block<W.heap.size)→(∀p∈ps,sp p.block=true) →
  DataW.TrodAll enc P W' 0 sp true ts vs ds ps
 | [],vs,ds,ps,_,h,_,_=>by
  obtain ⟨rfl,rfl,rfl⟩:=trodAll_nil h;exact trodAll_mk0
 | t::ts,vs,ds,ps,ha,h,hlt,hsp=>by
  obtain ⟨v,vs',d,ds',p,q,rfl,rfl,rfl,h1,h2⟩:=trodAll_cons h;simp only [List.all_cons,Bool.and_eq_true,decide_eq_true_eq] at ha;refine trodAll_cons_mk (WideElems.Trod_stays hl ha.1.1 ha.1.2 h1 (fun x hx=>hb.same (hlt x (List.mem_append_left _ hx))) fun x hx=>hsp x (List.mem_append_left _ hx)) ?_;exact stays hl hb (by simpa using ha.2) h2 (fun x hx=>hlt x (List.mem_append_right _ hx)) fun x hx=>hsp x (List.mem_append_right _ hx)
theorem post_law {f:Func} {s:ChangeSpec} {apart fresh handsOn again:Bool} {W W':World} {args:Array Value} {v:Value} {ds gs:List (DataW H)} {before:List MemPlace} {tb:TypeId}
  (hW:DataW.Whole enc P f.params.toList s.vars apart W args.toList ds gs before) (hb:Below W.heap.size W W') (hl:laidOutB P=true)
  (hrd:(f.params.toList.all fun t=>P.readableRec t&&decide (t<P.types.size))=true) (hs:s.vars=[]) (hrt:f.resultTypes = #[tb]) (hub:P.underlying tb=some .bool) (hv:v = .bool true)
  (hres:(s.fn H (ds++gs)).results=[.lit (.bool true)]) (hargs:(s.fn H (ds++gs)).args=ds) (hvars:(s.fn H (ds++gs)).vars=[]):s.post enc P f apart fresh handsOn again W args v W':=by
 subst hv;have hlt:=hW.lt;have hW':=hW;obtain ⟨p,q,hA,hV,rfl,hz,hn⟩:=hW;rw [hs] at hV;obtain ⟨rfl,rfl⟩:=trodVars_none hV;have hsub:∀x∈p,x∈p++([]:List MemPlace):=fun x hx=>by simpa using hx
 have harg:∀sp:Nat→Bool,(∀x∈p++([]:List MemPlace),sp x.block=true)→DataW.TrodAll enc P W' 0 sp true f.params.toList args.toList (s.fn H (ds++[])).args p:=fun sp hsp=>by
  rw [hargs];exact stays hl hb hrd hA (fun x hx=>hlt x (hsub x hx)) fun x hx=>hsp x (hsub x hx)
 have hvar:∀sp:Nat→Bool,DataW.TrodVars enc P W' sp s.vars (s.fn H (ds++[])).vars []:=fun sp=>by rw [hs,hvars];exact rfl
 have hr:∀(b:Nat) (sp:Nat→Bool) (hd:Bool),DataW.TrodAll enc P W' b sp hd f.resultTypes.toList ((Value.bool true).resultList f.resultTypes.size) (s.fn H (ds++[])).results []:=fun b sp hd=>by
  rw [hres,hrt];exact trodAll_cons_mk (shut_bool hub _) trodAll_mk0
 have hold:∀x∈p++([]:List MemPlace),(fun b=>decide (b<W.heap.size)) x.block=true:=fun x hx=>by simpa using hlt x hx
 refine ⟨ds,[],p++[],[],p,[],hW',hr _ _ _,harg _ hold,hvar _,World.keptBut_mono (fun x hx=>⟨hx, ?_⟩) (hb.frame (·∈p++[])),fun _=>?_⟩
 ·simpa using hx
 ·refine ⟨ok_one hrt rfl (okWide_bool_mk hub _),_,_,([]++p)++[],⟨[]++p,[],trodAll_append (harg _ (fun _ _=>rfl)) (hr _ _ _),hvar _,rfl, ?_, ?_⟩, ?_⟩
  ·intro b off hp;have hp':MemPlace.cell b off∈p++([]:List MemPlace):=by simpa using hp
   rw [hb.frozen (p:=⟨b,off,none⟩) (hlt _ hp')];exact hz b off hp'
  ·intro ha;simpa using hn ha
  ·intro x hx _;simpa using hx
end
end Go.Proofs.YtbojklnokglbhaaGreatDoor.V
namespace Go.Proofs.YtbojklnokglbhaaGreatDoor.V
open Go Go.ChangeShapes Go.WideShapes Go.RowKit
set_option linter.unusedVariables false
def lst4:List (String × DataW Unit):=[("math/bits.deBruijn32tab",Rows.laid_math_bits_deBruijn32tab),("math/bits.deBruijn64tab",Rows.laid_math_bits_deBruijn64tab),("internal/strconv.uint64pow10",Rows.laid_internal_strconv_uint64pow10),("scantling/heads.readies",Rows.laid_scantling_heads_readies)]
def lst:List (String × DataW Unit):=[("math/bits.deBruijn32tab",Rows.laid_math_bits_deBruijn32tab),("math/bits.deBruijn64tab",Rows.laid_math_bits_deBruijn64tab),("internal/strconv.uint64pow10",Rows.laid_internal_strconv_uint64pow10),("scantling/heads.readies",Rows.laid_scantling_heads_readies),("scantling/next.steps",Rows.laid_scantling_next_steps)]
theorem zoj {H:Type} {enc:TypeId × Value→H} {P:Program} {w:World} {base:Nat} {sp:Nat→Bool} {held:Bool} {fuel:Nat} {t e:TypeId} {n:Nat} {cs:List Value} {bs:List Bool} {p:List MemPlace}
  (ht:P.underlying t=some (.array n e)) (he:P.underlying e=some .bool) (hce:P.cellsOf e=1) (hct:P.cellsOf t=n)
  (h:DataW.trod enc P w base sp held fuel t cs=some (.agg (bs.map fun b=>.lit (.bool b)),p)):cs=bs.map Value.bool:=by
 obtain ⟨xs,m,rfl,hx,hl,hn,hf⟩:=DataW.trod_array ht h;have hx1:=congrArg Prod.fst hx;simp only [DataW.agg.injEq] at hx1;have hbl:bs.length=n:=by
  have:=congrArg List.length hx1;simp at this;omega
 apply List.ext_getElem?;intro i
 by_cases hi:i<n
 ·have h1:=hf i hi;rw [hce,Nat.mul_one,List.getElem?_eq_getElem (by omega)] at h1;obtain ⟨b,hc,hb⟩:=DataW.trod_bool he h1;have h2:cs[i]?=some (.bool b):=by
   have:=congrArg (·[0]?) hc;simpa [List.getElem?_take,List.getElem?_drop] using this
  have h3:(bs.map fun b=>(DataW.lit (.bool b):DataW H))[i]?=some (.lit (.bool b)):=by
   rw [hx1,List.getElem?_map,List.getElem?_eq_getElem (by omega),hb];rfl
  rw [List.getElem?_map,Option.map_eq_some_iff] at h3;obtain ⟨b',hb',e⟩:=h3;cases e;rw [h2,List.getElem?_map,hb'];rfl
 ·rw [List.getElem?_eq_none (by omega),List.getElem?_eq_none (by simp;omega)]
def nameB1:List UInt8:=[40,115,99,97,110,116,108,105,110,103,47,110,101,120,116,46,115,116,101,112,41,46,110,111,100,101]
def nameB3:List UInt8:=[40,115,99,97,110,116,108,105,110,103,47,110,101,120,116,46,115,116,101,112,41,46,116,101,120,116]
def nameB4:List UInt8:=[40,115,99,97,110,116,108,105,110,103,47,110,101,120,116,46,115,116,101,112,41,46,104,97,108,102]
def stepsD:DataW Unit:=.map [(.int .i64 1,.iface "func" (.lit (.string nameB1))),(.int .i64 3,.iface "func" (.lit (.string nameB3))),(.int .i64 4,.iface "func" (.lit (.string nameB4)))]
def stepsL:List (Lit × DataW (List UInt8)):=[(.int .i64 1,.held nameB1),(.int .i64 3,.held nameB3),(.int .i64 4,.held nameB4)]
theorem key_int {P:Program} {k:TypeId} (hk:P.underlying k=some (.int .i64)) {v:Value} {l:Lit} (h:keyOf P k v=some l):∃n:Int,v = .int .i64 n∧l = .int .i64 n∧InR .i64 n:=by
 rw [keyOf_int hk] at h;unfold mapKey at h;rw [hk] at h;cases v <;> simp at h;obtain ⟨⟨rfl,h2⟩,rfl⟩:=h;exact ⟨_,rfl,rfl,by simpa [Lit.wf,InR] using h2⟩
theorem zqa {P:Program} {t:TypeId} {ps rs:Array TypeId} {va:Bool} {v:Value} (ht:P.underlying t=some (.func ps rs va)) (h:v.formed P t=true):v.cells.toList=[v]:=by
 cases v <;> simp [Value.formed,ht] at h <;> rfl
def entY (e:MapEntry):Int × Option Nat:=match e.key with | .int _ n=>(n,zd3 gfmS n none) | _=>(0,none)
def entL (q:Lit × DataW (List UInt8)):Int × Option Nat:=match q.1 with | .int _ n=>(n,zd3 gfmS n none) | _=>(0,none)
def Steps (W:World):Prop:=∃m t fr es clock ys,W.heap[0]?=some (.cells #[.map (some m)] t fr)∧W.heap[m]?=some (.map es clock)∧Fmst es clock ys∧ys.Perm gfmS
theorem zn1 {W:World} (h:funcsAt Tryz.prog W "scantling/next.steps" stepsD):Steps W:=by
 obtain ⟨g,t,cs,fuel,p,hg,ht,hv,hd⟩:=h;have hg':Tryz.prog.globalNamed "scantling/next.steps"=some 0:=by kernel_rfl
 have hty:(Tryz.prog.globals[0]?).map (·.type)=some 168:=by kernel_rfl
 obtain rfl:=Option.some.inj (hg'.symm.trans hg);obtain rfl:=Option.some.inj (hty.symm.trans ht);have e:DataW.funcsOut stepsD = .map stepsL:=by kernel_rfl
 rw [e] at hd;have hkt:Tryz.prog.underlying 3=some (.int .i64):=Tryz.underlying3;rcases WideElems.open_map Tryz.underlying168 hd with ⟨_,hx⟩ | ⟨m,es,clock,n,rfl,hcs,hb,_,F,hx⟩
 ·simp at hx
 ·simp only [Prod.mk.injEq,DataW.map.injEq] at hx;have hp:stepsL.Perm (es.toList.map (WideElems.rg Tryz.prog 3 (WideElems.elemAt (funcToken Tryz.prog) Tryz.prog W 0 (fun _=>true) true n 166))):=by
   rw [hx.1];exact sorted_perm _
  have ent:∀x∈es.toList,∃i:Int,x.key = .int .i64 i∧InR .i64 i∧entL (WideElems.rg Tryz.prog 3 (WideElems.elemAt (funcToken Tryz.prog) Tryz.prog W 0 (fun _=>true) true n 166) x)=(i,zd3 gfmS i none)∧x.val=fidV (zd3 gfmS i none):=by
   intro x hx';obtain ⟨y,hy⟩:=F.reads x hx';have hrg:=WideElems.rg_of hy;have hm:y∈stepsL:=hp.mem_iff.2 (List.mem_map.2 ⟨x,hx',hrg⟩);obtain ⟨i,hk1,hk2,hk3⟩:=key_int hkt (WideElems.rd_key hy);obtain ⟨z,hz1,hz2⟩:=WideElems.rd_val hy;unfold WideElems.elemAt at hz1;split at hz1
   case isFalse=>cases hz1
   rename_i hf
   rw [zqa Tryz.underlying166 hf] at hz1;refine ⟨i,hk1,hk3,by rw [hrg];simp only [entL,hk2], ?_⟩;unfold stepsL at hm;simp only [List.mem_cons,List.not_mem_nil,or_false] at hm;rcases hm with rfl | rfl | rfl
   ·simp only [Lit.int.injEq,true_and] at hk2;subst hk2;obtain ⟨z1,z2⟩:=z;simp only at hz2;subst hz2;exact func_of_trod (f0:=200) Tryz.underlying166 (by kernel_rfl) hz1
   ·simp only [Lit.int.injEq,true_and] at hk2;subst hk2;obtain ⟨z1,z2⟩:=z;simp only at hz2;subst hz2;exact func_of_trod (f0:=201) Tryz.underlying166 (by kernel_rfl) hz1
   ·simp only [Lit.int.injEq,true_and] at hk2;subst hk2;obtain ⟨z1,z2⟩:=z;simp only at hz2;subst hz2;exact func_of_trod (f0:=198) Tryz.underlying166 (by kernel_rfl) hz1
  obtain ⟨o,ho,hcell⟩:∃t fr,W.heap[0]?=some (.cells #[.map (some m)] t fr):=by
   unfold World.var? at hv;rw [hg'] at hv;simp only [Option.bind_some] at hv;split at hv
   ·rename_i cs' t' fr' hc
    refine ⟨t',fr', ?_⟩;rw [hc];simp only [Option.some.injEq] at hv;rw [hv,← Array.toArray_toList (xs:=cs),hcs]
   ·cases hv
  refine ⟨m,o,ho,es,clock,es.toList.map entY,hcell,hb,⟨F.stamped,by simp,fun i e q h1 h2=>?_⟩, ?_⟩
  ·have hm:=List.mem_of_getElem? h1;obtain ⟨j,hk1,hk3,_,hval⟩:=ent e hm;rw [List.getElem?_map,h1] at h2;simp only [Option.map_some,Option.some.injEq] at h2;subst h2;have hr:=zg2.1 hk3;simp only [entY,hk1];exact ⟨trivial,hr,hval⟩
  ·have h3:=(hp.map entL).symm;have e1:stepsL.map entL=gfmS:=by kernel_rfl
   rw [e1,List.map_map] at h3;refine List.Perm.trans (List.Perm.of_eq (List.map_congr_left fun x hx'=>?_)) h3;obtain ⟨j,hk1,_,hL,_⟩:=ent x hx';simp only [Function.comp,entY,hk1];exact hL.symm
def Tabs (W:World):Prop:=(Lib.TabIs Tryz.prog W "internal/strconv.uint64pow10" .u64 Lib.pow10Tab∧W.var? Tryz.prog "scantling/heads.readies"=some (gdat1.map Value.bool).toArray)∧Steps W
theorem tab_of_laid {W:World} (h:laidMetH Tryz.prog lst W):Tabs W:=by
 have hs:("scantling/next.steps",(DataW.iface "func table" stepsD:DataW Unit))∈lst:=by
  have e:(Rows.laid_scantling_next_steps:DataW Unit)=DataW.iface "func table" stepsD:=by kernel_rfl
  unfold lst;rw [e];simp
 have h3:=zn1 (h.funcs hs);have e0:laidMetH Tryz.prog lst W=(laidMet Tryz.prog lst4 W∧handlesMet Tryz.prog [("scantling/next.steps",Rows.laid_scantling_next_steps)] W):=by kernel_rfl
 rw [e0] at h;have h':=h.1;unfold lst4 at h';refine ⟨⟨?_, ?_⟩,h3⟩
 ·have e:(Rows.laid_internal_strconv_uint64pow10:DataW Unit)=Lib.tabData .u64 Lib.pow10Tab:=by kernel_rfl
  have h2:=h'.tail.tail;rw [e] at h2;exact Lib.tabIs_of_head (g:=2) (t:=229) (e:=49) (n:=20) (by kernel_rfl) (by kernel_rfl) Tryz.underlying229 Tryz.underlying49 (by kernel_rfl) (by kernel_rfl) h2
 ·have e:(Rows.laid_scantling_heads_readies:DataW Unit) = .agg (gdat1.map fun b=>.lit (.bool b)):=by kernel_rfl
  have h2:=h'.tail.tail.tail;rw [e] at h2;obtain ⟨ps,⟨g',t',cs,fuel,p,q,hg',ht',hvar,hd,_,_⟩,_⟩:=h2;have hg:Tryz.prog.globalNamed "scantling/heads.readies"=some 1:=by kernel_rfl
  have hty:(Tryz.prog.globals[1]?).map (·.type)=some 213:=by kernel_rfl
  obtain rfl:=Option.some.inj (hg.symm.trans hg');obtain rfl:=Option.some.inj (hty.symm.trans ht');rw [hvar,← zoj Tryz.underlying213 (e:=4) Tryz.underlying4 (by kernel_rfl) (by kernel_rfl) hd]
theorem gl_of_tab {W:World} (h:Tabs W):Gl ⟨W,fun _=>False,fun _ h=>h.elim⟩:=by
 obtain ⟨⟨h1,h2⟩,h3⟩:=h;refine ⟨fun p hp=>?_,fun p hp=>?_⟩
 ·unfold gtab at hp;rcases List.mem_cons.1 hp with rfl | hp
  ·refine ⟨fun h=>h, ?_⟩;unfold Lib.TabIs World.var? at h1;have hg:Tryz.prog.globalNamed "internal/strconv.uint64pow10"=some 2:=by kernel_rfl
   rw [hg] at h1;simp only [Option.bind_some] at h1;split at h1
   ·rename_i cs t fr hc
    refine ⟨t,fr, ?_⟩;show W.heap[2]?=_;rw [hc];simp only [Option.some.injEq] at h1;rw [h1];simp [Lib.pow10Tab]
   ·cases h1
  ·obtain rfl:=List.mem_singleton.1 hp;refine ⟨fun h=>h, ?_⟩;unfold World.var? at h2;have hg:Tryz.prog.globalNamed "scantling/heads.readies"=some 1:=by kernel_rfl
   rw [hg] at h2;simp only [Option.bind_some] at h2;split at h2
   ·rename_i cs t fr hc
    refine ⟨t,fr, ?_⟩;show W.heap[1]?=_;rw [hc];simp only [Option.some.injEq] at h2;rw [h2]
   ·cases h2
 ·unfold gmap at hp;obtain rfl:=List.mem_singleton.1 hp;obtain ⟨m,t,fr,es,clock,ys,k1,k2,k3,k4⟩:=h3;exact ⟨fun h=>h,m,t,fr,es,clock,ys,k1,fun h=>h,k2,k3,k4⟩
noncomputable def laidWorld (os:Os):World:=World.doorLaid Tryz.prog 400 os
theorem laid_met (os:Os) (args:Array Value):laidMetH Tryz.prog lst ((laidWorld os).forCall (fun _ _=>0) ⟨#[],args,[]⟩).memory:=
 laidMetH_of_parts3 (fuel:=8) (laidMet_of_run' 8 (by kernel_rfl) (by kernel_rfl)) (by kernel_rfl) (by kernel_rfl)
theorem weigh {H:Type} {P:Program} {ts:List TypeId} {ds:List (DataW H)} (h:(DataW.weightsEach P ts ds).all (·≤reachBytes)=true) (j:Nat) {t:TypeId} {d:DataW H} (ht:ts[j]?=some t) (hd:ds[j]?=some d):∀n∈d.weights P t,n≤reachBytes:=fun n hn=>by
 have:=List.all_eq_true.1 h n (DataW.weights_mem_each ht hd n hn);simpa using this
end Go.Proofs.YtbojklnokglbhaaGreatDoor.V
