/-
  The texts that the law's proof needs, part 5.
-/
import Derived.Test.YtjdaaiodniicoaaGreatDoorTwicePartsP4

namespace Go.Proofs.YtjdaaiodniicoaaGreatDoor.V
open Go
set_option linter.unusedVariables false
theorem ref01_Of_l2 {l:List Bool} (hl:l.length=256) {w:Nat} (hw:w<4) {X:Cl→Prop} {s:Cl} (h0:s.word w=0) (hX:∀t:Cl,(∀j,j<4→t.word j=if j=w then zep (fun j=>l.getD (64*w+j) false) 64 else s.word j)→X t):
  ∃k,zbp.l2 l (w:Int) X k s 1 0:=by
 refine zh8 (P:=fun k (s:Cl × Int) v=>zbp.l2 l (w:Int) X k s.1 s.2 v) 64
  (fun i t=>(∀j,j<4→t.1.word j=if j=w then zep (fun j=>l.getD (64*w+j) false) i else s.word j)∧t.2=((2 ^ i % 2 ^ 64:Nat):Int)) ?_ ?_ (s,1) ?_
 ·rintro i ⟨t,b⟩ hi ⟨h1,h2⟩;simp only at h1 h2;subst h2;have hb:=zpf (fun j=>l.getD (64*w+j) false) (i+1);have hp:2 ^ (i+1)≤2 ^ 64:=Nat.pow_le_pow_right (by omega) (by omega);have hp2:2 ^ i<2 ^ 64:=Nat.pow_lt_pow_right (by omega) hi;have hbit:IntKind.wrap .u64 (((2 ^ i % 2 ^ 64:Nat):Int)*2)=((2 ^ (i+1) % 2 ^ 64:Nat):Int):=by
   rw [zm9,Nat.mod_eq_of_lt hp2,Nat.pow_succ];omega
  have hat:at? l (64*(w:Int)+(i:Int))=some (l.getD (64*w+i) false):=by
   rw [show (64*(w:Int)+(i:Int))=((64*w+i:Nat):Int) by omega,zbm,List.getElem?_eq_getElem (by omega)];simp [List.getD,List.getElem?_eq_getElem (show 64*w+i<l.length by omega)]
  cases he:l.getD (64*w+i) false
  ·refine .inr ⟨(t,((2 ^ (i+1) % 2 ^ 64:Nat):Int)),⟨fun j hj=>?_,rfl⟩,fun k h=>⟨fun _=>⟨zi (by omega) (by omega),zi (by omega) (by omega),_,hat,fun hc=>(by rw [he] at hc;cases hc),fun _=>⟨zi (by omega) (by omega), ?_⟩⟩,fun h=>absurd (by omega) (df h)⟩⟩
   ·simp only;rw [h1 j hj];split
    ·simp only [zep,he,cond_false]
    ·rfl
   ·rw [hbit];exact h
  ·refine .inr ⟨(t.setw (w:Int) ((zep (fun j=>l.getD (64*w+j) false) (i+1):Nat):Int),((2 ^ (i+1) % 2 ^ 64:Nat):Int)),⟨fun j hj=>?_,rfl⟩,fun k h=>⟨fun _=>⟨zi (by omega) (by omega),zi (by omega) (by omega),_,hat,fun _=>⟨⟨by omega,by omega⟩,⟨by omega,by omega⟩,zi (by omega) (by omega), ?_⟩,fun hc=>(by rw [he] at hc;cases hc)⟩,fun h=>absurd (by omega) (df h)⟩⟩
   ·simp only;rw [zn9 (by rw [Int.toNat_natCast];omega) j hj,Int.toNat_natCast];split
    ·rfl
    ·rename_i e;rw [h1 j hj,if_neg e]
   ·have hww:(Cl.w t (w:Int))=((zep (fun j=>l.getD (64*w+j) false) i:Nat):Int):=by
     show ((t.word ((w:Int).toNat):Nat):Int)=_;rw [Int.toNat_natCast,h1 w hw,if_pos rfl]
    have hsum:IntKind.wrap .u64 (Cl.w t (w:Int)+((2 ^ i % 2 ^ 64:Nat):Int))=((zep (fun j=>l.getD (64*w+j) false) (i+1):Nat):Int):=by
     have e2:zep (fun j=>l.getD (64*w+j) false) (i+1)=2 ^ i+zep (fun j=>l.getD (64*w+j) false) i:=by simp only [zep,he,cond_true]
     rw [hww,zm9,Nat.mod_eq_of_lt hp2];omega
    rw [hbit,hsum];exact h
 ·rintro ⟨t,b⟩ ⟨h1,_⟩ k;exact ⟨fun h=>absurd (dt h) (by omega),fun _=>hX t h1⟩
 ·refine ⟨fun j hj=>?_,by rfl⟩;split
  ·rename_i e;subst e;simpa [zep] using h0
  ·rfl
theorem ofL_word {l:List Bool} {w:Nat} (hw:w<4):(Cl.ofL l).word w=zep (fun j=>l.getD (64*w+j) false) 64:=by
 refine zi5 hw (zpf _ 64) fun j hj=>?_;rw [has_ofL (by omega),zqy];simp [hj]
theorem ref01_Of_in {l:List Bool} (hl:l.length=256):zbp l (Cl.ofL l):=by
 refine zh8 (P:=fun k (s:Cl) v=>zbp.l1 l _ k s v) 4 (fun i s=>∀j,j<4→s.word j=if j<i then (Cl.ofL l).word j else 0) ?_ ?_ _ ?_
 ·intro i s hi h;refine .inr ⟨Cl.ofWords (if 0<i+1 then (Cl.ofL l).word 0 else 0) (if 1<i+1 then (Cl.ofL l).word 1 else 0) (if 2<i+1 then (Cl.ofL l).word 2 else 0) (if 3<i+1 then (Cl.ofL l).word 3 else 0), ?_,fun k hk=>⟨fun _=>?_,fun h=>absurd (by omega) (df h)⟩⟩
  ·have hb:∀(c:Prop) [Decidable c] (k:Nat),(if c then (Cl.ofL l).word k else 0)<2 ^ 64:=fun c _ k=>by
    split
    ·exact Cl.word_lt _ _
    ·omega
   obtain ⟨e0,e1,e2,e3⟩:=Cl.ofWords_word (hb (0<i+1) 0) (hb (1<i+1) 1) (hb (2<i+1) 2) (hb (3<i+1) 3);intro j hj
   match j,hj with
   | 0,_=>exact e0
   | 1,_=>exact e1
   | 2,_=>exact e2
   | 3,_=>exact e3
  ·refine ref01_Of_l2 hl hi (by rw [h i hi,if_neg (by omega)]) fun t ht=>?_;refine ⟨zi (by omega) (by omega), ?_⟩;have hb:∀(c:Prop) [Decidable c] (k:Nat),(if c then (Cl.ofL l).word k else 0)<2 ^ 64:=fun c _ k=>by
    split
    ·exact Cl.word_lt _ _
    ·omega
   obtain ⟨e0,e1,e2,e3⟩:=Cl.ofWords_word (hb (0<i+1) 0) (hb (1<i+1) 1) (hb (2<i+1) 2) (hb (3<i+1) 3);have key:∀j,j<4→t.word j=if j<i+1 then (Cl.ofL l).word j else 0:=fun j hj=>by
    rw [ht j hj]
    by_cases e:j=i
    ·subst e;rw [if_pos rfl,if_pos (by omega),ofL_word hj]
    ·rw [if_neg e,h j hj]
     by_cases e2:j<i
     ·rw [if_pos e2,if_pos (by omega)]
     ·rw [if_neg e2,if_neg (by omega)]
   have:t=_:=Cl.ext_words (x:=t) (y:=Cl.ofWords (if 0<i+1 then (Cl.ofL l).word 0 else 0) (if 1<i+1 then (Cl.ofL l).word 1 else 0) (if 2<i+1 then (Cl.ofL l).word 2 else 0) (if 3<i+1 then (Cl.ofL l).word 3 else 0)) fun j hj=>by
    rw [key j hj]
    match j,hj with
    | 0,_=>exact e0.symm
    | 1,_=>exact e1.symm
    | 2,_=>exact e2.symm
    | 3,_=>exact e3.symm
   rw [this];exact hk
 ·intro s h k;refine ⟨fun h=>absurd (dt h) (by omega),fun _=>?_⟩;show Cl.ofL l=s;exact Cl.ext_words fun j hj=>by rw [h j hj,if_pos hj]
 ·intro j hj;simp [Cl.word]
theorem ofL_set {l:List Bool} {f:Nat→Bool} (h:∀n,n<256→l[n]?=some (f n)):Cl.ofL l=Cl.of f:=by
 apply Cl.ext;intro c hc;rw [has_ofL hc,Cl.of_has _ hc];simp [List.getD,h c hc]
theorem zjb {f t:Int} (hf:InR .u8 f) (ht:InR .u8 t):zcz f t (Cl.row f t):=by
 obtain ⟨f,hf1,rfl⟩:=u8_of hf;obtain ⟨t,ht1,rfl⟩:=u8_of ht;refine run (P:=fun k (s:List Bool × Int)=>zcz.l1 (t:Int) _ k s.1 s.2)
  (fun s=>s.1.length=256∧∃i:Nat,s.2=i∧f≤i∧(i≤t+1∨i=f)∧∀n,n<256→s.1[n]?=some (decide (f≤n)&&decide (n<i))) (fun s=>257-s.2.toNat) ?_ (List.replicate 256 false,(f:Int)) ?_
 ·rintro ⟨l,i'⟩ ⟨hl,i,hi,h1,h2,h3⟩;simp only at hl hi h3;subst hi
  by_cases hc:i≤t
  ·refine .inr ⟨(l.set i true,((i+1:Nat):Int)),⟨by simpa using hl,i+1,rfl,by omega,by omega,fun n hn=>?_⟩, ?_,fun k h=>⟨fun _=>⟨l[i]'(by omega),by rw [zbm];exact List.getElem?_eq_getElem (by show i<l.length;omega),zi (by simp only;omega) (by simp only;omega), ?_⟩,fun h=>absurd (by show (i:Int)≤(t:Int);omega) (df h)⟩⟩
   ·simp only [List.getElem?_set];split
    ·rename_i e;subst e;simp [show i<l.length by omega,h1]
    ·rename_i e
     rw [h3 n hn];congr 2;apply decide_eq_decide.2;omega
   ·simp only [Int.toNat_natCast];omega
   ·simpa using h
  ·refine .inl fun k=>⟨fun h=>absurd (dt h) (by simp only;omega),fun _=>⟨Cl.ofL l,ref01_Of_in hl, ?_⟩⟩;rw [ofL_set h3];apply Cl.ext;intro c hc2;rw [zkx hc2,Cl.of_has _ hc2]
   by_cases e:f≤c
   ·have e3:(decide (c<i):Bool)=decide (c≤t):=decide_eq_decide.2 (by omega);rw [e3]
    congr 1
    ·apply decide_eq_decide.2;omega
    ·apply decide_eq_decide.2;omega
   ·rw [decide_eq_false (show ¬ (f:Int)≤(c:Int) by omega),decide_eq_false e];simp
 ·refine ⟨List.length_replicate,f,rfl,Nat.le_refl _,by omega,fun n hn=>?_⟩;show (List.replicate 256 false)[n]?=_;rw [List.getElem?_replicate,if_pos hn]
  by_cases e:f≤n
  ·simp [show ¬ n<f by omega]
  ·simp [e]
def zba (d:List SNode) (s:List SItem) (c:Int):List SItem × Bool:=
 match s with
 | []=>([],false)
 | x::rest=>
  if (zds rest).2=false then ([],false)
  else match at? d x.2.1 with
   | none=>([],false)
   | some n=>
    if x.1=3 then (if zd9 n.2.2.2.2.2.2 x.2.2.1=some c then ((if x.2.2.1+1<(n.2.2.2.2.2.2.length:Int) then [(3,x.2.1,x.2.2.1+1,0)] else [])++(zds rest).1,true) else ([],false))
    else if x.1=4 then ([(1,n.2.1,0,0),(5,0,256*x.2.2.1+c,0)]++(zds rest).1,true)
    else if n.1=8 then ([(1,n.2.1,0,0),(5,0,c,0)]++(zds rest).1,true)
    else if n.1=9 then ([(4,x.2.1,c,0)]++(zds rest).1,true)
    else if n.2.2.2.2.2.1.has c.toNat=true then ((zds rest).1,true) else ([],false)
theorem zrz (s:List SItem):(zds s).1.length≤s.length:=by unfold zds;split <;> simp
theorem zla (d:List SNode) (s:List SItem) (c:Int):(zba d s c).1.length≤s.length+1:=by
 cases s with
 | nil=>simp [zba]
 | cons x rest=>
  have:=zrz rest;unfold zba;simp only;split
  ·simp
  ·cases at? d x.2.1 with
   | none=>simp
   | some n=>
    simp only [List.length_cons];split
    ·split
     ·split <;> simp <;> omega
     ·simp
    ·split
     ·simp;omega
     ·split
      ·simp;omega
      ·split
       ·simp;omega
       ·split <;> simp;omega
theorem itR_form {d:List SNode} (hd:ROk d) (hl:d.length≤1000) (ht:∀n∈d,n.2.2.2.2.2.2.length≤140737488351232) {x:SItem} (hx:ze0 d x=true):ItR x:=by
 unfold ze0 at hx;split at hx
 ·rename_i h5
  simp only [Bool.and_eq_true,beq_iff_eq,decide_eq_true_eq] at hx;exact ⟨zi (by omega) (by omega),zi (by omega) (by omega),zi (by omega) (by omega),zi (by omega) (by omega)⟩
 ·cases hn:at? d x.2.1 with
  | none=>rw [hn] at hx;cases hx
  | some n=>
   rw [hn] at hx;have hb:=zbq hn;have hm:n∈d:=by
    obtain ⟨k,_,hk⟩:=zm5 hn;exact List.mem_of_getElem? hk
   have htn:=ht n hm;simp only at hx;split at hx
   ·rename_i h1
    simp only [Bool.and_eq_true,beq_iff_eq] at hx;exact ⟨zi (by omega) (by omega),zi (by omega) (by omega),zi (by omega) (by omega),zi (by omega) (by omega)⟩
   ·split at hx
    ·rename_i h2
     simp only [Bool.and_eq_true,beq_iff_eq,decide_eq_true_eq] at hx;have:=hd.rep _ n hn hx.1.1.1;exact ⟨zi (by omega) (by omega),zi (by omega) (by omega),zi (by omega) (by omega),zi (by omega) (by omega)⟩
    ·split at hx
     ·rename_i h3
      simp only [Bool.and_eq_true,beq_iff_eq,decide_eq_true_eq] at hx;exact ⟨zi (by omega) (by omega),zi (by omega) (by omega),zi (by omega) (by omega),zi (by omega) (by omega)⟩
     ·split at hx
      ·rename_i h4
       simp only [Bool.and_eq_true,beq_iff_eq,decide_eq_true_eq] at hx;exact ⟨zi (by omega) (by omega),zi (by omega) (by omega),zi (by omega) (by omega),zi (by omega) (by omega)⟩
      ·cases hx
theorem itR_all {d:List SNode} (hd:ROk d) (hl:d.length≤1000) (ht:∀n∈d,n.2.2.2.2.2.2.length≤140737488351232) {s:List SItem} (hs:zd6 d s=true):∀x∈s,ItR x:=by
 intro x hx;unfold zd6 at hs;rw [List.all_eq_true] at hs;exact itR_form hd hl ht (hs x hx)
theorem zih {d:List SNode} {x:SItem} {rest:List SItem} (hf:zd6 d (x::rest)=true) (hr:rdy d (x::rest)=true):∃n,at? d x.2.1=some n∧n∈d∧((x.1=1∧(n.1=2∨n.1=8∨n.1=9))∨(x.1=3∧n.1=3∧x.2.2.2=0∧0≤x.2.2.1∧x.2.2.1<(n.2.2.2.2.2.2.length:Int))∨(x.1=4∧n.1=9∧0≤x.2.2.1∧x.2.2.1≤255)):=by
 have hx:=(zdp hf).1;have h5:x.1≠5:=fun h=>by simp [rdy,h] at hr
 obtain ⟨n,hn,_⟩:=zfh hx h5;have hm:n∈d:=by
  obtain ⟨k,_,hk⟩:=zm5 hn;exact List.mem_of_getElem? hk
 refine ⟨n,hn,hm, ?_⟩;unfold ze0 at hx;rw [if_neg h5,hn] at hx;simp only [rdy,hn,Bool.or_eq_true,beq_iff_eq,Bool.and_eq_true] at hr;simp only at hx;rcases hr with (h3 | h4) | ⟨h1,h2⟩
 ·rw [if_neg (by omega),if_neg (by omega),if_pos h3] at hx;simp only [Bool.and_eq_true,beq_iff_eq,decide_eq_true_eq] at hx;exact .inr (.inl ⟨h3,hx.1.1.1,hx.1.1.2,hx.1.2,hx.2⟩)
 ·rw [if_neg (by omega),if_neg (by omega),if_neg (by omega),if_pos h4] at hx;simp only [Bool.and_eq_true,beq_iff_eq,decide_eq_true_eq] at hx;exact .inr (.inr ⟨h4,hx.1.1.1,hx.1.2,hx.2⟩)
 ·exact .inl ⟨h1,by omega⟩
theorem zpe {s:Str} {i:Int} (h0:0≤i) (h1:i<(s.length:Int)):∃c,zd9 s i=some c∧InR .u8 c:=by
 obtain ⟨x,hx,_⟩:=zm6 h0 h1;refine ⟨(x.toNat:Int),by unfold zd9;rw [hx];rfl,zfm.2 ⟨by omega, ?_⟩⟩;have:=x.toNat_lt;omega
theorem next_Read_in {d:List SNode} (hd:ROk d) (hl:d.length≤1000) (ht:∀n∈d,n.2.2.2.2.2.2.length≤140737488351232) {s:List SItem} (hs:s.length≤1000) (hf:zd6 d s=true) (hr:rdy d s=true) {c:Int} (hc:InR .u8 c):zld d s c (zba d s c):=by
 cases s with
 | nil=>exact ⟨fun _=>rfl,fun h=>by simp at h⟩
 | cons x rest=>
  have hls:rest.length≤1000:=by simp at hs;omega
  have hcr:=zfm.1 hc;obtain ⟨n,hn,hm,hk⟩:=zih hf hr;have htn:=ht n hm;have hlow:=zr7 hls (itR_all hd hl ht (zdp hf).2);have hlen:=zrz rest;refine ⟨fun h=>by simp at h;omega,fun _=>⟨⟨by omega,by simp;omega⟩,zds rest,hlow,x,rfl,fun hb=>?_,fun hb=>⟨x,rfl,n,hn,x,rfl, ?_⟩⟩⟩
  ·have hmh:zha gfmS x.1=true:=by rcases hk with ⟨h,_⟩ | ⟨h,_⟩ | ⟨h,_⟩ <;> rw [h] <;> rfl
   rw [hmh] at hb;simp only [Bool.not_true,Bool.or_false,Bool.not_eq_true'] at hb;unfold zba;simp only;rw [if_pos hb]
  ·simp only [Bool.or_eq_false_iff,Bool.not_eq_false'] at hb;have hb1:¬ (zds rest).2=false:=by rw [hb.1];simp
   have cat:∀l:List SItem,l.length≤2→zh [l,(zds rest).1] (l++(zds rest).1):=fun l h=>zqv (by omega) (by omega);rcases hk with ⟨h1,h2⟩ | ⟨h3,h4,h5,h6,h7⟩ | ⟨h4,h9,h6,h7⟩
   ·-- a node
    have e1:zd4 gfmS x.1 none=zd4 gfmS 1 none:=by rw [h1]
    rw [e1];rcases h2 with h2 | h2 | h2
    ·by_cases hh:n.2.2.2.2.2.1.has c.toNat=true
     ·have hrd:zba d (x::rest) c=([]++(zds rest).1,true):=by
       unfold zba;simp only [hn];rw [if_neg hb1,if_neg (by omega),if_neg (by omega),if_neg (by omega),if_neg (by omega),if_pos hh];rfl
      rw [hrd];refine ⟨([],true),.inl ⟨rfl,fun h=>by simp [h2] at h,fun _=>⟨fun h=>by simp [h2] at h,fun _=>⟨_,zmv hc,by rw [hh]⟩⟩⟩,fun h=>by simp at h,fun _=>⟨_,cat [] (by simp),rfl⟩⟩
     ·have hh':n.2.2.2.2.2.1.has c.toNat=false:=by simpa using hh
      have hrd:zba d (x::rest) c=([],false):=by
       unfold zba;simp only [hn];rw [if_neg hb1,if_neg (by omega),if_neg (by omega),if_neg (by omega),if_neg (by omega),if_neg hh]
      rw [hrd];exact ⟨([],false),.inl ⟨rfl,fun h=>by simp [h2] at h,fun _=>⟨fun h=>by simp [h2] at h,fun _=>⟨_,zmv hc,by rw [hh']⟩⟩⟩,fun _=>rfl,fun h=>by simp at h⟩
    ·have hrd:zba d (x::rest) c=([(1,n.2.1,0,0),(5,0,c,0)]++(zds rest).1,true):=by
      unfold zba;simp only [hn];rw [if_neg hb1,if_neg (by omega),if_neg (by omega),if_pos h2]
     rw [hrd];exact ⟨([(1,n.2.1,0,0),(5,0,c,0)],true),.inl ⟨rfl,fun _=>⟨_,rfl,rfl⟩,fun h=>by simp [h2] at h⟩,fun h=>by simp at h,fun _=>⟨_,cat _ (by simp),rfl⟩⟩
    ·have hrd:zba d (x::rest) c=([(4,x.2.1,c,0)]++(zds rest).1,true):=by
      unfold zba;simp only [hn];rw [if_neg hb1,if_neg (by omega),if_neg (by omega),if_neg (by omega),if_pos h2]
     rw [hrd];exact ⟨([(4,x.2.1,c,0)],true),.inl ⟨rfl,fun h=>by simp [h2] at h,fun _=>⟨fun _=>rfl,fun h=>by simp [h2] at h⟩⟩,fun h=>by simp at h,fun _=>⟨_,cat _ (by simp),rfl⟩⟩
   ·-- a text
    have e1:zd4 gfmS x.1 none=zd4 gfmS 3 none:=by rw [h3]
    rw [e1];obtain ⟨b,hb2,_⟩:=zpe h6 h7;obtain ⟨xk,xi,xl,xh⟩:=x;simp only at h3 h5 h6 h7 hb2 hn;subst h3;subst h5
    by_cases hbc:b=c
    ·subst hbc
     by_cases hlast:xl+1<(n.2.2.2.2.2.2.length:Int)
     ·have hrd:zba d ((3,xi,xl,0)::rest) b=([(3,xi,xl+1,0)]++(zds rest).1,true):=by
       unfold zba;simp only [hn];rw [if_neg hb1,if_pos trivial,if_pos hb2,if_pos hlast]
      rw [hrd];refine ⟨([(3,xi,xl+1,0)],true),.inr (.inl ⟨rfl,zi (by show _≤xl+1;omega) (by show xl+1≤_;omega),_,rfl,fun h=>?_,fun _=>⟨b,hb2,by simp⟩⟩),fun h=>by simp at h,fun _=>⟨_,cat _ (by simp),rfl⟩⟩;simp at h;omega
     ·have hrd:zba d ((3,xi,xl,0)::rest) b=([]++(zds rest).1,true):=by
       unfold zba;simp only [hn];rw [if_neg hb1,if_pos trivial,if_pos hb2,if_neg hlast]
      rw [hrd];refine ⟨([],true),.inr (.inl ⟨rfl,zi (by show _≤xl+1;omega) (by show xl+1≤_;omega),_,rfl,fun _=>⟨b,hb2,by simp⟩,fun h=>?_⟩),fun h=>by simp at h,fun _=>⟨_,cat _ (by simp),rfl⟩⟩;simp at h;omega
    ·have hne:¬ zd9 n.2.2.2.2.2.2 xl=some c:=by rw [hb2];simpa using hbc
     have hrd:zba d ((3,xi,xl,0)::rest) c=([],false):=by
      unfold zba;simp only [hn];rw [if_neg hb1,if_pos trivial,if_neg hne]
     rw [hrd];have hbeq:(b==c)=false:=by simpa using hbc
     by_cases hlast:xl+1=(n.2.2.2.2.2.2.length:Int)
     ·refine ⟨([],false),.inr (.inl ⟨rfl,zi (by show _≤xl+1;omega) (by show xl+1≤_;omega),_,rfl,fun _=>⟨b,hb2,by rw [hbeq]⟩,fun h=>?_⟩),fun _=>rfl,fun h=>by simp at h⟩;simp at h;omega
     ·refine ⟨([(3,xi,xl+1,0)],false),.inr (.inl ⟨rfl,zi (by show _≤xl+1;omega) (by show xl+1≤_;omega),_,rfl,fun h=>?_,fun _=>⟨b,hb2,by rw [hbeq]⟩⟩),fun _=>rfl,fun h=>by simp at h⟩;simp at h;omega
   ·-- half a number
    have e1:zd4 gfmS x.1 none=zd4 gfmS 4 none:=by rw [h4]
    rw [e1];have hrd:zba d (x::rest) c=([(1,n.2.1,0,0),(5,0,256*x.2.2.1+c,0)]++(zds rest).1,true):=by
     unfold zba;simp only [hn];rw [if_neg hb1,if_neg (by omega),if_pos h4]
    rw [hrd];exact ⟨([(1,n.2.1,0,0),(5,0,256*x.2.2.1+c,0)],true),.inr (.inr ⟨rfl,zi (by show _≤256*x.2.2.1;omega) (by show 256*x.2.2.1≤_;omega),zi (by show _≤256*x.2.2.1+c;omega) (by show 256*x.2.2.1+c≤_;omega),_,rfl,rfl⟩),fun h=>by simp at h,fun _=>⟨_,cat _ (by simp),rfl⟩⟩
theorem zri {d:List SNode} (hd:ROk d) (hl:d.length≤1000) (ht:∀n∈d,n.2.2.2.2.2.2.length≤140737488351232) {s:List SItem} (hs:s.length≤1000) (hf:zd6 d s=true) (hr:rdy d s=true) {c:Int} (hc:InR .u8 c):zql d s c (zba d s c):=by
 cases s with
 | nil=>exact ⟨fun _=>rfl,fun h=>by simp at h⟩
 | cons x rest=>
  have hls:rest.length≤1000:=by simp at hs;omega
  have hcr:=zfm.1 hc;obtain ⟨n,hn,hm,hk⟩:=zih hf hr;have htn:=ht n hm;have hlow:=zps hls (itR_all hd hl ht (zdp hf).2);have hlen:=zrz rest;refine ⟨fun h=>by simp at h;omega,fun _=>⟨⟨by omega,by simp;omega⟩,zds rest,hlow,fun hb=>?_,fun hb=>⟨x,rfl,n,hn, ?_⟩⟩⟩
  ·simp only [Bool.not_eq_true'] at hb;unfold zba;simp only;rw [if_pos hb]
  ·simp only [Bool.not_eq_false'] at hb;have hb1:¬ (zds rest).2=false:=by rw [hb];simp
   rcases hk with ⟨h1,h2⟩ | ⟨h3,h4,h5,h6,h7⟩ | ⟨h4,h9,h6,h7⟩
   ·refine ⟨fun h=>by simp [h1] at h,fun _=>⟨fun h=>by simp [h1] at h,fun _=>?_⟩⟩;rcases h2 with h2 | h2 | h2
    ·refine ⟨fun h=>by simp [h2] at h,fun _=>⟨fun h=>by simp [h2] at h,fun _=>⟨_,zmo hc,fun hh=>?_,fun hh=>⟨by simp;omega, ?_⟩⟩⟩⟩
     ·have hh':¬ n.2.2.2.2.2.1.has c.toNat=true:=by simpa using hh
      unfold zba;simp only [hn];rw [if_neg hb1,if_neg (by omega),if_neg (by omega),if_neg (by omega),if_neg (by omega),if_neg hh']
     ·have hh':n.2.2.2.2.2.1.has c.toNat=true:=by simpa using hh
      unfold zba;simp only [hn];rw [if_neg hb1,if_neg (by omega),if_neg (by omega),if_neg (by omega),if_neg (by omega),if_pos hh'];rfl
    ·refine ⟨fun _=>⟨by simp;omega, ?_⟩,fun h=>by simp [h2] at h⟩;unfold zba;simp only [hn];rw [if_neg hb1,if_neg (by omega),if_neg (by omega),if_pos h2]
    ·refine ⟨fun h=>by simp [h2] at h,fun _=>⟨fun _=>⟨by simp;omega, ?_⟩,fun h=>by simp [h2] at h⟩⟩;unfold zba;simp only [hn];rw [if_neg hb1,if_neg (by omega),if_neg (by omega),if_neg (by omega),if_pos h2]
   ·obtain ⟨b,hb2,_⟩:=zpe h6 h7;refine ⟨fun _=>⟨b,hb2,fun hbc=>?_,fun hbc=>⟨zi (by omega) (by omega),_,rfl,fun hl2=>⟨zi (by omega) (by omega),by simp;omega, ?_⟩,fun hl2=>⟨by simp;omega, ?_⟩⟩⟩,fun h=>by simp [h3] at h⟩
    ·have hne:¬ zd9 n.2.2.2.2.2.2 x.2.2.1=some c:=by rw [hb2];simpa using hbc
     unfold zba;simp only [hn];rw [if_neg hb1,if_pos h3,if_neg hne]
    ·have he:zd9 n.2.2.2.2.2.2 x.2.2.1=some c:=by rw [hb2];simpa using hbc
     unfold zba;simp only [hn];rw [if_neg hb1,if_pos h3,if_pos he,if_pos (dt hl2)]
    ·have he:zd9 n.2.2.2.2.2.2 x.2.2.1=some c:=by rw [hb2];simpa using hbc
     unfold zba;simp only [hn];rw [if_neg hb1,if_pos h3,if_pos he,if_neg (df hl2)]
   ·refine ⟨fun h=>by simp [h4] at h,fun _=>⟨fun _=>⟨zi (by omega) (by omega),zi (by omega) (by omega),by simp;omega, ?_⟩,fun h=>by simp [h4] at h⟩⟩;unfold zba;simp only [hn];rw [if_neg hb1,if_neg (by omega),if_pos h4]
def zmb (c:Int) (n:SNode):SNode:=(n.1,if 4≤n.1 then n.2.1+c else n.2.1,if n.1=4∨n.1=5 then n.2.2.1+c else n.2.2.1,n.2.2.2.1,n.2.2.2.2.1,n.2.2.2.2.2.1,n.2.2.2.2.2.2)
def zpi (c:Int) (l:List SNode):List SNode:=l.map (zmb c)
theorem zik (c:Int) (l:List SNode):(zpi c l).length=l.length:=List.length_map ..
theorem moved_in {l:List SNode} {c:Int} (hl:l.length≤1000) (hr:∀n∈l,InR .i64 (n.2.1+c)∧InR .i64 (n.2.2.1+c)):zbd l c (zpi c l):=by
 refine zh8 (P:=fun k (o:List SNode) v=>zbd.l1 l c _ k o v) l.length (fun i o=>o=zpi c (l.take i)) ?_ ?_ [] (by simp [zpi])
 ·rintro i o hi rfl;have hat:at? l (i:Int)=some l[i]:=by rw [zbm];simp [hi]
  obtain ⟨r1,r2⟩:=hr _ (List.getElem_mem hi);have e:zpi c (l.take (i+1))=zpi c (l.take i)++[zmb c l[i]]:=by
   unfold zpi;rw [List.take_succ_eq_append_getElem hi,List.map_append];rfl
  have hll:(zpi c (l.take i)).length=i:=by rw [zik];simp;omega
  refine .inr ⟨_,rfl,fun k hk=>⟨fun _=>⟨l[i],hat, ?_⟩,fun h=>absurd (by omega) (df h)⟩⟩;rw [e] at hk;have last:∀w:SNode,w=zmb c l[i]→zbd.j2 (zbd.l1 l c (zbd.j1 (zpi c l)) k) (zpi c (l.take i)) (i:Int) w:=by
   rintro w rfl;exact ⟨by rw [hll];simp;omega,zi (by omega) (by omega),hk⟩
  generalize l[i]=n at *;obtain ⟨k0,a,b,lo,hi2,cl,tx⟩:=n;simp only at r1 r2;refine ⟨fun h4=>⟨r1,fun h5=>⟨r2,last _ ?_⟩,fun h5=>last _ ?_⟩,fun h4=>⟨fun h5=>?_,fun h5=>last _ ?_⟩⟩
  ·have:=dt h4;simp only at this;simp only [Bool.or_eq_true,beq_iff_eq] at h5;simp only [zmb,if_pos this,if_pos h5]
  ·have:=dt h4;simp only at this;simp only [Bool.or_eq_false_iff,beq_eq_false_iff_ne] at h5;have h5':¬ (k0=4∨k0=5):=by omega
   simp only [zmb,if_pos this,if_neg h5']
  ·exfalso;have:=df h4;simp only at this;simp only [Bool.or_eq_true,beq_iff_eq] at h5;omega
  ·have:=df h4;simp only at this;have h5':¬ (k0=4∨k0=5):=by omega
   simp only [zmb,if_neg this,if_neg h5']
 ·rintro o rfl k;refine ⟨fun h=>absurd (dt h) (by omega),fun _=>?_⟩;show zpi c l=zpi c (l.take l.length);rw [List.take_length]
theorem movN_zero (n:SNode):zmb 0 n=n:=by
 obtain ⟨k,a,b,r⟩:=n;simp [zmb]
theorem movL_zero (l:List SNode):zpi 0 l=l:=by
 unfold zpi;rw [show zmb 0=id from funext movN_zero,List.map_id]
def zdj (k:Int) (a b:List SNode):List SNode:=(a++zpi (a.length:Int) b)++[(k,(a.length:Int)-1,((a.length:Int)+(b.length:Int))-1,0,0,(0#256),([]:Str))]
def wrapD (k:Int) (a:List SNode):List SNode:=a++[(k,(a.length:Int)-1,0,0,0,(0#256),([]:Str))]
structure Sma (d:List SNode):Prop where
 a:∀n∈d,0≤n.2.1∧n.2.1≤(d.length:Int)
 b:∀n∈d,0≤n.2.2.1∧n.2.2.1≤(d.length:Int)
theorem Tr.parts {l:List SNode} {f i:Int} (h:Tr l f i) {n:SNode} (hn:at? l i=some n):(0≤n.2.1∧n.2.1≤i)∧(0≤n.2.2.1∧n.2.2.1≤i):=by
 have hb:=zbq hn;cases h with
 | leaf he hk hx h0=>rw [hn] at he;cases he;omega
 | one he hk ha hb hr h=>rw [hn] at he;cases he;have:=h.le;omega
 | two he hk ha hb h1 h2=>rw [hn] at he;cases he;have:=h1.le;have:=h2.le;omega
theorem mem_at {α:Type} {l:List α} {x:α} (h:x∈l):∃i:Int,at? l i=some x:=by
 obtain ⟨i,hi,e⟩:=List.mem_iff_getElem.1 h;exact ⟨(i:Int),by rw [zbm];simp [hi,e]⟩
theorem Tr.sma {d:List SNode} (h:Tr d 0 ((d.length:Int)-1)):Sma d:=by
 constructor
 all_goals
  intro n hn;obtain ⟨i,hi⟩:=mem_at hn;obtain ⟨g,hg⟩:=h.at hi;have:=hg.parts hi;have:=zbq hi;omega
theorem moved_ok {d:List SNode} (h:Tr d 0 ((d.length:Int)-1)) (hl:d.length≤1000) {c:Int} (h0:0≤c) (h1:c≤1000):zbd d c (zpi c d):=
 moved_in hl fun n hn=>by
  have:=h.sma.a n hn;have:=h.sma.b n hn;exact ⟨zi (by omega) (by omega),zi (by omega) (by omega)⟩
theorem zph {k:Int} {a b:List SNode} (ha:Tr a 0 ((a.length:Int)-1)) (hb:Tr b 0 ((b.length:Int)-1)) (la:a.length≤1000) (lb:b.length≤1000):ze5 k a b (zdj k a b):=by
 refine ⟨_,moved_ok ha la (Int.le_refl 0) (by omega),_,moved_ok hb lb (c:=(a.length:Int)) (by omega) (by omega),by rw [zik,zik];omega,zi (by omega) (by omega),zi (by omega) (by omega),zi (by omega) (by omega),by rw [List.length_append,zik,zik];simp;omega, ?_⟩;rw [movL_zero];rfl
structure Emb (l l':List SNode) (c:Int):Prop where
 nn:0≤c
 at':∀i n,at? l i=some n→at? l' (i+c)=some (zmb c n)
theorem Tr.emb {l l':List SNode} {c:Int} (h:Emb l l' c) {f i:Int} (t:Tr l f i):Tr l' (f+c) (i+c):=by
 induction t with
 | leaf he hk hx h0=>
  rename_i i e
  have e1:zmb c e=e:=by
   obtain ⟨k,a,b,r⟩:=e;simp only at hk;simp only [zmb,if_neg (show ¬ 4≤k by omega),if_neg (show ¬ (k=4∨k=5) by omega)]
  exact .leaf (e1 ▸ h.at' _ _ he) hk hx h0
 | one he hk ha hb hr t ih=>
  rename_i f i e
  refine .one (h.at' _ _ he) hk ?_ ?_ hr (by have e:i-1+c=i+c-1:=by omega
                                             rw [← e];exact ih)
  ·simp only [zmb];rw [if_pos (by omega)];omega
  ·simp only [zmb];rw [if_neg (by omega)];exact hb
 | two he hk ha hb t1 t2 i1 i2=>
  rename_i f p i e
  refine .two (p:=p+c) (h.at' _ _ he) hk ?_ ?_ (by have e:i-1+c=i+c-1:=by omega
                                                   rw [← e];exact i1) (by have e:p-1+c=p+c-1:=by omega
                                                                          rw [← e];exact i2)
  ·simp only [zmb];rw [if_pos (by omega)];omega
  ·simp only [zmb];rw [if_pos (by omega)];omega
theorem Emb.get {l l':List SNode} {c:Int} (h:Emb l l' c) {i:Int} {n:SNode} (hn:at? l i=some n):∃m,at? l' (i+c)=some m∧m.1=n.1∧(4≤n.1→m.2.1=n.2.1+c)∧(n.1=4∨n.1=5→m.2.2.1=n.2.2.1+c)∧m.2.2.2.1=n.2.2.2.1∧m.2.2.2.2.1=n.2.2.2.2.1:=
 ⟨zmb c n,h.at' _ _ hn,rfl,fun h=>if_pos h,fun h=>if_pos h,rfl,rfl⟩
theorem nz_emb {l l':List SNode} {c:Int} (h:Emb l l' c) (hl:NOk l) (hl':NOk l'):∀(k:Nat) (i:Int) (n:SNode),i<(k:Int)→at? l i=some n→nz l' (i+c)=nz l i
 | 0,i,n,hi,hn=>by have:=zbq hn;omega
 | k+1,i,n,hi,hn=>by
  have ih:=nz_emb h hl hl' k;obtain ⟨m,hm,f1,f2,f3,f4,f5⟩:=h.get hn;rw [nz_atN hl hn,nz_atN hl' hm,f1,f4]
  by_cases h1:n.1=1
  ·rw [if_pos h1,if_pos h1]
  ·rw [if_neg h1,if_neg h1]
   by_cases h4:n.1=4
   ·obtain ⟨⟨a,b⟩,c',e⟩:=hl.two _ n hn (.inl h4);obtain ⟨m1,hm1⟩:=zdg hn a b;obtain ⟨m2,hm2⟩:=zdg hn c' e;rw [if_pos h4,if_pos h4,f2 (by omega),f3 (.inl h4),ih _ m1 (by omega) hm1,ih _ m2 (by omega) hm2]
   ·rw [if_neg h4,if_neg h4]
    by_cases h5:n.1=5
    ·obtain ⟨⟨a,b⟩,c',e⟩:=hl.two _ n hn (.inr h5);obtain ⟨m1,hm1⟩:=zdg hn a b;obtain ⟨m2,hm2⟩:=zdg hn c' e;rw [if_pos h5,if_pos h5,f2 (by omega),f3 (.inr h5),ih _ m1 (by omega) hm1,ih _ m2 (by omega) hm2]
    ·rw [if_neg h5,if_neg h5]
     by_cases h6:n.1=6
     ·rw [if_pos h6,if_pos h6]
     ·rw [if_neg h6,if_neg h6]
      by_cases h7:n.1=7
      ·obtain ⟨a,b⟩:=hl.one _ n hn (.inr (.inl h7));obtain ⟨m1,hm1⟩:=zdg hn a b;rw [if_pos h7,if_pos h7,f2 (by omega),ih _ m1 (by omega) hm1]
      ·rw [if_neg h7,if_neg h7]
def shI (c:Int) (x:SItem):SItem:=(x.1,x.2.1+c,x.2.2.1,x.2.2.2)
def shS (c:Int) (s:List SItem):List SItem:=s.map (shI c)
theorem zmc (c:Int) (L:List (List SItem)) (x:SItem):(L.map (shS c)).map (·++[shI c x])=(L.map (·++[x])).map (shS c):=by
 rw [List.map_map,List.map_map];exact List.map_congr_left fun s _=>by simp [shS]
theorem rep_sh (c:Int) (m:Nat) (L:List (List SItem)):(List.replicate m (L.map (shS c))).flatten=((List.replicate m L).flatten).map (shS c):=(rep_map _ _ _).symm
theorem PM_emb {l l':List SNode} {c:Int} (h:Emb l l' c) (hl:ROk l) (hl':ROk l'):∀(k:Nat) (i:Int) (n:SNode),i<(k:Int)→at? l i=some n→pm l' (i+c)=(pm l i).map (shS c)∧nw l' (i+c)=nw l i
 | 0,i,n,hi,hn=>by have:=zbq hn;omega
 | k+1,i,n,hi,hn=>by
  have ih:=PM_emb h hl hl' k;have e1:pm l i=(PM l l.length i).1:=rfl;have e2:nw l i=(PM l l.length i).2:=rfl;have e3:pm l' (i+c)=(PM l' l'.length (i+c)).1:=rfl;have e4:nw l' (i+c)=(PM l' l'.length (i+c)).2:=rfl;obtain ⟨m,hm,f1,f2,f3,f4,f5⟩:=h.get hn;rw [e1,e2,e3,e4,zit hl hn,zit hl' hm,f1,f4,f5]
  by_cases h1:n.1=1
  ·rw [if_pos h1,if_pos h1];exact ⟨rfl,rfl⟩
  ·by_cases h3:n.1=3
   ·rw [if_neg h1,if_neg h1,if_pos h3,if_pos h3];exact ⟨rfl,rfl⟩
   ·by_cases h4:n.1=4
    ·obtain ⟨⟨a,b⟩,c',e⟩:=hl.two _ n hn (.inl h4);obtain ⟨m1,hm1⟩:=zdg hn a b;obtain ⟨m2,hm2⟩:=zdg hn c' e;obtain ⟨p1,q1⟩:=ih _ m1 (by omega) hm1;obtain ⟨p2,q2⟩:=ih _ m2 (by omega) hm2;have hx:((1:Int),n.2.2.1+c,(0:Int),(0:Int))=shI c (1,n.2.2.1,0,0):=rfl;rw [f2 (by omega),f3 (.inl h4)];rw [if_neg h1,if_neg h3,if_pos h4,if_neg h1,if_neg h3,if_pos h4];refine ⟨?_,by simp only;rw [q1,q2]⟩;simp only;rw [p1,p2,q1,hx,zmc,rep_sh,List.map_append]
    ·by_cases h5:n.1=5
     ·obtain ⟨⟨a,b⟩,c',e⟩:=hl.two _ n hn (.inr h5);obtain ⟨m1,hm1⟩:=zdg hn a b;obtain ⟨m2,hm2⟩:=zdg hn c' e;obtain ⟨p1,q1⟩:=ih _ m1 (by omega) hm1;obtain ⟨p2,q2⟩:=ih _ m2 (by omega) hm2;rw [f2 (by omega),f3 (.inr h5)];rw [if_neg h1,if_neg h3,if_neg h4,if_pos h5,if_neg h1,if_neg h3,if_neg h4,if_pos h5];refine ⟨?_,by simp only;rw [q1,q2]⟩;simp only;rw [p1,p2,List.map_append]
     ·by_cases h6:n.1=6
      ·obtain ⟨a,b⟩:=hl.one _ n hn (.inl h6);obtain ⟨m1,hm1⟩:=zdg hn a b;obtain ⟨p1,q1⟩:=ih _ m1 (by omega) hm1;have hx:((1:Int),i+c,(0:Int),(0:Int))=shI c (1,i,0,0):=rfl;rw [f2 (by omega)];rw [if_neg h1,if_neg h3,if_neg h4,if_neg h5,if_pos h6,if_neg h1,if_neg h3,if_neg h4,if_neg h5,if_pos h6];refine ⟨?_,rfl⟩;simp only;rw [p1,hx,zmc]
      ·by_cases h7:n.1=7
       ·obtain ⟨a,b⟩:=hl.one _ n hn (.inr (.inl h7));obtain ⟨m1,hm1⟩:=zdg hn a b;obtain ⟨p1,q1⟩:=ih _ m1 (by omega) hm1;have hx:((2:Int),i+c,max (n.2.2.2.1-1) 0,n.2.2.2.2.1-1)=shI c (2,i,max (n.2.2.2.1-1) 0,n.2.2.2.2.1-1):=rfl;rw [f2 (by omega)];rw [if_neg h1,if_neg h3,if_neg h4,if_neg h5,if_neg h6,if_pos h7,if_neg h1,if_neg h3,if_neg h4,if_neg h5,if_neg h6,if_pos h7];refine ⟨?_,rfl⟩;simp only;split
        ·rw [p1,hx,zmc]
        ·rfl
       ·rw [if_neg h1,if_neg h3,if_neg h4,if_neg h5,if_neg h6,if_neg h7,if_neg h1,if_neg h3,if_neg h4,if_neg h5,if_neg h6,if_neg h7];exact ⟨rfl,rfl⟩
theorem PM_rng {d:List SNode} (hd:ROk d):∀(k:Nat) (i:Int),i<(k:Int)→∀p∈pm d i,∃x q,p=x::q∧0≤x.2.1∧x.2.1<(d.length:Int)
 | 0,i,hi,p,hp=>by
  have:at? d i=none:=at_none (.inl (by omega));unfold pm at hp;rw [zis hd d.length 0 i] at hp
  ·simp [PM] at hp
  ·omega
  ·omega
 | k+1,i,hi,p,hp=>by
  have ih:=PM_rng hd k;cases hn:at? d i with
  | none=>
   exfalso;unfold pm at hp;cases hdl:d.length with
   | zero=>rw [hdl] at hp;simp [PM] at hp
   | succ m=>rw [hdl] at hp;simp [PM,hn] at hp
  | some n=>
   have hb:=zbq hn;have e1:pm d i=(PM d d.length i).1:=rfl;rw [e1,zit hd hn] at hp;have app:∀(a:Int) (y:SItem),a<i→p∈(pm d a).map (·++[y])→∃x q,p=x::q∧0≤x.2.1∧x.2.1<(d.length:Int):=by
    intro a y ha h;obtain ⟨q,hq,rfl⟩:=List.mem_map.1 h;obtain ⟨x,q',rfl,h1,h2⟩:=ih a (by omega) q hq;exact ⟨x,q'++[y],rfl,h1,h2⟩
   by_cases h1:n.1=1
   ·simp [h1] at hp
   ·by_cases h3:n.1=3
    ·simp [h3] at hp;subst hp;exact ⟨_,_,rfl,hb⟩
    ·by_cases h4:n.1=4
     ·obtain ⟨⟨a,b⟩,c',e⟩:=hd.two _ n hn (.inl h4);rw [if_neg h1,if_neg h3,if_pos h4] at hp;rcases List.mem_append.1 hp with hp | hp
      ·exact app _ _ b hp
      ·obtain ⟨l,hl,hp⟩:=List.mem_flatten.1 hp;rw [List.mem_replicate.1 hl |>.2] at hp;exact ih _ (by omega) p hp
     ·by_cases h5:n.1=5
      ·obtain ⟨⟨a,b⟩,c',e⟩:=hd.two _ n hn (.inr h5);rw [if_neg h1,if_neg h3,if_neg h4,if_pos h5] at hp;rcases List.mem_append.1 hp with hp | hp
       ·exact ih _ (by omega) p hp
       ·exact ih _ (by omega) p hp
      ·by_cases h6:n.1=6
       ·obtain ⟨a,b⟩:=hd.one _ n hn (.inl h6);rw [if_neg h1,if_neg h3,if_neg h4,if_neg h5,if_pos h6] at hp;exact app _ _ b hp
       ·by_cases h7:n.1=7
        ·obtain ⟨a,b⟩:=hd.one _ n hn (.inr (.inl h7));rw [if_neg h1,if_neg h3,if_neg h4,if_neg h5,if_neg h6,if_pos h7] at hp;simp only at hp;split at hp
         ·exact app _ _ b hp
         ·cases hp
        ·rw [if_neg h1,if_neg h3,if_neg h4,if_neg h5,if_neg h6,if_neg h7] at hp;rw [List.mem_singleton] at hp;subst hp;exact ⟨_,_,rfl,hb⟩
theorem at_left {α:Type} {a b:List α} {i:Int} {x:α} (h:at? a i=some x):at? (a++b) i=some x:=by
 obtain ⟨k,rfl,hk⟩:=zm5 h;rw [zbm,List.getElem?_append_left (List.getElem?_eq_some_iff.1 hk).1];exact hk
theorem at_right {α:Type} {a b:List α} {i:Int} {x:α} (h:at? b i=some x):at? (a++b) (i+(a.length:Int))=some x:=by
 obtain ⟨k,rfl,hk⟩:=zm5 h;have e:(k:Int)+(a.length:Int)=((k+a.length:Nat):Int):=by omega
 rw [e,zbm,List.getElem?_append_right (by omega),Nat.add_sub_cancel];exact hk
theorem at_app {α:Type} {a b:List α} {i:Int} {x:α} (h:at? (a++b) i=some x):at? a i=some x∨at? b (i-(a.length:Int))=some x:=by
 obtain ⟨k,rfl,hk⟩:=zm5 h;rcases Nat.lt_or_ge k a.length with hlt | hge
 ·rw [List.getElem?_append_left hlt] at hk;exact .inl (by rw [zbm];exact hk)
 ·rw [List.getElem?_append_right hge] at hk;have e:(k:Int)-(a.length:Int)=((k-a.length:Nat):Int):=by omega
  exact .inr (by rw [e,zbm];exact hk)
theorem at_one {α:Type} {x y:α} {i:Int} (h:at? [x] i=some y):i=0∧y=x:=by
 have hb:=zbq h;simp at hb;obtain rfl:i=0:=by omega
 cases h;exact ⟨rfl,rfl⟩
theorem at_movL {c:Int} {l:List SNode} {i:Int} {n:SNode} (h:at? l i=some n):at? (zpi c l) i=some (zmb c n):=by
 obtain ⟨k,rfl,hk⟩:=zm5 h;rw [zbm];unfold zpi;rw [List.getElem?_map,hk];rfl
theorem at_movL_inv {c:Int} {l:List SNode} {i:Int} {n:SNode} (h:at? (zpi c l) i=some n):∃m,at? l i=some m∧n=zmb c m:=by
 obtain ⟨k,rfl,hk⟩:=zm5 h;unfold zpi at hk;rw [List.getElem?_map] at hk;obtain ⟨m,h1,h2⟩:=Option.map_eq_some_iff.1 hk;exact ⟨m,by rw [zbm];exact h1,h2.symm⟩
theorem emb_left {a:List SNode} (r:List SNode):Emb a (a++r) 0:=⟨Int.le_refl _,fun i n h=>by rw [movN_zero,Int.add_zero];exact at_left h⟩
theorem emb_mid {a b r:List SNode}:Emb b ((a++zpi (a.length:Int) b)++r) (a.length:Int):=⟨by omega,fun i n h=>at_left (at_right (at_movL h))⟩
theorem zii (k:Int) (a b:List SNode):(zdj k a b).length=a.length+b.length+1:=by simp [zdj,zik];omega
theorem zlb (k:Int) (a b:List SNode):at? (zdj k a b) ((a.length:Int)+(b.length:Int))=some (k,(a.length:Int)-1,((a.length:Int)+(b.length:Int))-1,0,0,(0#256),([]:Str)):=by
 have:=at_right (a:=a++zpi (a.length:Int) b) (b:=[(k,(a.length:Int)-1,((a.length:Int)+(b.length:Int))-1,0,0,(0#256),([]:Str))]) (i:=0) rfl;rw [List.length_append,zik] at this;have e:(0:Int)+((a.length+b.length:Nat):Int)=(a.length:Int)+(b.length:Int):=by omega
 rw [e] at this;exact this
theorem zjf {k:Int} {a b:List SNode} (ha:Rt a) (hb:Rt b) (hk:k=4∨k=5):Rt (zdj k a b):=by
 have ea:Emb a (zdj k a b) 0:=by unfold zdj;rw [List.append_assoc];exact emb_left _
 have eb:Emb b (zdj k a b) (a.length:Int):=emb_mid;have ta:=ha.tr.emb ea;have tb:=hb.tr.emb eb;have tr:Tr (zdj k a b) 0 (((zdj k a b).length:Int)-1):=by
  have e:(((zdj k a b).length:Int)-1)=(a.length:Int)+(b.length:Int):=by rw [zii];omega
  rw [e];refine .two (p:=(a.length:Int)) (zlb k a b) hk rfl rfl ?_ ?_
  ·have e1:(b.length:Int)-1+(a.length:Int)=(a.length:Int)+(b.length:Int)-1:=by omega
   rw [e1,Int.zero_add] at tb;exact tb
  ·rw [Int.add_zero,Int.add_zero] at ta;exact ta
 have nk:=tr.nok;refine ⟨⟨nk.two,nk.one,nk.rep,nk.kind,nk.ntx,fun i n hn h67=>?_⟩,tr⟩;unfold zdj at hn;rcases at_app hn with hn | hn
 ·rcases at_app hn with hn | hn
  ·obtain ⟨p,q⟩:=ha.one _ n hn (by omega);obtain ⟨m,hm⟩:=zdg hn p q;have:=nz_emb ea ha.nok nk a.length _ m (by have:=zbq hm;omega) hm;rw [Int.add_zero] at this;rw [this];exact ha.nn _ n hn h67
  ·obtain ⟨m0,hm0,rfl⟩:=at_movL_inv hn;have hk0:m0.1=6∨m0.1=7:=h67;obtain ⟨p,q⟩:=hb.one _ m0 hm0 (by omega);obtain ⟨m,hm⟩:=zdg hm0 p q;have:=nz_emb eb hb.nok nk b.length _ m (by have:=zbq hm;omega) hm;simp only [zmb];rw [if_pos (by omega),this];exact hb.nn _ m0 hm0 hk0
 ·obtain ⟨_,rfl⟩:=at_one hn;simp only at h67;omega
theorem leaf_rt {n:SNode} (hk:n.1=1∨n.1=2) (h0:n.2.1=0∧n.2.2.1=0):Rt [n]:=by
 have tr:Tr [n] 0 ((([n]:List SNode).length:Int)-1):=.leaf (e:=n) rfl (by omega) (fun h=>by omega) h0;have nk:=tr.nok;refine ⟨⟨nk.two,nk.one,nk.rep,nk.kind,nk.ntx,fun i m hm h67=>?_⟩,tr⟩;obtain ⟨_,rfl⟩:=at_one hm;omega
def zb6 (F:List SItem→Nat) (L:List (List SItem)):Nat:=(L.map F).sum
theorem zet (F:List SItem→Nat) (A B:List (List SItem)):zb6 F (A++B)=zb6 F A+zb6 F B:=by unfold zb6;rw [List.map_append,List.sum_append]
theorem zg1 (F:List SItem→Nat) (m:Nat) (L:List (List SItem)):zb6 F (List.replicate m L).flatten=m*zb6 F L:=by
 induction m with
 | zero=>simp [zb6]
 | succ m ih=>rw [List.replicate_succ,List.flatten_cons,zet,ih,Nat.succ_mul,Nat.add_comm]
theorem zd3 (F:List SItem→Nat) (g:List SItem→List SItem) (L:List (List SItem)):zb6 F (L.map g)=zb6 (fun t=>F (g t)) L:=by unfold zb6;rw [List.map_map];rfl
theorem ze3 {F G:List SItem→Nat} {L:List (List SItem)} (h:∀t∈L,F t=G t):zb6 F L=zb6 G L:=by unfold zb6;rw [List.map_congr_left h]
theorem zc1 (L:List (List SItem)):L.count []=zb6 (fun t=>if t=[] then 1 else 0) L:=by
 induction L with
 | nil=>rfl
 | cons t L ih=>
  rw [List.count_cons,ih];unfold zb6;rw [List.map_cons,List.sum_cons]
  by_cases h:t=[]
  ·simp [h];omega
  ·simp [h]
theorem znd (F:List SItem→Nat) (m:Nat) (L:List (List SItem)):zb6 (fun t=>F t*m) L=zb6 F L*m:=by
 induction L with
 | nil=>simp [zb6]
 | cons t L ih=>
  unfold zb6 at *;simp only [List.map_cons,List.sum_cons];rw [ih,Nat.add_mul]
theorem pmI_ne {d:List SNode} (hd:ROk d) (x:SItem):∀p∈pmI d x,p≠[]:=by
 intro p hp e;subst e;have k1:∀i,[] ∉ pm d i:=fun i h=>by
  obtain ⟨y,q,e,_⟩:=PM_rng hd (i.toNat+1) i (by omega) _ h;cases e
 unfold pmI at hp;split at hp
 ·exact k1 _ hp
 ·split at hp
  ·split at hp
   ·split at hp
    ·obtain ⟨q,_,e⟩:=List.mem_map.1 hp;simp at e
    ·cases hp
   ·cases hp
  ·split at hp
   ·cases hp
   ·simp at hp
theorem zsb {d:List SNode} (hd:ROk d) (F:List SItem→Nat) (r:List SItem):∀s,zb6 F (hds d (s++r))=zb6 (fun t=>if t=[] then zb6 F (hds d r) else F (t++r)) (hds d s)
 | []=>by simp [hds,zb6]
 | x::s=>by
  have ih:=zsb hd F r s;simp only [List.cons_append,hds];rw [zet,zet,zg1,zg1,zd3,zd3,ih]
  congr 1
  refine ze3 fun p hp=>?_;rw [if_neg (by have:=pmI_ne hd x p hp;simp [this]),List.append_assoc]
theorem lowF_app (s r:List SItem):zds (s++r)=if (zds s).2=true∧(zds r).2=true then ((zds s).1++(zds r).1,true) else ([],false):=by
 unfold zds;rw [List.any_append,List.map_append];cases s.any badI <;> cases r.any badI <;> simp
theorem zoh {d:List SNode} {t:List SItem} (ht:t≠[]) (r:List SItem) (c:Int):zba d (t++r) c=if (zba d t c).2=true∧(zds r).2=true then ((zba d t c).1++(zds r).1,true) else ([],false):=by
 cases t with
 | nil=>exact absurd rfl ht
 | cons x rest=>
  have hl:=lowF_app rest r;cases h1:(zds rest).2
  ·have e1:zba d (x::rest) c=([],false):=by unfold zba;simp only;rw [if_pos h1]
   have e2:(zds (rest++r)).2=false:=by rw [hl,h1];simp
   rw [e1];rw [List.cons_append];unfold zba;simp only;rw [if_pos e2];simp
  ·cases h2:(zds r).2
   ·have e2:(zds (rest++r)).2=false:=by rw [hl,h2];simp
    rw [List.cons_append];have e3:zba d (x::(rest++r)) c=([],false):=by unfold zba;simp only;rw [if_pos e2]
    rw [e3,if_neg (by simp)]
   ·have e2:zds (rest++r)=((zds rest).1++(zds r).1,true):=by rw [hl,h1,h2];simp
    rw [List.cons_append];unfold zba;simp only [e2];rw [if_neg (show ¬ true=false by simp),if_neg (show ¬ (zds rest).2=false by rw [h1];simp)];cases hn:at? d x.2.1 with
    | none=>simp
    | some n=>
     simp only
     by_cases h3:x.1=3
     ·rw [if_pos h3,if_pos h3];split
      ·simp
      ·simp
     ·rw [if_neg h3,if_neg h3]
      by_cases h4:x.1=4
      ·rw [if_pos h4,if_pos h4];simp
      ·rw [if_neg h4,if_neg h4]
       by_cases h8:n.1=8
       ·rw [if_pos h8,if_pos h8];simp
       ·rw [if_neg h8,if_neg h8]
        by_cases h9:n.1=9
        ·rw [if_pos h9,if_pos h9];simp
        ·rw [if_neg h9,if_neg h9]
         by_cases hh:n.2.2.2.2.2.1.has c.toNat=true
         ·rw [if_pos hh,if_pos hh];simp
         ·rw [if_neg hh,if_neg hh];simp
def wyn (d:List SNode):List Int→List SItem→Nat
 | [],s=>(hds d s).count []
 | c::w,s=>zb6 (fun t=>if (zba d t c).2=true then wyn d w (zba d t c).1 else 0) (hds d s)
def zpj:Nat→List SItem→Option (List SItem)
 | 0,s=>some s
 | p+1,s=>if (zds s).2=true then zpj p (zds s).1 else none
def wynO (d:List SNode) (w:List Int):Option (List SItem)→Nat
 | some s=>wyn d w s
 | none=>0
theorem zho (d:List SNode) (w:List Int) (s:List SItem):wynO d w (some s)=wyn d w s:=rfl
def zed (F:List Int→List Int→Nat):List Int→Nat
 | []=>F [] []
 | c::w=>F [] (c::w)+zed (fun a b=>F (c::a) b) w
theorem zen {F G:List Int→List Int→Nat}:∀{w:List Int},(∀a b,a++b=w→F a b=G a b)→zed F w=zed G w
 | [],h=>h [] [] rfl
 | c::w,h=>by
  unfold zed;rw [h [] (c::w) rfl,zen fun a b e=>h (c::a) b (by simp [e])]
theorem zf0:∀(w:List Int),zed (fun _ _=>0) w=0
 | []=>rfl
 | c::w=>by unfold zed;rw [zf0 w]
theorem znn (F G:List Int→List Int→Nat):∀(w:List Int),zed (fun a b=>F a b+G a b) w=zed F w+zed G w
 | []=>rfl
 | c::w=>by unfold zed;rw [znn (fun a b=>F (c::a) b) (fun a b=>G (c::a) b) w];omega
theorem cutS_sum (g:List SItem→List Int→List Int→Nat) (w:List Int):∀(L:List (List SItem)),zed (fun a b=>zb6 (fun t=>g t a b) L) w=zb6 (fun t=>zed (g t) w) L
 | []=>by simp [zb6,zf0]
 | t::L=>by
  have ih:=cutS_sum g w L;have e:(fun a b=>zb6 (fun t=>g t a b) (t::L))=fun a b=>g t a b+zb6 (fun t=>g t a b) L:=by
   funext a b;simp [zb6]
  rw [e,znn,ih];simp [zb6]
theorem wyn_app {d:List SNode} (hd:ROk d):∀(w:List Int) (s r:List SItem),wyn d w (s++r)=zed (fun a b=>wyn d a s*wynO d b (zpj a.length r)) w
 | [],s,r=>by
  simp only [wyn,zed,List.length_nil,zpj,zho];rw [zc1,zsb hd,zc1 (hds d s),← znd];refine ze3 fun t _=>?_
  by_cases ht:t=[]
  ·rw [if_pos ht,if_pos ht,← zc1,Nat.one_mul]
  ·rw [if_neg ht,if_neg ht,if_neg (by simp [ht])];simp
 | c::w,s,r=>by
  have ih:=wyn_app hd w;simp only [wyn,zed,List.length_nil,zpj,zho];rw [zsb hd];cases hl:(zds r).2
  ·-- nothing behind may be lowered
   have e0:zed (fun a b=>zb6 (fun t=>if (zba d t c).2=true then wyn d a (zba d t c).1 else 0) (hds d s)*wynO d b (zpj (c::a).length r)) w=0:=by
    have:(fun a b=>zb6 (fun t=>if (zba d t c).2=true then wyn d a (zba d t c).1 else 0) (hds d s)*wynO d b (zpj (c::a).length r))=fun _ _=>0:=by
     funext a b;simp [zpj,hl,wynO]
    rw [this,zf0]
   rw [e0,Nat.add_zero,zc1,← znd];refine ze3 fun t _=>?_
   by_cases ht:t=[]
   ·rw [if_pos ht,if_pos ht,Nat.one_mul]
   ·rw [if_neg ht,if_neg ht,zoh ht,hl];simp
  ·have e0:zed (fun a b=>zb6 (fun t=>if (zba d t c).2=true then wyn d a (zba d t c).1 else 0) (hds d s)*wynO d b (zpj (c::a).length r)) w
     = zb6 (fun t=>if (zba d t c).2=true then wyn d w ((zba d t c).1++(zds r).1) else 0) (hds d s):=by
    have e1:(fun a b=>zb6 (fun t=>if (zba d t c).2=true then wyn d a (zba d t c).1 else 0) (hds d s)*wynO d b (zpj (c::a).length r))
      = fun (a:List Int) b=>zb6 (fun t=>(if (zba d t c).2=true then wyn d a (zba d t c).1 else 0)*wynO d b (zpj a.length (zds r).1)) (hds d s):=by
     funext a b;rw [znd];simp [zpj,hl]
    rw [e1,cutS_sum (fun t a b=>(if (zba d t c).2=true then wyn d a (zba d t c).1 else 0)*wynO d b (zpj a.length (zds r).1))];refine ze3 fun t _=>?_;cases hr:(zba d t c).2
    ·simp [zf0]
    ·simp only [if_true];rw [ih]
   rw [e0,zc1,← znd];have e2:∀(A B:List SItem→Nat) (L:List (List SItem)),zb6 A L+zb6 B L=zb6 (fun t=>A t+B t) L:=by
    intro A B L
    induction L with
    | nil=>rfl
    | cons t L ih=>unfold zb6 at *;simp only [List.map_cons,List.sum_cons];omega
   rw [e2];refine ze3 fun t _=>?_
   by_cases ht:t=[]
   ·subst ht;simp [zba]
   ·rw [if_neg ht,if_neg ht,zoh ht,hl];cases hr:(zba d t c).2
    ·simp
    ·simp
def zbr (d:List SNode) (i:Int) (w:List Int):Nat:=wyn d w [(1,i,0,0)]
theorem zm8 {d:List SNode} {s s':List SItem} (h:∀F,zb6 F (hds d s)=zb6 F (hds d s')) (w:List Int):wyn d w s=wyn d w s':=by
 cases w with
 | nil=>simp only [wyn];rw [zc1,zc1,h]
 | cons c w=>simp only [wyn];rw [h]
theorem wyn_two {d:List SNode} {s s1 s2:List SItem} (h:∀F,zb6 F (hds d s)=zb6 F (hds d s1)+zb6 F (hds d s2)) (w:List Int):wyn d w s=wyn d w s1+wyn d w s2:=by
 cases w with
 | nil=>simp only [wyn];rw [zc1,zc1,zc1,h]
 | cons c w=>simp only [wyn];rw [h]
theorem zqz (d:List SNode) (w:List Int):wyn d w []=if w=[] then 1 else 0:=by
 cases w with
 | nil=>simp [wyn,hds]
 | cons c w=>simp [wyn,hds,zb6,zba]
theorem zms (d:List SNode) (r:Int):hds d [(1,r,0,0)]=pm d r++(List.replicate (nw d r) [[]]).flatten:=by
 have e1:pmI d (1,r,0,0)=pm d r:=rfl;have e2:nwI d (1,r,0,0)=nw d r:=rfl;simp only [hds,e1,e2,List.append_nil];rw [List.map_id']
theorem zdm (d:List SNode) (F:List SItem→Nat) (i:Int):zb6 F (hds d [(1,i,0,0)])=zb6 F (pm d i)+nw d i*F []:=by
 have e1:pmI d (1,i,0,0)=pm d i:=rfl;have e2:nwI d (1,i,0,0)=nw d i:=rfl;simp only [hds,e1,e2,List.append_nil];rw [List.map_id',zet,zg1];simp [zb6]
theorem zhs (d:List SNode) (F:List SItem→Nat) (i:Int) (r:List SItem):zb6 F (hds d ((1,i,0,0)::r))=zb6 (fun p=>F (p++r)) (pm d i)+nw d i*zb6 F (hds d r):=by
 have e1:pmI d (1,i,0,0)=pm d i:=rfl;have e2:nwI d (1,i,0,0)=nw d i:=rfl;simp only [hds,e1,e2];rw [zet,zg1,zd3]
theorem zks {d:List SNode} (hd:ROk d) {i:Int} {n:SNode} (hn:at? d i=some n) (h:n.1=6∨n.1=7):nw d n.2.1=0:=by
 obtain ⟨p,q⟩:=hd.one _ n hn (by omega);obtain ⟨m,hm⟩:=zdg hn p q;have:=zkr hd (n.2.1.toNat+1) _ m (by omega) hm;rw [hd.nn _ n hn h] at this;rcases Nat.eq_zero_or_pos (nw d n.2.1) with h0 | h0
 ·exact h0
 ·have:=this.1 (by omega);cases this
def zp6 (s:List SItem):Prop:=∀x∈s,x.1≠5
theorem lowF_plain {s:List SItem} (h:zp6 s):zds s=(s,true):=by
 unfold zds;have h1:s.any badI=false:=by
  rw [List.any_eq_false];intro x hx;simp [badI,h x hx]
 rw [h1];simp only [Bool.false_eq_true,if_false,Prod.mk.injEq,and_true];have:∀x∈s,zi3 x=id x:=fun x hx=>by unfold zi3;rw [if_neg (h x hx)];rfl
 rw [List.map_congr_left this,List.map_id]
theorem ze6 {s:List SItem} (h:zp6 s):∀p,zpj p s=some s
 | 0=>rfl
 | p+1=>by
  unfold zpj;rw [lowF_plain h];simp only [if_true];exact ze6 h p
theorem zns {d:List SNode} (hd:ROk d) (w:List Int) (s:List SItem) {r:List SItem} (h:zp6 r):wyn d w (s++r)=zed (fun a b=>wyn d a s*wyn d b r) w:=by
 rw [wyn_app hd];exact zen fun a b _=>by rw [ze6 h,zho]
section
variable {d : List SNode} (hd : ROk d) {i : Int} {n : SNode} (hn : at? d i = some n)
include hd hn
theorem zl7 (h:n.1=1) (w:List Int):zbr d i w=if w=[] then 1 else 0:=by
 have e:=zit hd hn;rw [if_pos h] at e;have e1:pm d i=[]:=by unfold pm;rw [e]
 have e2:nw d i=1:=by unfold nw;rw [e]
 unfold zbr;rw [← zqz d w];refine zm8 (fun F=>?_) w;rw [zdm,e1,e2];simp [hds,zb6]
theorem zrv (h:n.1=4) (w:List Int):zbr d i w=zed (fun a b=>zbr d n.2.1 a*zbr d n.2.2.1 b) w:=by
 have e:=zit hd hn;rw [if_neg (by omega),if_neg (by omega),if_pos h] at e;have e1:pm d i=(pm d n.2.1).map (·++[(1,n.2.2.1,0,0)])++(List.replicate (nw d n.2.1) (pm d n.2.2.1)).flatten:=by
  have:pm d i=(PM d d.length i).1:=rfl;rw [this,e]
 have e2:nw d i=nw d n.2.1*nw d n.2.2.1:=by
  have:nw d i=(PM d d.length i).2:=rfl;rw [this,e]
 unfold zbr;rw [← zns hd w [(1,n.2.1,0,0)] (r:=[(1,n.2.2.1,0,0)]) (by intro x hx;rw [List.mem_singleton.1 hx];simp)];refine zm8 (fun F=>?_) w;rw [zdm,List.singleton_append,zhs,zdm,e1,e2,zet,zd3,zg1,Nat.mul_add,Nat.mul_assoc,Nat.add_assoc]
theorem node_or (h:n.1=5) (w:List Int):zbr d i w=zbr d n.2.1 w+zbr d n.2.2.1 w:=by
 have e:=zit hd hn;rw [if_neg (by omega),if_neg (by omega),if_neg (by omega),if_pos h] at e;have e1:pm d i=pm d n.2.1++pm d n.2.2.1:=by
  have:pm d i=(PM d d.length i).1:=rfl;rw [this,e]
 have e2:nw d i=nw d n.2.1+nw d n.2.2.1:=by
  have:nw d i=(PM d d.length i).2:=rfl;rw [this,e]
 unfold zbr;refine wyn_two (fun F=>?_) w;rw [zdm,zdm,zdm,e1,e2,zet,Nat.add_mul];omega
theorem node_star (h:n.1=6) (w:List Int):zbr d i w=(if w=[] then 1 else 0)+zed (fun a b=>zbr d n.2.1 a*zbr d i b) w:=by
 have e:=zit hd hn;rw [if_neg (by omega),if_neg (by omega),if_neg (by omega),if_neg (by omega),if_pos h] at e;have e1:pm d i=(pm d n.2.1).map (·++[(1,i,0,0)]):=by
  have:pm d i=(PM d d.length i).1:=rfl;rw [this,e]
 have e2:nw d i=1:=by
  have:nw d i=(PM d d.length i).2:=rfl;rw [this,e]
 have z:=zks hd hn (.inl h);unfold zbr;rw [← zns hd w [(1,n.2.1,0,0)] (r:=[(1,i,0,0)]) (by intro x hx;rw [List.mem_singleton.1 hx];simp),← zqz d w];refine wyn_two (fun F=>?_) w;rw [zdm,List.singleton_append,zhs,e1,e2,z,zd3];simp [hds,zb6];omega
theorem item_rep (h:n.1=7) (lo hi:Int) (w:List Int):wyn d w [(2,i,lo,hi)]=(if lo=0∧w=[] then 1 else 0)+if 0<hi then zed (fun a b=>zbr d n.2.1 a*wyn d b [(2,i,max (lo-1) 0,hi-1)]) w else 0:=by
 have z:=zks hd hn (.inr h);have e1:pmI d (2,i,lo,hi)=if 0<hi then (pm d n.2.1).map (·++[(2,i,max (lo-1) 0,hi-1)]) else []:=by
  unfold pmI;simp [hn]
 have e2:nwI d (2,i,lo,hi)=if lo=0 then 1 else 0:=by simp [nwI]
 have base:∀F,zb6 F (hds d [(2,i,lo,hi)])=(if lo=0 then F [] else 0)+if 0<hi then zb6 F (hds d ([(1,n.2.1,0,0)]++[(2,i,max (lo-1) 0,hi-1)])) else 0:=by
  intro F;simp only [List.singleton_append];rw [zhs,z];have e3:hds d [(2,i,lo,hi)]=(pmI d (2,i,lo,hi)).map (·++[])++(List.replicate (nwI d (2,i,lo,hi)) [[]]).flatten:=rfl;rw [e3,zet,zg1,e1,e2,zd3]
  by_cases h0:lo=0
  ·by_cases h1:0<hi
   ·simp only [if_pos h0,if_pos h1,List.append_nil];rw [zd3];simp [zb6];omega
   ·simp only [if_pos h0,if_neg h1];simp [zb6]
  ·by_cases h1:0<hi
   ·simp only [if_neg h0,if_pos h1,List.append_nil];rw [zd3];simp [zb6]
   ·simp only [if_neg h0,if_neg h1];simp [zb6]
 have ap:=zns hd w [(1,n.2.1,0,0)] (r:=[(2,i,max (lo-1) 0,hi-1)]) (by intro x hx;rw [List.mem_singleton.1 hx];simp);unfold zbr;rw [← ap];cases w with
 | nil=>
  simp only [wyn];rw [zc1,base,← zc1]
  by_cases h0:lo=0 <;> simp [h0]
 | cons c w=>
  simp only [wyn];rw [base]
  by_cases h0:lo=0 <;> simp [h0,zba]
theorem node_rep (h:n.1=7) (w:List Int):zbr d i w=wyn d w [(2,i,n.2.2.2.1,n.2.2.2.2.1)]:=by
 have e:=zit hd hn;rw [if_neg (by omega),if_neg (by omega),if_neg (by omega),if_neg (by omega),if_neg (by omega),if_pos h] at e;have e1:pm d i=if 0<n.2.2.2.2.1 then (pm d n.2.1).map (·++[(2,i,max (n.2.2.2.1-1) 0,n.2.2.2.2.1-1)]) else []:=by
  have:pm d i=(PM d d.length i).1:=rfl;rw [this,e]
 have e2:nw d i=if n.2.2.2.1=0 then 1 else 0:=by
  have:nw d i=(PM d d.length i).2:=rfl;rw [this,e]
 have e3:pmI d (2,i,n.2.2.2.1,n.2.2.2.2.1)=pm d i:=by rw [e1];unfold pmI;simp [hn]
 have e4:nwI d (2,i,n.2.2.2.1,n.2.2.2.2.1)=nw d i:=by rw [e2];simp [nwI]
 unfold zbr;refine zm8 (fun F=>?_) w;have e5:hds d [(2,i,n.2.2.2.1,n.2.2.2.2.1)]=(pmI d (2,i,n.2.2.2.1,n.2.2.2.2.1)).map (·++[])++(List.replicate (nwI d (2,i,n.2.2.2.1,n.2.2.2.2.1)) [[]]).flatten:=rfl;rw [e5,e3,e4];rfl
theorem znf (h:n.1=2∨n.1=8∨n.1=9):pm d i=[[(1,i,0,0)]]∧nw d i=0:=by
 have e:=zit hd hn;rw [if_neg (by omega),if_neg (by omega),if_neg (by omega),if_neg (by omega),if_neg (by omega),if_neg (by omega)] at e;have h1:pm d i=(PM d d.length i).1:=rfl;have h2:nw d i=(PM d d.length i).2:=rfl;rw [h1,h2,e];exact ⟨rfl,rfl⟩
theorem zgj (h:n.1=2∨n.1=8∨n.1=9):zbr d i []=0∧∀c w,zbr d i (c::w)=if (zba d [(1,i,0,0)] c).2=true then wyn d w (zba d [(1,i,0,0)] c).1 else 0:=by
 obtain ⟨e1,e2⟩:=znf hd hn h;have e3:hds d [(1,i,0,0)]=[[(1,i,0,0)]]:=by rw [zms,e1,e2];rfl
 unfold zbr;refine ⟨by simp [wyn,e3],fun c w=>by simp [wyn,e3,zb6]⟩
theorem node_bytes (h:n.1=2) (w:List Int):zbr d i w=match w with | []=>0 | c::w=>if n.2.2.2.2.2.1.has c.toNat=true∧w=[] then 1 else 0:=by
 obtain ⟨k1,k2⟩:=zgj hd hn (.inl h);cases w with
 | nil=>exact k1
 | cons c w=>
  rw [k2];have e:zba d [(1,i,0,0)] c=if n.2.2.2.2.2.1.has c.toNat=true then ([],true) else ([],false):=by
   unfold zba;simp only [hn];rw [if_neg (by simp [zds]),if_neg (by decide),if_neg (by decide),if_neg (by omega),if_neg (by omega)];rfl
  rw [e]
  by_cases hh:n.2.2.2.2.2.1.has c.toNat=true
  ·rw [if_pos hh];simp only [if_true];rw [zqz];simp [hh]
  ·rw [if_neg hh];simp [hh]
end
end Go.Proofs.YtjdaaiodniicoaaGreatDoor.V
namespace Go.Proofs.YtjdaaiodniicoaaGreatDoor.V
open Go
set_option linter.unusedVariables false
theorem zsf {F:List Int→List Int→Nat}:∀{w:List Int},(∀a b,a++b=w→b≠[]→F a b=0)→zed F w=F w []
 | [],_=>rfl
 | c::w,h=>by
  unfold zed;rw [h [] (c::w) rfl (by simp),Nat.zero_add];exact zsf fun a b e hb=>h (c::a) b (by simp [e]) hb
theorem znj (m:Int) (hm:0≤m):∀p:Nat,zpj p [(5,0,m,0)]=if (p:Int)≤m then some [(5,0,m-p,0)] else none:=by
 intro p
 induction p generalizing m with
 | zero=>simp [zpj,hm]
 | succ p ih=>
  unfold zpj
  by_cases h0:m≤0
  ·have e:zds [(5,0,m,0)]=([],false):=by simp [zds,badI,h0]
   rw [e,if_neg (by simp),if_neg (by omega)]
  ·have e:zds [(5,0,m,0)]=([(5,0,m-1,0)],true):=by simp [zds,badI,zi3,h0]
   rw [e];simp only [if_true];rw [ih (m-1) (by omega)]
   by_cases h1:((p+1:Nat):Int)≤m
   ·rw [if_pos (by omega),if_pos h1]
    congr 3
    simp;omega
   ·rw [if_neg (by omega),if_neg h1]
theorem wyn_end (d:List SNode) (m:Int) (w:List Int):wyn d w [(5,0,m,0)]=if m=0∧w=[] then 1 else 0:=by
 have e:hds d [(5,0,m,0)]=if m=0 then [[]] else []:=by
  have e1:pmI d (5,0,m,0)=[]:=by simp [pmI]
  have e2:nwI d (5,0,m,0)=if m=0 then 1 else 0:=by simp [nwI]
  have e3:hds d [(5,0,m,0)]=(pmI d (5,0,m,0)).map (·++[])++(List.replicate (nwI d (5,0,m,0)) [[]]).flatten:=rfl;rw [e3,e1,e2];split <;> rfl
 cases w with
 | nil=>simp only [wyn,e];split <;> simp_all
 | cons c w=>simp only [wyn,e];split <;> simp [zb6,zba]
section
variable {d : List SNode} (hd : ROk d)
include hd
theorem wyn_held (i:Int) {c:Int} (hc:0≤c) (w:List Int):wyn d w [(1,i,0,0),(5,0,c,0)]=if (w.length:Int)=c then zbr d i w else 0:=by
 have e:=wyn_app hd w [(1,i,0,0)] [(5,0,c,0)];rw [List.singleton_append] at e;rw [e,zsf]
 ·rw [znj c hc];unfold zbr
  by_cases h:(w.length:Int)=c
  ·rw [if_pos (by omega),if_pos h,zho,wyn_end,if_pos ⟨by omega,rfl⟩,Nat.mul_one]
  ·rw [if_neg h]
   by_cases h1:(w.length:Int)≤c
   ·rw [if_pos h1,zho,wyn_end,if_neg (by omega)];simp
   ·rw [if_neg h1];simp [wynO]
 ·intro a b hab hb;rw [znj c hc];split
  ·rw [zho,wyn_end,if_neg (by simp [hb])];simp
  ·simp [wynO]
variable {i : Int} {n : SNode} (hn : at? d i = some n)
include hn
theorem zqq (h:n.1=8) (w:List Int) (hw:∀c∈w,0≤c):zbr d i w=match w with | []=>0 | c::w=>if (w.length:Int)=c then zbr d n.2.1 w else 0:=by
 obtain ⟨k1,k2⟩:=zgj hd hn (.inr (.inl h));cases w with
 | nil=>exact k1
 | cons c w=>
  rw [k2];have e:zba d [(1,i,0,0)] c=([(1,n.2.1,0,0),(5,0,c,0)],true):=by
   unfold zba;simp only [hn];rw [if_neg (by simp [zds]),if_neg (by decide),if_neg (by decide),if_pos h];rfl
  rw [e];simp only [if_true];exact wyn_held hd n.2.1 (hw c (by simp)) w
theorem zoo (h:n.1=9) (w:List Int) (hw:∀c∈w,0≤c):zbr d i w=match w with | []=>0 | [_]=>0 | c::b::w=>if (w.length:Int)=256*c+b then zbr d n.2.1 w else 0:=by
 obtain ⟨k1,k2⟩:=zgj hd hn (.inr (.inr h));cases w with
 | nil=>exact k1
 | cons c w=>
  rw [k2];have e:zba d [(1,i,0,0)] c=([(4,i,c,0)],true):=by
   unfold zba;simp only [hn];rw [if_neg (by simp [zds]),if_neg (by decide),if_neg (by decide),if_neg (by omega),if_pos h];rfl
  rw [e];simp only [if_true];have e4:hds d [(4,i,c,0)]=[[(4,i,c,0)]]:=by
   have e1:pmI d (4,i,c,0)=[[(4,i,c,0)]]:=by simp [pmI]
   have e2:nwI d (4,i,c,0)=0:=by simp [nwI]
   have e3:hds d [(4,i,c,0)]=(pmI d (4,i,c,0)).map (·++[])++(List.replicate (nwI d (4,i,c,0)) [[]]).flatten:=rfl;rw [e3,e1,e2];rfl
  cases w with
  | nil=>simp [wyn,e4]
  | cons b w=>
   have e5:zba d [(4,i,c,0)] b=([(1,n.2.1,0,0),(5,0,256*c+b,0)],true):=by
    unfold zba;simp only [hn];rw [if_neg (by simp [zds]),if_neg (by decide),if_pos trivial];rfl
   simp only [wyn,e4];have hc0:=hw c (by simp);have hb0:=hw b (by simp);have:zb6 (fun t=>if (zba d t b).2=true then wyn d w (zba d t b).1 else 0) [[(4,i,c,0)]]=wyn d w [(1,n.2.1,0,0),(5,0,256*c+b,0)]:=by
    simp [zb6,e5]
   rw [this];exact wyn_held hd n.2.1 (by omega) w
omit hd in
theorem wyn_text (h:n.1=3):∀(w:List Int) (lo:Nat),lo<n.2.2.2.2.2.2.length→wyn d w [(3,i,(lo:Int),0)]=if w=(n.2.2.2.2.2.2.map fun b=>(b.toNat:Int)).drop lo then 1 else 0:=by
 have e3:∀lo:Int,hds d [(3,i,lo,0)]=[[(3,i,lo,0)]]:=fun lo=>by
  have e1:pmI d (3,i,lo,0)=[[(3,i,lo,0)]]:=by simp [pmI]
  have e2:nwI d (3,i,lo,0)=0:=by simp [nwI]
  have e3:hds d [(3,i,lo,0)]=(pmI d (3,i,lo,0)).map (·++[])++(List.replicate (nwI d (3,i,lo,0)) [[]]).flatten:=rfl
  rw [e3,e1,e2];rfl
 intro w
 induction w with
 | nil=>
  intro lo hlo
  rw [if_neg (by
   intro e
   have:=congrArg List.length e
   simp at this
   omega)]
  simp [wyn,e3]
 | cons c w ih=>
  intro lo hlo
  have hb:zd9 n.2.2.2.2.2.2 (lo:Int)=some ((n.2.2.2.2.2.2[lo]).toNat:Int):=by
   unfold zd9
   rw [zbm,List.getElem?_eq_getElem hlo];rfl
  have hdr:(n.2.2.2.2.2.2.map fun b=>(b.toNat:Int)).drop lo=((n.2.2.2.2.2.2[lo]).toNat:Int)::(n.2.2.2.2.2.2.map fun b=>(b.toNat:Int)).drop (lo+1):=by
   rw [List.drop_eq_getElem_cons (by simpa using hlo)];simp
  have hr:zba d [(3,i,(lo:Int),0)] c=if zd9 n.2.2.2.2.2.2 (lo:Int)=some c then (if (lo:Int)+1<(n.2.2.2.2.2.2.length:Int) then [(3,i,(lo:Int)+1,0)] else [],true) else ([],false):=by
   unfold zba
   simp only [hn]
   rw [if_neg (by simp [zds]),if_pos trivial]
   split
   ·split <;> rfl
   ·rfl
  simp only [wyn,e3]
  have es:zb6 (fun t=>if (zba d t c).2=true then wyn d w (zba d t c).1 else 0) [[(3,i,(lo:Int),0)]]=if (zba d [(3,i,(lo:Int),0)] c).2=true then wyn d w (zba d [(3,i,(lo:Int),0)] c).1 else 0:=by simp [zb6]
  rw [es,hdr]
  by_cases hc:((n.2.2.2.2.2.2[lo]).toNat:Int)=c
  ·have hr2:zba d [(3,i,(lo:Int),0)] c=(if (lo:Int)+1<(n.2.2.2.2.2.2.length:Int) then [(3,i,(lo:Int)+1,0)] else [],true):=by rw [hr,hb,if_pos (by rw [hc])]
   rw [hr2]
   simp only [if_true]
   by_cases hl:lo+1<n.2.2.2.2.2.2.length
   ·rw [if_pos (show (lo:Int)+1<(n.2.2.2.2.2.2.length:Int) by omega)]
    have:=ih (lo+1) hl
    have ec:((lo+1:Nat):Int)=(lo:Int)+1:=by omega
    rw [ec] at this
    rw [this,hc]
    simp
   ·rw [if_neg (show ¬ (lo:Int)+1<(n.2.2.2.2.2.2.length:Int) by omega),zqz,hc]
    have:(n.2.2.2.2.2.2.map fun b=>(b.toNat:Int)).drop (lo+1)=[]:=List.drop_of_length_le (by simp;omega)
    rw [this]
    simp
  ·have hr2:zba d [(3,i,(lo:Int),0)] c=([],false):=by rw [hr,hb,if_neg (by simpa using hc)]
   rw [hr2]
   simp only [Bool.false_eq_true,if_false]
   rw [if_neg]
   intro e
   injection e with e1 e2
   exact hc e1.symm
theorem node_text (h:n.1=3) (w:List Int):zbr d i w=if w=(n.2.2.2.2.2.2.map fun b=>(b.toNat:Int)) then 1 else 0:=by
 have hne:=hd.ntx _ n hn h;have hlo:0<n.2.2.2.2.2.2.length:=List.length_pos_iff.2 hne;have e:=zit hd hn;rw [if_neg (by omega),if_pos h] at e;have e1:pm d i=[[(3,i,0,0)]]:=by
  have:pm d i=(PM d d.length i).1:=rfl;rw [this,e]
 have e2:nw d i=0:=by
  have:nw d i=(PM d d.length i).2:=rfl;rw [this,e]
 have:=wyn_text hn h w 0 hlo;rw [List.drop_zero] at this;rw [← this];unfold zbr;refine zm8 (fun F=>?_) w;rw [zdm,e1,e2];have e3:pmI d (3,i,((0:Nat):Int),0)=[[(3,i,0,0)]]:=by simp [pmI]
 have e4:nwI d (3,i,((0:Nat):Int),0)=0:=by simp [nwI]
 have e5:hds d [(3,i,((0:Nat):Int),0)]=(pmI d (3,i,((0:Nat):Int),0)).map (·++[])++(List.replicate (nwI d (3,i,((0:Nat):Int),0)) [[]]).flatten:=rfl;rw [e5,e3,e4];simp [zb6]
end
end Go.Proofs.YtjdaaiodniicoaaGreatDoor.V
namespace Go.Proofs.YtjdaaiodniicoaaGreatDoor.V
open Go
set_option linter.unusedVariables false
def zdi (N:Nat) (g:Nat→Int):List Int:=(List.range (N+1)).map g
theorem zie (N:Nat) (g:Nat→Int):(zdi N g).length=N+1:=by simp [zdi]
theorem zhg {N:Nat} {g:Nat→Int} {q:Nat} (h:q≤N):at? (zdi N g) (q:Int)=some (g q):=by
 rw [zbm];unfold zdi;rw [List.getElem?_map,List.getElem?_range (by omega)];rfl
theorem zg6 (N:Nat) (g:Nat→Int) (q:Nat) (v:Int):(zdi N g).set q v=zdi N (fun k=>if k=q then v else g k):=by
 apply List.ext_getElem
 ·simp [zdi]
 ·intro i h1 h2;rw [List.getElem_set];simp only [zdi,List.getElem_map,List.getElem_range]
  by_cases h:q=i
  ·subst h;simp
  ·rw [if_neg h,if_neg (fun e=>h e.symm)]
theorem zbi {N:Nat} {g h:Nat→Int} (e:∀q,q≤N→g q=h q):zdi N g=zdi N h:=by
 unfold zdi;refine List.map_congr_left fun q hq=>e q ?_;have:=List.mem_range.1 hq;omega
theorem znr {w:List Int} (hw:w.length≤1000):ze4 w (zdi w.length fun _=>0):=by
 refine ⟨zi (by omega) (by omega),⟨by omega,by omega⟩, ?_⟩;have e:((w.length:Int)+1).toNat=w.length+1:=by omega
 rw [e];apply List.ext_getElem
 ·simp [zdi]
 ·intro i h1 h2;simp [zdi]
theorem zrs {N:Nat} (hN:N≤1000) {g h:Nat→Int} {t:Int} (hg:∀q,0≤g q∧g q≤2) (hh:∀q,0≤h q∧h q≤2) (ht:0≤t∧t≤2):zb2 (zdi N g) (zdi N h) t (zdi N fun q=>min 2 (g q+t*h q)):=by
 refine ⟨by rw [zie];simp;omega, ?_⟩;refine zh8 (P:=fun k (o:List Int) v=>zb2.l1 (zdi N h) t _ k o v) (N+1) (fun i o=>o=zdi N fun q=>if q<i then min 2 (g q+t*h q) else g q) ?_ ?_ _ (by simp)
 ·rintro i o hi rfl;have e1:at? (zdi N fun q=>if q<i then min 2 (g q+t*h q) else g q) (i:Int)=some (g i):=by
   rw [zhg (by omega),if_neg (by omega)]
  have e2:at? (zdi N h) (i:Int)=some (h i):=zhg (by omega);have hp:0≤t*h i∧t*h i≤4:=by
   have h1:=hh i;have:t=0∨t=1∨t=2:=by omega
   rcases this with rfl | rfl | rfl <;> omega
  have hgi:=hg i;refine .inr ⟨_,rfl,fun k hk=>⟨fun _=>⟨_,e1,_,e2,zi (by omega) (by omega),zi (by omega) (by omega),_,e1,zi (by omega) (by omega), ?_⟩,fun hx=>absurd (by rw [zie];omega) (df hx)⟩⟩;rw [Int.toNat_natCast,zg6];have:(zdi N fun k=>if k=i then min 2 (g i+t*h i) else if k<i then min 2 (g k+t*h k) else g k)=zdi N fun q=>if q<i+1 then min 2 (g q+t*h q) else g q:=zbi fun q _=>by
   by_cases h1:q=i
   ·subst h1;simp
   ·rw [if_neg h1]
    by_cases h2:q<i
    ·rw [if_pos h2,if_pos (by omega)]
    ·rw [if_neg h2,if_neg (by omega)]
  rw [this];exact hk
 ·rintro o rfl k;refine ⟨fun hx=>absurd (dt hx) (by rw [zie];omega),fun _=>?_⟩;show zdi N _=zdi N _;exact zbi fun q hq=>by rw [if_pos (by omega)]
theorem zhf (n:Nat):0≤sat n∧sat n≤2:=by unfold sat;omega
theorem sat_more (x a b:Nat):min 2 (sat x+sat a*sat b)=sat (x+a*b):=by
 have h:=min_mul a b;have e:(sat a*sat b:Int)=((min 2 a*min 2 b:Nat):Int):=by unfold sat;rw [Int.natCast_mul]
 rw [e];generalize min 2 a*min 2 b=P at *;generalize a*b=Q at *;unfold sat;omega
theorem sat_plus (x b:Nat):min 2 (sat x+1*sat b)=sat (x+b):=by unfold sat;omega
def zeq (K:Nat) (f:Nat→Nat):Nat:=((List.range K).map f).sum
theorem zdc (K:Nat) (f:Nat→Nat):zeq (K+1) f=zeq K f+f K:=by
 unfold zeq;rw [List.range_succ,List.map_append,List.sum_append];simp
theorem zi7 (K:Nat):zeq K (fun _=>0)=0:=by
 induction K with
 | zero=>rfl
 | succ K ih=>rw [zdc,ih]
theorem zej {K:Nat} {f g:Nat→Nat} (h:∀k,k<K→f k=g k):zeq K f=zeq K g:=by
 unfold zeq;rw [List.map_congr_left fun k hk=>h k (List.mem_range.1 hk)]
theorem sumK_pick {K m:Nat} (hm:m<K) {f g:Nat→Nat} (h1:∀k,k≠m→f k=g k) (h2:g m=0):zeq K f=f m+zeq K g:=by
 induction K with
 | zero=>omega
 | succ K ih=>
  rw [zdc,zdc]
  by_cases h:m=K
  ·subst h;rw [h2,zej fun k hk=>h1 k (by omega)];omega
  ·rw [ih (by omega),h1 K (fun e=>h e.symm)];omega
def seg (w:List Int) (p q:Nat):List Int:=(w.take q).drop p
theorem zg4 (w:List Int) (p:Nat):seg w p p=[]:=by
 unfold seg;exact List.drop_of_length_le (by rw [List.length_take];omega)
theorem zeu {w:List Int} {p q:Nat} (h:p<q) (hq:q≤w.length):seg w p q=w[p]'(by omega)::seg w (p+1) q:=by
 unfold seg;rw [List.drop_eq_getElem_cons (by rw [List.length_take];omega)];simp
theorem cutS_seg {w:List Int}:∀(m p q:Nat) (F:List Int→List Int→Nat),q=p+m→q≤w.length→zed F (seg w p q)=zeq (w.length+1) fun k=>if p≤k∧k≤q then F (seg w p k) (seg w k q) else 0:=by
 intro m
 induction m with
 | zero=>
  intro p q F h hq;have:q=p:=by omega
  subst this;rw [sumK_pick (m:=q) (by omega) (g:=fun _=>0) (fun k hk=>if_neg (by omega)) rfl,zi7,if_pos ⟨Nat.le_refl _,Nat.le_refl _⟩,zg4];rfl
 | succ m ih=>
  intro p q F h hq;have hp:p<w.length:=by omega
  have pick:=sumK_pick (K:=w.length+1) (m:=p) (by omega) (f:=fun k=>if p≤k∧k≤q then F (seg w p k) (seg w k q) else 0) (g:=fun k=>if p+1≤k∧k≤q then F (seg w p k) (seg w k q) else 0) (fun k hk=>by
   by_cases h1:p≤k∧k≤q
   ·rw [if_pos h1,if_pos (by omega)]
   ·rw [if_neg h1,if_neg (by omega)]) (if_neg (by omega))
  rw [pick];rw [if_pos (by omega),zg4,zeu (show p<q by omega) hq];simp only [zed];rw [ih (p+1) q _ (by omega) hq]
  congr 1
  refine zej fun k hk=>?_
  by_cases h1:p+1≤k∧k≤q
  ·rw [if_pos h1,if_pos h1,zeu (show p<k by omega) (by omega)]
  ·rw [if_neg h1,if_neg h1]
theorem through_in {n_:SDesc→Int→List Int→Int→List Int→Prop} {d:SDesc} {i:Int} {w:List Int} (hw:w.length≤1000) {A:Nat→Nat} {B:Nat→Nat→Nat} (hB:∀k,k≤w.length→A k≠0→n_ d i w (k:Int) (zdi w.length fun q=>sat (B k q))):
  ref12_through.b n_ d i w (zdi w.length fun k=>sat (A k)) (zdi w.length fun q=>sat (zeq (w.length+1) fun k=>A k*B k q)):=by
 refine ⟨_,znr hw, ?_⟩;refine zh8 (P:=fun k (o:List Int) v=>ref12_through.l1 n_ d i w (zdi w.length fun k=>sat (A k)) _ k o v) (w.length+1) (fun K o=>o=zdi w.length fun q=>sat (zeq K fun k=>A k*B k q)) ?_ ?_ _ ?_
 ·rintro K o hK rfl;have e1:at? (zdi w.length fun k=>sat (A k)) (K:Int)=some (sat (A K)):=zhg (by omega);refine .inr ⟨_,rfl,fun k hk=>⟨fun _=>⟨_,e1,fun h0=>?_,fun h0=>⟨zi (by omega) (by omega), ?_⟩⟩,fun hx=>absurd (by rw [zie];omega) (df hx)⟩⟩
  ·have h0:A K≠0:=by have:=dt h0;unfold sat at this;omega
   refine ⟨_,hB K (by omega) h0,_,e1,_,zrs hw (fun q=>zhf _) (fun q=>zhf _) (zhf _),zi (by omega) (by omega), ?_⟩;have:(zdi w.length fun q=>min 2 (sat (zeq K fun k=>A k*B k q)+sat (A K)*sat (B K q)))=zdi w.length fun q=>sat (zeq (K+1) fun k=>A k*B k q):=zbi fun q _=>by rw [sat_more,zdc]
   rw [this];exact hk
  ·have h0:A K=0:=by have:=df h0;unfold sat at this;omega
   have:(zdi w.length fun q=>sat (zeq K fun k=>A k*B k q))=zdi w.length fun q=>sat (zeq (K+1) fun k=>A k*B k q):=zbi fun q _=>by rw [zdc,h0];simp
   rw [this];exact hk
 ·rintro o rfl k;exact ⟨fun hx=>absurd (dt hx) (by rw [zie];omega),fun _=>rfl⟩
 ·rfl
def zjd (f:List Int→Nat):Nat→List Int→Nat
 | 0,u=>if u=[] then 1 else 0
 | t+1,u=>zed (fun a b=>zjd f t a*f b) u
theorem zjc (f:List Int→Nat) (t:Nat) (u:List Int):zjd f (t+1) u=zed (fun a b=>zjd f t a*f b) u:=rfl
def zj0 (f:List Int→Nat) (w:List Int) (p t q:Nat):Nat:=if p≤q then zjd f t (seg w p q) else 0
def zkm (f:List Int→Nat) (w:List Int) (k q:Nat):Nat:=if k≤q then f (seg w k q) else 0
theorem powQ_succ {f:List Int→Nat} {w:List Int} {p t q:Nat} (hq:q≤w.length):zj0 f w p (t+1) q=zeq (w.length+1) fun k=>zj0 f w p t k*zkm f w k q:=by
 unfold zj0 zkm
 by_cases h:p≤q
 ·rw [if_pos h,zjc,cutS_seg (q-p) p q _ (by omega) hq];refine zej fun k hk=>?_
  by_cases h1:p≤k
  ·by_cases h2:k≤q
   ·rw [if_pos ⟨h1,h2⟩,if_pos h1,if_pos h2]
   ·rw [if_neg (by omega),if_neg h2];simp
  ·rw [if_neg (by omega),if_neg h1];simp
 ·rw [if_neg h];have:(fun k=>(if p≤k then zjd f t (seg w p k) else 0)*if k≤q then f (seg w k q) else 0)=fun _=>0:=by
   funext k
   by_cases h1:p≤k
   ·rw [if_neg (show ¬ k≤q by omega)];simp
   ·rw [if_neg h1];simp
  rw [this,zi7]
theorem times_l2 {n_:SDesc→Int→List Int→Int→List Int→Prop} {d:SDesc} {i:Int} {w:List Int} (hw:w.length≤1000) {A:Nat→Nat} {B:Nat→Nat→Nat} (hB:∀k,k≤w.length→A k≠0→n_ d i w (k:Int) (zdi w.length fun q=>sat (B k q))) (hz:∀k,B k k=0) {X:List Int→Prop}
  (hX:X (zdi w.length fun q=>sat (zeq (w.length+1) fun k=>A k*B k q))):∃k,ref12_times.l2 n_ d i w (zdi w.length fun k=>sat (A k)) X k (zdi w.length fun _=>0) 0:=by
 refine zh8 (P:=fun k (o:List Int) v=>ref12_times.l2 n_ d i w (zdi w.length fun k=>sat (A k)) X k o v) (w.length+1) (fun K o=>o=zdi w.length fun q=>sat (zeq K fun k=>A k*B k q)) ?_ ?_ _ rfl
 ·rintro K o hK rfl;have e1:at? (zdi w.length fun k=>sat (A k)) (K:Int)=some (sat (A K)):=zhg (by omega);refine .inr ⟨_,rfl,fun k hk=>⟨fun _=>⟨_,e1,fun h0=>?_,fun h0=>⟨zi (by omega) (by omega), ?_⟩⟩,fun hx=>absurd (by rw [zie];omega) (df hx)⟩⟩
  ·have h0:A K≠0:=by have:=dt h0;unfold sat at this;omega
   have es:(zdi w.length fun q=>sat (B K q)).set (K:Int).toNat 0=zdi w.length fun q=>sat (B K q):=by
    rw [Int.toNat_natCast,zg6];refine zbi fun q _=>?_
    by_cases hq:q=K
    ·subst hq;rw [if_pos rfl,hz];rfl
    ·rw [if_neg hq]
   refine ⟨_,hB K (by omega) h0,_,zhg (by omega),_,e1,_,by rw [es];exact zrs hw (fun q=>zhf _) (fun q=>zhf _) (zhf _),zi (by omega) (by omega), ?_⟩;have:(zdi w.length fun q=>min 2 (sat (zeq K fun k=>A k*B k q)+sat (A K)*sat (B K q)))=zdi w.length fun q=>sat (zeq (K+1) fun k=>A k*B k q):=zbi fun q _=>by rw [sat_more,zdc]
   rw [this];exact hk
  ·have h0:A K=0:=by have:=df h0;unfold sat at this;omega
   have:(zdi w.length fun q=>sat (zeq K fun k=>A k*B k q))=zdi w.length fun q=>sat (zeq (K+1) fun k=>A k*B k q):=zbi fun q _=>by rw [zdc,h0];simp
   rw [this];exact hk
 ·rintro o rfl k;exact ⟨fun hx=>absurd (dt hx) (by rw [zie];omega),fun _=>hX⟩
def zfx (w:List Int) (hi:Int):Nat:=if 0≤hi∧hi≤(w.length:Int)+1 then hi.toNat+1 else w.length+2
theorem times_in {n_:SDesc→Int→List Int→Int→List Int→Prop} {d:SDesc} {i:Int} {w:List Int} (hw:w.length≤1000) {p:Nat} (hp:p≤w.length) {f:List Int→Nat} (hf:f []=0) (lo hi:Int)
  (hB:∀k,p≤k→k≤w.length→n_ d i w (k:Int) (zdi w.length fun q=>sat (zkm f w k q))):
  ref12_times.b n_ d i w (p:Int) lo hi (zdi w.length fun q=>sat (zeq (zfx w hi) fun t=>if lo≤(t:Int) then zj0 f w p t q else 0)):=by
 refine ⟨_,znr hw,_,zhg hp,_,znr hw, ?_⟩;refine zh8 (P:=fun k (s:List Int × List Int) v=>ref12_times.l1 n_ d i w lo hi _ _ k s.1 s.2 v) (w.length+2) (fun T s=>(s.1=zdi w.length fun q=>sat (zj0 f w p T q))∧(s.2=zdi w.length fun q=>sat (zeq T fun t=>if lo≤(t:Int) then zj0 f w p t q else 0))∧(0≤hi→(T:Int)≤hi)) ?_ ?_ (_,_) ⟨?_,rfl,fun h=>by omega⟩
 ·rintro T ⟨now,out⟩ hT ⟨h1,h2,h3⟩;simp only at h1 h2;subst h1;subst h2;have es:∀q,zeq (T+1) (fun t=>if lo≤(t:Int) then zj0 f w p t q else 0)=zeq T (fun t=>if lo≤(t:Int) then zj0 f w p t q else 0)+if lo≤(T:Int) then zj0 f w p T q else 0:=fun q=>zdc _ _
  have hplus:lo≤(T:Int)→zb2 (zdi w.length fun q=>sat (zeq T fun t=>if lo≤(t:Int) then zj0 f w p t q else 0)) (zdi w.length fun q=>sat (zj0 f w p T q)) 1 (zdi w.length fun q=>sat (zeq (T+1) fun t=>if lo≤(t:Int) then zj0 f w p t q else 0)):=fun hl=>by
   have:=zrs hw (g:=fun q=>sat (zeq T fun t=>if lo≤(t:Int) then zj0 f w p t q else 0)) (h:=fun q=>sat (zj0 f w p T q)) (t:=1) (fun q=>zhf _) (fun q=>zhf _) (by omega);have e:(zdi w.length fun q=>min 2 (sat (zeq T fun t=>if lo≤(t:Int) then zj0 f w p t q else 0)+1*sat (zj0 f w p T q)))=zdi w.length fun q=>sat (zeq (T+1) fun t=>if lo≤(t:Int) then zj0 f w p t q else 0):=zbi fun q _=>by rw [sat_plus,es,if_pos hl]
   rw [e] at this;exact this
  have hsame:¬ lo≤(T:Int)→(zdi w.length fun q=>sat (zeq T fun t=>if lo≤(t:Int) then zj0 f w p t q else 0))=zdi w.length fun q=>sat (zeq (T+1) fun t=>if lo≤(t:Int) then zj0 f w p t q else 0):=fun hl=>zbi fun q _=>by rw [es,if_neg hl,Nat.add_zero]
  by_cases hhi:(T:Int)=hi
  ·-- the last one
   have eT:zfx w hi=T+1:=by unfold zfx;rw [if_pos (by omega)];omega
   refine .inl fun k=>⟨zi (by omega) (by omega),fun _=>⟨fun hl=>⟨_,hplus (dt hl),fun _=>?_,fun h=>absurd hhi (ne_of_beq_false h)⟩,fun hl=>⟨fun _=>?_,fun h=>absurd hhi (ne_of_beq_false h)⟩⟩,fun hx=>absurd (by omega) (df hx)⟩
   ·show zdi _ _=zdi _ _;rw [eT]
   ·show zdi _ _=zdi _ _;rw [eT,hsame (df hl)]
  ·have e2:(zdi w.length fun q=>sat (zeq (w.length+1) fun k=>zj0 f w p T k*zkm f w k q))=zdi w.length fun q=>sat (zj0 f w p (T+1) q):=zbi fun q hq=>by rw [powQ_succ hq]
   have inner:∀(out':List Int) (k:Nat),(ref12_times.l1 n_ d i w lo hi (zdi w.length fun q=>sat (zeq (zfx w hi) fun t=>if lo≤(t:Int) then zj0 f w p t q else 0)) (ref12_times.j1 (zdi w.length fun q=>sat (zeq (zfx w hi) fun t=>if lo≤(t:Int) then zj0 f w p t q else 0))) k (zdi w.length fun q=>sat (zj0 f w p (T+1) q)) out' ((T:Int)+1)) →
     ref12_times.j3 n_ (ref12_times.l1 n_ d i w lo hi (zdi w.length fun q=>sat (zeq (zfx w hi) fun t=>if lo≤(t:Int) then zj0 f w p t q else 0)) (ref12_times.j1 (zdi w.length fun q=>sat (zeq (zfx w hi) fun t=>if lo≤(t:Int) then zj0 f w p t q else 0))) k) d i w hi (zdi w.length fun q=>sat (zeq (zfx w hi) fun t=>if lo≤(t:Int) then zj0 f w p t q else 0)) (zdi w.length fun q=>sat (zj0 f w p T q)) (T:Int) out':=by
    intro out' k hk;refine ⟨fun h=>absurd (eq_of_beq h) hhi,fun _=>⟨_,znr hw, ?_⟩⟩;refine times_l2 hw (A:=fun k=>zj0 f w p T k) (B:=zkm f w) (fun k hk hA=>hB k (by
     rcases Nat.lt_or_ge k p with h | h
     ·exact absurd (if_neg (by omega)) hA
     ·exact h) hk) (fun k=>by unfold zkm;rw [if_pos (Nat.le_refl k),zg4,hf]) ?_
    rw [e2];exact ⟨zi (by omega) (by omega),hk⟩
   refine .inr ⟨(_,_),⟨rfl,rfl,fun h=>by have:=h3 h;omega⟩,fun k hk=>⟨zi (by omega) (by omega),fun _=>⟨fun hl=>⟨_,hplus (dt hl),inner _ k hk⟩,fun hl=>by rw [hsame (df hl)];exact inner _ k hk⟩,fun hx=>absurd (by omega) (df hx)⟩⟩
 ·rintro ⟨now,out⟩ ⟨h1,h2,h3⟩ k;simp only at h1 h2;subst h1;subst h2;refine ⟨zi (by omega) (by omega),fun hx=>absurd (dt hx) (by omega),fun _=>?_⟩;show zdi _ _=zdi _ _;have eT:zfx w hi=w.length+2:=by unfold zfx;rw [if_neg (by omega)]
  rw [eT]
 ·simp only;rw [Int.toNat_natCast,zg6];refine zbi fun q hq=>?_;unfold zj0 zjd
  by_cases h:q=p
  ·subst h;rw [if_pos rfl,if_pos (Nat.le_refl q),zg4];rfl
  ·rw [if_neg h]
   by_cases h1:p≤q
   ·rw [if_pos h1,if_neg]
    ·rfl
    ·rw [zeu (by omega) hq];simp
   ·rw [if_neg h1];rfl
theorem zqu:∀(u:List Int) (g:List Int→List Int→List Int→Nat),zed (fun a c=>zed (fun x y=>g x y c) a) u=zed (fun x e=>zed (fun y c=>g x y c) e) u
 | [],g=>rfl
 | c::u,g=>by
  have ih:=zqu u (fun x y e=>g (c::x) y e);have e1:(fun a b=>zed (fun x y=>g x y b) (c::a))=fun a b=>g [] (c::a) b+zed (fun x y=>g (c::x) y b) a:=by
   funext a b;rfl
  have h1:zed (fun a b=>zed (fun x y=>g x y b) (c::a)) u=zed (fun y e=>g [] (c::y) e) u+zed (fun x e=>zed (fun y b=>g (c::x) y b) e) u:=by rw [e1,znn,ih]
  have h2:zed (fun a c=>zed (fun x y=>g x y c) a) (c::u)=g [] [] (c::u)+zed (fun a b=>zed (fun x y=>g x y b) (c::a)) u:=rfl;have h3:zed (fun x e=>zed (fun y c=>g x y c) e) (c::u)=(g [] [] (c::u)+zed (fun y e=>g [] (c::y) e) u)+zed (fun x e=>zed (fun y b=>g (c::x) y b) e) u:=rfl;exact h2.trans ((congrArg _ h1).trans ((Nat.add_assoc _ _ _).symm.trans h3.symm))
theorem cutS_mul (F:List Int→List Int→Nat) (m:Nat):∀u,zed (fun a b=>F a b*m) u=zed F u*m
 | []=>rfl
 | c::u=>by
  unfold zed;rw [cutS_mul (fun a b=>F (c::a) b) m u,Nat.add_mul]
theorem cutS_lmul (F:List Int→List Int→Nat) (m:Nat):∀u,zed (fun a b=>m*F a b) u=m*zed F u
 | []=>rfl
 | c::u=>by
  unfold zed;rw [cutS_lmul (fun a b=>F (c::a) b) m u,Nat.mul_add]
theorem zo9 (F:Nat→List Int→List Int→Nat) (u:List Int):∀T,zed (fun a b=>zeq T fun t=>F t a b) u=zeq T fun t=>zed (F t) u
 | 0=>by simp only [zeq,List.range_zero,List.map_nil,List.sum_nil];exact zf0 u
 | T+1=>by
  have e:(fun a b=>zeq (T+1) fun t=>F t a b)=fun a b=>(zeq T fun t=>F t a b)+F T a b:=by funext a b;rw [zdc]
  rw [e,znn,zo9 F u T,zdc]
theorem zk5 (m:Nat) (f:Nat→Nat):∀T,m*zeq T f=zeq T fun t=>m*f t
 | 0=>by simp [zeq]
 | T+1=>by rw [zdc,zdc,Nat.mul_add,zk5 m f T]
theorem zqg (T:Nat) (f:Nat→Nat):zeq (T+1) f=f 0+zeq T fun t=>f (t+1):=by
 induction T with
 | zero=>simp [zeq]
 | succ T ih=>rw [zdc,ih,zdc];omega
theorem cut_first (F:List Int→List Int→Nat):∀u,(∀a b,a++b=u→a≠[]→F a b=0)→zed F u=F [] u
 | [],_=>rfl
 | c::u,h=>by
  unfold zed;rw [zen (G:=fun _ _=>0) fun a b e=>h (c::a) b (by simp [e]) (by simp),zf0];rfl
section
variable {f : List Int → Nat}
theorem zrr:∀(t:Nat) (u:List Int),zjd f (t+1) u=zed (fun a b=>f a*zjd f t b) u
 | 0,u=>by
  rw [zjc];have e1:zed (fun a b=>zjd f 0 a*f b) u=f u:=by
   rw [cut_first _ u fun a b _ ha=>by simp [zjd,ha]];simp [zjd]
  have e2:zed (fun a b=>f a*zjd f 0 b) u=f u:=by
   rw [zsf fun a b _ hb=>by simp [zjd,hb]];simp [zjd]
  rw [e1,e2]
 | t+1,u=>by
  rw [zjc];have e1:(fun a b=>zjd f (t+1) a*f b)=fun a c=>zed (fun x y=>f x*zjd f t y*f c) a:=by
   funext a c;rw [zrr t a,cutS_mul]
  have e2:(fun x e=>zed (fun y c=>f x*zjd f t y*f c) e)=fun x e=>f x*zjd f (t+1) e:=by
   funext x e;rw [zjc,← cutS_lmul]
   congr 1
   funext y c;rw [Nat.mul_assoc]
  rw [e1,zqu,e2]
theorem pow_none (hf:f []=0):∀(t:Nat) (u:List Int),u.length<t→zjd f t u=0
 | 0,u,h=>by omega
 | t+1,u,h=>by
  rw [zjc];rw [zen (G:=fun _ _=>0) fun a b e=>?_,zf0]
  by_cases hb:b=[]
  ·rw [hb,hf,Nat.mul_zero]
  ·have hl:a.length<t:=by
    have:=congrArg List.length e;have:=List.length_pos_iff.2 hb;simp at *;omega
   rw [pow_none hf t a hl,Nat.zero_mul]
theorem pow_more (hf:f []=0) {T T':Nat} {u:List Int} (h:u.length<T) (h':T≤T') (c:Nat→Bool):(zeq T' fun t=>if c t=true then zjd f t u else 0)=zeq T fun t=>if c t=true then zjd f t u else 0:=by
 obtain ⟨m,rfl⟩:∃m,T'=T+m:=⟨T' - T,by omega⟩;clear h'
 induction m with
 | zero=>rfl
 | succ m ih=>
  rw [← Nat.add_assoc,zdc,ih,pow_none hf (T+m) u (by omega)];simp
theorem star_pow (hf:f []=0) {g:List Int→Nat} (hg:∀u,g u=(if u=[] then 1 else 0)+zed (fun a b=>f a*g b) u):∀(m:Nat) (u:List Int),u.length≤m→∀T,u.length<T→g u=zeq T fun t=>zjd f t u
 | m,u,hm,T,hT=>by
  obtain ⟨T',rfl⟩:∃T',T=T'+1:=⟨T-1,by omega⟩;rw [hg,zqg]
  congr 1
  have e:zed (fun a b=>f a*g b) u=zed (fun a b=>zeq T' fun t=>f a*zjd f t b) u:=by
   refine zen fun a b e=>?_
   by_cases ha:a=[]
   ·rw [ha,hf,Nat.zero_mul,← zk5,Nat.zero_mul]
   ·have hl:b.length<u.length:=by
     have:=congrArg List.length e;have:=List.length_pos_iff.2 ha;simp at *;omega
    cases m with
    | zero=>omega
    | succ m=>rw [star_pow hf hg m b (by omega) T' (by omega),zk5]
  rw [e,zo9 (fun t a b=>f a*zjd f t b)];exact zej fun t _=>(zrr t u).symm
theorem rep_pow {R:Int→Int→List Int→Nat} (hR:∀lo hi u,R lo hi u=(if lo=0∧u=[] then 1 else 0)+if 0<hi then zed (fun a b=>f a*R (max (lo-1) 0) (hi-1) b) u else 0):∀(h:Nat) (lo:Int) (u:List Int),0≤lo→lo≤(h:Int)→R lo (h:Int) u=zeq (h+1) fun t=>if lo≤(t:Int) then zjd f t u else 0
 | 0,lo,u,h0,h1=>by
  have:lo=0:=by omega
  subst this;rw [hR,if_neg (show ¬ 0<((0:Nat):Int) by omega)];simp [zeq,zjd]
 | h+1,lo,u,h0,h1=>by
  rw [hR,if_pos (show 0<((h+1:Nat):Int) by omega),zqg];have e0:((h+1:Nat):Int)-1=(h:Int):=by omega
  rw [e0]
  congr 1
  ·by_cases hl:lo=0
   ·subst hl;simp [zjd]
   ·rw [if_neg (by omega),if_neg (by omega)]
  ·have e:zed (fun a b=>f a*R (max (lo-1) 0) (h:Int) b) u=zed (fun a b=>zeq (h+1) fun t=>f a*if max (lo-1) 0≤(t:Int) then zjd f t b else 0) u:=by
    refine zen fun a b _=>?_;rw [rep_pow hR h (max (lo-1) 0) b (by omega) (by omega),zk5]
   rw [e,zo9 (fun t a b=>f a*if max (lo-1) 0≤(t:Int) then zjd f t b else 0)];refine zej fun t _=>?_
   by_cases hl:lo≤((t+1:Nat):Int)
   ·rw [if_pos hl,zrr];refine zen fun a b _=>?_;rw [if_pos (by omega)]
   ·rw [if_neg hl,zen (G:=fun _ _=>0) fun a b _=>by rw [if_neg (by omega),Nat.mul_zero],zf0]
end
end Go.Proofs.YtjdaaiodniicoaaGreatDoor.V
namespace Go.Proofs.YtjdaaiodniicoaaGreatDoor.V
open Go
set_option linter.unusedVariables false
theorem zl2 {w:List Int} {p q:Nat} (h:p≤q) (hq:q≤w.length):(seg w p q).length=q-p:=by
 unfold seg;rw [List.length_drop,List.length_take];omega
theorem zl1 {w:List Int} {p q:Nat} (h:p≤q) (hq:q≤w.length):seg w p q=[]↔q=p:=by
 constructor
 ·intro e;have:=zl2 h hq;rw [e] at this;simp at this;omega
 ·rintro rfl;exact zg4 w q
theorem pm_cnt {d:List SNode} (hd:ROk d) (r:Int):(pm d r).count []=0:=by
 rw [List.count_eq_zero];intro h;obtain ⟨x,q,e,_⟩:=PM_rng hd (r.toNat+1) r (by omega) _ h;cases e
def rowN (d:List SNode) (i:Int) (w:List Int) (p:Nat):List Int:=zdi w.length fun q=>sat (zkm (zbr d i) w p q)
theorem conv_row {f g:List Int→Nat} {w:List Int} {p q:Nat} (hq:q≤w.length):(if p≤q then zed (fun a b=>f a*g b) (seg w p q) else 0)=zeq (w.length+1) fun k=>zkm f w p k*zkm g w k q:=by
 unfold zkm
 by_cases h:p≤q
 ·rw [if_pos h,cutS_seg (q-p) p q _ (by omega) hq];refine zej fun k hk=>?_
  by_cases h1:p≤k
  ·by_cases h2:k≤q
   ·rw [if_pos ⟨h1,h2⟩,if_pos h1,if_pos h2]
   ·rw [if_neg (by omega),if_neg h2];simp
  ·rw [if_neg (by omega),if_neg h1];simp
 ·rw [if_neg h];have:(fun k=>(if p≤k then f (seg w p k) else 0)*if k≤q then g (seg w k q) else 0)=fun _=>0:=by
   funext k
   by_cases h1:p≤k
   ·rw [if_neg (show ¬ k≤q by omega)];simp
   ·rw [if_neg h1];simp
  rw [this,zi7]
section
variable {d : List SNode} (hd : ROk d) {i : Int} {n : SNode} (hn : at? d i = some n) {w : List Int} {p : Nat}
include hd hn
theorem row_empty (h:n.1=1):rowN d i w p=(zdi w.length fun _=>0).set p 1:=by
 rw [zg6];refine zbi fun q hq=>?_;unfold zkm
 by_cases h1:p≤q
 ·rw [if_pos h1,zl7 hd hn h]
  by_cases h2:q=p
  ·rw [if_pos ((zl1 h1 hq).2 h2),if_pos h2];rfl
  ·rw [if_neg (fun e=>h2 ((zl1 h1 hq).1 e)),if_neg h2];rfl
 ·rw [if_neg h1,if_neg (by omega)];rfl
theorem row_bytes (h:n.1=2):rowN d i w p=if hlt:p<w.length then (if n.2.2.2.2.2.1.has (w[p]).toNat=true then (zdi w.length fun _=>0).set (p+1) 1 else zdi w.length fun _=>0) else zdi w.length fun _=>0:=by
 have key:∀q,q≤w.length→zkm (zbr d i) w p q=if hlt:p<w.length then (if n.2.2.2.2.2.1.has (w[p]).toNat=true∧q=p+1 then 1 else 0) else 0:=by
  intro q hq;unfold zkm
  by_cases h1:p≤q
  ·rw [if_pos h1,node_bytes hd hn h]
   by_cases h2:q=p
   ·subst h2;rw [zg4];simp only;split
    ·rw [if_neg (by omega)]
    ·rfl
   ·have hlt:p<w.length:=by omega
    rw [dif_pos hlt,zeu (by omega) hq];simp only
    by_cases h3:q=p+1
    ·have:seg w (p+1) q=[]:=(zl1 (by omega) hq).2 h3;rw [this];simp [h3]
    ·have:¬ seg w (p+1) q=[]:=fun e=>h3 ((zl1 (by omega) hq).1 e);simp [this,h3]
  ·rw [if_neg h1];split
   ·rw [if_neg (by omega)]
   ·rfl
 by_cases hlt:p<w.length
 ·rw [dif_pos hlt]
  by_cases hh:n.2.2.2.2.2.1.has (w[p]).toNat=true
  ·rw [if_pos hh,zg6];refine zbi fun q hq=>?_;rw [key q hq,dif_pos hlt]
   by_cases h3:q=p+1
   ·rw [if_pos ⟨hh,h3⟩,if_pos h3];rfl
   ·rw [if_neg (by omega),if_neg h3];rfl
  ·rw [if_neg hh];refine zbi fun q hq=>?_;rw [key q hq,dif_pos hlt,if_neg (fun e=>hh e.1)];rfl
 ·rw [dif_neg hlt];refine zbi fun q hq=>?_;rw [key q hq,dif_neg hlt];rfl
theorem row_seq (h:n.1=4):rowN d i w p=zdi w.length fun q=>sat (zeq (w.length+1) fun k=>zkm (zbr d n.2.1) w p k*zkm (zbr d n.2.2.1) w k q):=by
 refine zbi fun q hq=>?_;rw [← conv_row hq];unfold zkm
 by_cases h1:p≤q
 ·rw [if_pos h1,if_pos h1,zrv hd hn h]
 ·rw [if_neg h1,if_neg h1]
theorem row_or (h:n.1=5):rowN d i w p=zdi w.length fun q=>min 2 (sat (zkm (zbr d n.2.1) w p q)+1*sat (zkm (zbr d n.2.2.1) w p q)):=by
 refine zbi fun q hq=>?_;rw [sat_plus];unfold zkm
 by_cases h1:p≤q
 ·rw [if_pos h1,if_pos h1,if_pos h1,node_or hd hn h]
 ·rw [if_neg h1,if_neg h1,if_neg h1]
theorem zje (h:n.1=6∨n.1=7):zbr d n.2.1 []=0:=by
 have:=zks hd hn h;unfold zbr;simp only [wyn];rw [zms,this];simp only [List.replicate_zero,List.flatten_nil,List.append_nil];exact pm_cnt hd n.2.1
theorem row_star (h:n.1=6):rowN d i w p=zdi w.length fun q=>sat (zeq (zfx w (-1)) fun t=>if (0:Int)≤(t:Int) then zj0 (zbr d n.2.1) w p t q else 0):=by
 refine zbi fun q hq=>?_;have eT:zfx w (-1)=w.length+2:=by unfold zfx;rw [if_neg (by omega)]
 rw [eT];unfold zkm zj0
 by_cases h1:p≤q
 ·rw [if_pos h1,star_pow (zje hd hn (.inl h)) (fun u=>node_star hd hn h u) _ (seg w p q) (Nat.le_refl _) (w.length+2) (by rw [zl2 h1 hq];omega)];refine congrArg sat (zej fun t _=>?_);rw [if_pos (by omega),if_pos h1]
 ·rw [if_neg h1];have:(fun t:Nat=>if (0:Int)≤(t:Int) then (if p≤q then zjd (zbr d n.2.1) t (seg w p q) else 0) else 0)=fun _=>0:=by
   funext t;rw [if_neg h1];simp
  rw [this,zi7]
theorem row_rep (h:n.1=7):rowN d i w p=zdi w.length fun q=>sat (zeq (zfx w n.2.2.2.2.1) fun t=>if n.2.2.2.1≤(t:Int) then zj0 (zbr d n.2.1) w p t q else 0):=by
 obtain ⟨r0,r1,r2⟩:=hd.rep _ n hn h;obtain ⟨hi,hhi⟩:∃hi:Nat,n.2.2.2.2.1=(hi:Int):=⟨n.2.2.2.2.1.toNat,by omega⟩;refine zbi fun q hq=>?_;unfold zkm zj0
 by_cases h1:p≤q
 ·rw [if_pos h1,node_rep hd hn h,hhi,rep_pow (R:=fun lo hi u=>wyn d u [(2,i,lo,hi)]) (f:=zbr d n.2.1) (fun lo hi u=>item_rep hd hn h lo hi u) hi n.2.2.2.1 (seg w p q) r0 (by omega)];have e1:(zeq (zfx w (hi:Int)) fun t=>if n.2.2.2.1≤(t:Int) then (if p≤q then zjd (zbr d n.2.1) t (seg w p q) else 0) else 0)=zeq (zfx w (hi:Int)) fun t=>if decide (n.2.2.2.1≤(t:Int))=true then zjd (zbr d n.2.1) t (seg w p q) else 0:=zej fun t _=>by
   rw [if_pos h1];simp
  have e2:(zeq (hi+1) fun t=>if n.2.2.2.1≤(t:Int) then zjd (zbr d n.2.1) t (seg w p q) else 0)=zeq (hi+1) fun t=>if decide (n.2.2.2.1≤(t:Int))=true then zjd (zbr d n.2.1) t (seg w p q) else 0:=zej fun t _=>by simp
  rw [e1,e2];unfold zfx
  by_cases h2:(hi:Int)≤(w.length:Int)+1
  ·rw [if_pos (by omega)]
   congr 2
  ·rw [if_neg (by omega),pow_more (zje hd hn (.inr h)) (T:=w.length+2) (T':=hi+1) (by rw [zl2 h1 hq];omega) (by omega)]
 ·rw [if_neg h1];have:(fun t:Nat=>if n.2.2.2.1≤(t:Int) then (if p≤q then zjd (zbr d n.2.1) t (seg w p q) else 0) else 0)=fun _=>0:=by
   funext t;rw [if_neg h1];simp
  rw [this,zi7]
theorem row_text (h:n.1=3):rowN d i w p=if p+n.2.2.2.2.2.2.length≤w.length∧seg w p (p+n.2.2.2.2.2.2.length)=(n.2.2.2.2.2.2.map fun b=>(b.toNat:Int)) then (zdi w.length fun _=>0).set (p+n.2.2.2.2.2.2.length) 1 else zdi w.length fun _=>0:=by
 have key:∀q,q≤w.length→zkm (zbr d i) w p q=if (p+n.2.2.2.2.2.2.length≤w.length∧seg w p (p+n.2.2.2.2.2.2.length)=(n.2.2.2.2.2.2.map fun b=>(b.toNat:Int)))∧q=p+n.2.2.2.2.2.2.length then 1 else 0:=by
  intro q hq;unfold zkm
  by_cases h1:p≤q
  ·rw [if_pos h1,node_text hd hn h]
   by_cases h2:q=p+n.2.2.2.2.2.2.length
   ·subst h2
    by_cases h3:seg w p (p+n.2.2.2.2.2.2.length)=(n.2.2.2.2.2.2.map fun b=>(b.toNat:Int))
    ·rw [if_pos h3,if_pos ⟨⟨hq,h3⟩,rfl⟩]
    ·rw [if_neg h3,if_neg fun e=>h3 e.1.2]
   ·rw [if_neg,if_neg fun e=>h2 e.2];intro e;have:=congrArg List.length e;rw [zl2 h1 hq,List.length_map] at this;omega
  ·rw [if_neg h1,if_neg (by omega)]
 by_cases hc:p+n.2.2.2.2.2.2.length≤w.length∧seg w p (p+n.2.2.2.2.2.2.length)=(n.2.2.2.2.2.2.map fun b=>(b.toNat:Int))
 ·rw [if_pos hc,zg6];refine zbi fun q hq=>?_;rw [key q hq]
  by_cases h3:q=p+n.2.2.2.2.2.2.length
  ·rw [if_pos ⟨hc,h3⟩,if_pos h3];rfl
  ·rw [if_neg fun e=>h3 e.2,if_neg h3];rfl
 ·rw [if_neg hc];refine zbi fun q hq=>?_;rw [key q hq,if_neg fun e=>hc e.1];rfl
theorem row_frame (h:n.1=8) (hw:∀c∈w,0≤c):rowN d i w p=if hlt:p<w.length then (if p+1+(w[p]).toNat≤w.length then (zdi w.length fun _=>0).set (p+1+(w[p]).toNat) (sat (zbr d n.2.1 (seg w (p+1) (p+1+(w[p]).toNat)))) else zdi w.length fun _=>0) else zdi w.length fun _=>0:=by
 have hs:∀a b,∀c∈seg w a b,0≤c:=fun a b c hc=>hw c (List.mem_of_mem_take (List.mem_of_mem_drop hc));have key:∀q,q≤w.length→zkm (zbr d i) w p q=if hlt:p<w.length then (if q=p+1+(w[p]).toNat then zbr d n.2.1 (seg w (p+1) q) else 0) else 0:=by
  intro q hq;unfold zkm
  by_cases h1:p≤q
  ·rw [if_pos h1]
   by_cases h2:q=p
   ·subst h2;have f0:zbr d i []=0:=zqq hd hn h [] (by simp);rw [zg4,f0];split
    ·rw [if_neg (by omega)]
    ·rfl
   ·have hlt:p<w.length:=by omega
    have h0:=hw _ (List.getElem_mem hlt);have hsq:=hs p q;rw [zeu (by omega) hq] at hsq;have f1:zbr d i (w[p]::seg w (p+1) q)=if ((seg w (p+1) q).length:Int)=w[p] then zbr d n.2.1 (seg w (p+1) q) else 0:=zqq hd hn h _ hsq
    rw [dif_pos hlt,zeu (by omega) hq,f1];rw [zl2 (by omega) hq]
    by_cases h3:q=p+1+(w[p]).toNat
    ·rw [if_pos h3,if_pos (by omega)]
    ·rw [if_neg h3,if_neg (by omega)]
  ·rw [if_neg h1];split
   ·rw [if_neg (by omega)]
   ·rfl
 by_cases hlt:p<w.length
 ·rw [dif_pos hlt]
  by_cases hh:p+1+(w[p]).toNat≤w.length
  ·rw [if_pos hh,zg6];refine zbi fun q hq=>?_;rw [key q hq,dif_pos hlt]
   by_cases h3:q=p+1+(w[p]).toNat
   ·rw [if_pos h3,if_pos h3,h3]
   ·rw [if_neg h3,if_neg h3];rfl
  ·rw [if_neg hh];refine zbi fun q hq=>?_;rw [key q hq,dif_pos hlt,if_neg (by omega)];rfl
 ·rw [dif_neg hlt];refine zbi fun q hq=>?_;rw [key q hq,dif_neg hlt];rfl
theorem row_wide (h:n.1=9) (hw:∀c∈w,0≤c):rowN d i w p=if hlt:p+1<w.length then (if p+2+(256*(w[p])+w[p+1]).toNat≤w.length then (zdi w.length fun _=>0).set (p+2+(256*(w[p])+w[p+1]).toNat) (sat (zbr d n.2.1 (seg w (p+2) (p+2+(256*(w[p])+w[p+1]).toNat)))) else zdi w.length fun _=>0) else zdi w.length fun _=>0:=by
 have hs:∀a b,∀c∈seg w a b,0≤c:=fun a b c hc=>hw c (List.mem_of_mem_take (List.mem_of_mem_drop hc));have key:∀q,q≤w.length→zkm (zbr d i) w p q=if hlt:p+1<w.length then (if q=p+2+(256*(w[p])+w[p+1]).toNat then zbr d n.2.1 (seg w (p+2) q) else 0) else 0:=by
  intro q hq;unfold zkm
  by_cases h1:p≤q
  ·rw [if_pos h1]
   by_cases h2:q=p
   ·subst h2;have f0:zbr d i []=0:=zoo hd hn h [] (by simp);rw [zg4,f0];split
    ·rw [if_neg (by omega)]
    ·rfl
   ·have hsq:=hs p q
    by_cases h4:q=p+1
    ·rw [zeu (by omega) hq,(zl1 (by omega) hq).2 h4] at hsq;have f1:zbr d i [w[p]'(by omega)]=0:=zoo hd hn h _ hsq;rw [zeu (by omega) hq,(zl1 (by omega) hq).2 h4,f1];split
     ·rw [if_neg (by omega)]
     ·rfl
    ·have hlt:p+1<w.length:=by omega
     have h0:=hw _ (List.getElem_mem (show p<w.length by omega));have h5:=hw _ (List.getElem_mem hlt);rw [zeu (by omega) hq,zeu (by omega) hq] at hsq;have f1:zbr d i (w[p]::w[p+1]::seg w (p+1+1) q)=if ((seg w (p+1+1) q).length:Int)=256*w[p]+w[p+1] then zbr d n.2.1 (seg w (p+1+1) q) else 0:=zoo hd hn h _ hsq
     rw [dif_pos hlt,zeu (by omega) hq,zeu (by omega) hq,f1];rw [zl2 (by omega) hq]
     by_cases h3:q=p+2+(256*(w[p])+w[p+1]).toNat
     ·rw [if_pos h3,if_pos (by omega)]
     ·rw [if_neg h3,if_neg (by omega)]
  ·rw [if_neg h1];split
   ·rw [if_neg (by omega)]
   ·rfl
 by_cases hlt:p+1<w.length
 ·rw [dif_pos hlt]
  by_cases hh:p+2+(256*(w[p])+w[p+1]).toNat≤w.length
  ·rw [if_pos hh,zg6];refine zbi fun q hq=>?_;rw [key q hq,dif_pos hlt]
   by_cases h3:q=p+2+(256*(w[p])+w[p+1]).toNat
   ·rw [if_pos h3,if_pos h3,h3]
   ·rw [if_neg h3,if_neg h3];rfl
  ·rw [if_neg hh];refine zbi fun q hq=>?_;rw [key q hq,dif_pos hlt,if_neg (by omega)];rfl
 ·rw [dif_neg hlt];refine zbi fun q hq=>?_;rw [key q hq,dif_neg hlt];rfl
end
end Go.Proofs.YtjdaaiodniicoaaGreatDoor.V
namespace Go.Proofs.YtjdaaiodniicoaaGreatDoor.V
open Go
set_option linter.unusedVariables false
theorem strB_back (s:Str):strB (s.map fun b=>(b.toNat:Int))=s:=by
 unfold strB;rw [List.map_map];have:∀b∈s,((fun n:Int=>UInt8.ofNat n.toNat) ∘ fun b:UInt8=>(b.toNat:Int)) b=id b:=fun b _=>by simp
 rw [List.map_congr_left this,List.map_id]
theorem strB_iff {l:List Int} (hl:∀c∈l,InR .u8 c) {s:Str}:strB l=s↔l=s.map fun b=>(b.toNat:Int):=by
 constructor
 ·rintro rfl;unfold strB;rw [List.map_map];have:∀c∈l,((fun b:UInt8=>(b.toNat:Int)) ∘ fun n:Int=>UInt8.ofNat n.toNat) c=id c:=fun c hc=>by
   have:=zfm.1 (hl c hc);simp only [Function.comp,id,UInt8.toNat_ofNat'];omega
  rw [List.map_congr_left this,List.map_id]
 ·rintro rfl;exact strB_back s
theorem ends_in {d:List SNode} (hd:ROk d) (ht:∀n∈d,n.2.2.2.2.2.2.length≤140737488351232):∀(k:Nat) (i:Int) (n:SNode),i<(k:Int)→at? d i=some n→∀(w:List Int),w.length≤1000→(∀c∈w,InR .u8 c)→∀p:Nat,p≤w.length→zce.n k d i w (p:Int) (rowN d i w p)
 | 0,i,n,hi,hn,w,hw,hu,p,hp=>by have:=zbq hn;omega
 | k+1,i,n,hi,hn,w,hw,hu,p,hp=>by
  have ih:=ends_in hd ht k;have hw0:∀c∈w,0≤c:=fun c hc=>(zfm.1 (hu c hc)).1;have hk9:=hd.kind _ n hn;have z:∀q:Nat,q≤w.length→at? (zdi w.length fun _=>(0:Int)) (q:Int)=some 0:=fun q hq=>zhg hq;have hm:n∈d:=by
   obtain ⟨j,_,hj⟩:=zm5 hn;exact List.mem_of_getElem? hj
  have no:∀{a:Int},n.1≠a→¬ (n.1==a)=true:=fun h e=>h (eq_of_beq e);refine ⟨n,hn,_,znr hw,fun h=>⟨0,z p hp, ?_⟩,fun k1=>⟨fun h=>?_,fun k2=>⟨fun h=>?_,fun k3=>⟨fun h=>?_,fun k4=>⟨fun h=>?_,fun k5=>⟨fun h=>?_,fun k6=>⟨fun h=>?_,fun k7=>⟨fun h=>?_,fun k8=>⟨fun h=>?_,fun k9=>?_⟩⟩⟩⟩⟩⟩⟩⟩⟩
  ·rw [row_empty hd hn (eq_of_beq h),Int.toNat_natCast]
  ·-- a byte of a class
   rw [row_bytes hd hn (eq_of_beq h)]
   by_cases hlt:p<w.length
   ·rw [dif_pos hlt];have hat:at? w (p:Int)=some w[p]:=by rw [zbm];simp [hlt]
    refine ⟨w[p],fun _=>hat,_,fun _=>zmo (hu _ (List.getElem_mem hlt)),fun hb=>?_,fun hb=>?_⟩
    ·simp only [Bool.and_eq_true,decide_eq_true_eq] at hb;have e:(p:Int)+1=((p+1:Nat):Int):=by omega
     rw [if_pos hb.2,e];exact ⟨zi (by omega) (by omega),0,z _ (by omega),by rw [Int.toNat_natCast]⟩
    ·have hh:¬ n.2.2.2.2.2.1.has (w[p]).toNat=true:=by
      intro e;rw [e] at hb;simp at hb;omega
     rw [if_neg hh]
   ·rw [dif_neg hlt];exact ⟨0,fun hx=>absurd (dt hx) (by omega),false,fun hx=>absurd (dt hx) (by omega),fun hb=>by simp at hb,fun _=>rfl⟩
  ·-- a text
   rw [row_text hd hn (eq_of_beq h)];have htl:=ht n hm;have e:(p:Int)+(n.2.2.2.2.2.2.length:Int)=((p+n.2.2.2.2.2.2.length:Nat):Int):=by omega
   have hsu:∀c∈seg w p (p+n.2.2.2.2.2.2.length),InR .u8 c:=fun c hc=>hu c (List.mem_of_mem_take (List.mem_of_mem_drop hc));rw [e];refine ⟨zi (by omega) (by omega),_,rfl,fun hb=>zi (by omega) (by omega),fun hb=>?_,_,rfl,fun hb=>?_,fun hb=>?_⟩
   ·have:=dt hb;omega
   ·simp only [Bool.and_eq_true,decide_eq_true_eq,beq_iff_eq] at hb;obtain ⟨b1,b2⟩:=hb;have b2':seg w p (p+n.2.2.2.2.2.2.length)=_:=(strB_iff hsu).1 b2;rw [if_pos ⟨by omega,b2'⟩];exact ⟨zi (by omega) (by omega),0,z _ (by omega),by rw [Int.toNat_natCast]⟩
   ·rw [if_neg];rintro ⟨b1,b2⟩;have b2':strB ((w.take ((p+n.2.2.2.2.2.2.length:Nat):Int).toNat).drop ((p:Nat):Int).toNat)=n.2.2.2.2.2.2:=(strB_iff hsu).2 b2;rw [b2'] at hb;simp at hb;omega
  ·-- one behind the other
   have h4:=eq_of_beq h;obtain ⟨⟨a,b⟩,c,e⟩:=hd.two _ n hn (.inl h4);obtain ⟨m1,hm1⟩:=zdg hn a b;obtain ⟨m2,hm2⟩:=zdg hn c e;refine ⟨_,ih _ m1 (by omega) hm1 w hw hu p hp,_,through_in hw (A:=fun k=>zkm (zbr d n.2.1) w p k) (B:=zkm (zbr d n.2.2.1) w) (fun q hq _=>ih _ m2 (by omega) hm2 w hw hu q hq), ?_⟩;rw [row_seq hd hn h4]
  ·have h5:=eq_of_beq h;obtain ⟨⟨a,b⟩,c,e⟩:=hd.two _ n hn (.inr h5);obtain ⟨m1,hm1⟩:=zdg hn a b;obtain ⟨m2,hm2⟩:=zdg hn c e;refine ⟨_,ih _ m1 (by omega) hm1 w hw hu p hp,_,ih _ m2 (by omega) hm2 w hw hu p hp,_,zrs hw (fun q=>zhf _) (fun q=>zhf _) (by omega), ?_⟩;rw [row_or hd hn h5]
  ·have h6:=eq_of_beq h;obtain ⟨a,b⟩:=hd.one _ n hn (.inl h6);obtain ⟨m1,hm1⟩:=zdg hn a b;refine ⟨_,times_in hw hp (zje hd hn (.inl h6)) 0 (-1) (fun q _ hq=>ih _ m1 (by omega) hm1 w hw hu q hq), ?_⟩;rw [row_star hd hn h6]
  ·have h7:=eq_of_beq h;obtain ⟨a,b⟩:=hd.one _ n hn (.inr (.inl h7));obtain ⟨m1,hm1⟩:=zdg hn a b;refine ⟨_,times_in hw hp (zje hd hn (.inr h7)) _ _ (fun q _ hq=>ih _ m1 (by omega) hm1 w hw hu q hq), ?_⟩;rw [row_rep hd hn h7]
  ·-- a frame
   have h8:=eq_of_beq h;obtain ⟨a,b⟩:=hd.one _ n hn (.inr (.inr (.inl h8)));obtain ⟨m1,hm1⟩:=zdg hn a b;rw [row_frame hd hn h8 hw0];refine ⟨fun hx=>?_,fun hx=>by rw [dif_neg (by have:=df hx;omega)]⟩;have hlt:p<w.length:=by have:=dt hx;omega
   have hat:at? w (p:Int)=some w[p]:=by rw [zbm];simp [hlt]
   have hb:=zfm.1 (hu _ (List.getElem_mem hlt));have e:(p:Int)+1+w[p]=((p+1+(w[p]).toNat:Nat):Int):=by omega
   rw [dif_pos hlt];refine ⟨zi (by omega) (by omega),w[p],hat,zi (by omega) (by omega),fun hy=>?_,fun hy=>by rw [if_neg (by have:=df hy;omega)]⟩;have hle:p+1+(w[p]).toNat≤w.length:=by have:=dt hy;omega
   rw [if_pos hle,e,Int.toNat_natCast];have hwt:(w.take (p+1+(w[p]).toNat)).length=p+1+(w[p]).toNat:=by rw [List.length_take];omega
   have e1:(p:Int)+1=((p+1:Nat):Int):=by omega
   refine ⟨⟨by omega,by omega⟩,zi (by omega) (by omega),_,by rw [e1];exact ih _ m1 (by omega) hm1 (w.take (p+1+(w[p]).toNat)) (by omega) (fun c hc=>hu c (List.mem_of_mem_take hc)) (p+1) (by omega),_,by unfold rowN;exact zhg (by omega),0,z _ hle, ?_⟩;have es:seg (w.take (p+1+(w[p]).toNat)) (p+1) (p+1+(w[p]).toNat)=seg w (p+1) (p+1+(w[p]).toNat):=by unfold seg;rw [List.take_take,Nat.min_self]
   unfold zkm;rw [if_pos (by omega),es]
  ·have h9:=eq_of_beq h;obtain ⟨a,b⟩:=hd.one _ n hn (.inr (.inr (.inr h9)));obtain ⟨m1,hm1⟩:=zdg hn a b;rw [row_wide hd hn h9 hw0];refine ⟨zi (by omega) (by omega),fun hx=>?_,fun hx=>by rw [dif_neg (by have:=df hx;omega)]⟩;have hlt:p+1<w.length:=by have:=dt hx;omega
   have hat:at? w (p:Int)=some w[p]:=by rw [zbm];simp [show p<w.length by omega]
   have e1:(p:Int)+1=((p+1:Nat):Int):=by omega
   have hat1:at? w ((p:Int)+1)=some w[p+1]:=by rw [e1,zbm];simp [hlt]
   have hb:=zfm.1 (hu _ (List.getElem_mem (show p<w.length by omega)));have hb1:=zfm.1 (hu _ (List.getElem_mem hlt));have e:(p:Int)+2+256*w[p]+w[p+1]=((p+2+(256*w[p]+w[p+1]).toNat:Nat):Int):=by omega
   rw [dif_pos hlt];refine ⟨zi (by omega) (by omega),w[p],hat,zi (by omega) (by omega),zi (by omega) (by omega),zi (by omega) (by omega),w[p+1],hat1,zi (by omega) (by omega),_,rfl,fun hy=>?_,fun hy=>by rw [if_neg (by have:=df hy;omega)]⟩;have hle:p+2+(256*w[p]+w[p+1]).toNat≤w.length:=by have:=dt hy;omega
   rw [if_pos hle,e,Int.toNat_natCast];have hwt:(w.take (p+2+(256*w[p]+w[p+1]).toNat)).length=p+2+(256*w[p]+w[p+1]).toNat:=by rw [List.length_take];omega
   have e2:(p:Int)+2=((p+2:Nat):Int):=by omega
   refine ⟨⟨by omega,by omega⟩,zi (by omega) (by omega),_,by rw [e2];exact ih _ m1 (by omega) hm1 (w.take (p+2+(256*w[p]+w[p+1]).toNat)) (by omega) (fun c hc=>hu c (List.mem_of_mem_take hc)) (p+2) (by omega),_,by unfold rowN;exact zhg (by omega),0,z _ hle, ?_⟩;have es:seg (w.take (p+2+(256*w[p]+w[p+1]).toNat)) (p+2) (p+2+(256*w[p]+w[p+1]).toNat)=seg w (p+2) (p+2+(256*w[p]+w[p+1]).toNat):=by unfold seg;rw [List.take_take,Nat.min_self]
   unfold zkm;rw [if_pos (by omega),es]
  ·exfalso;have j1:=ne_of_beq_false k1;have j2:=ne_of_beq_false k2;have j3:=ne_of_beq_false k3;have j4:=ne_of_beq_false k4;have j5:=ne_of_beq_false k5;have j6:=ne_of_beq_false k6;have j7:=ne_of_beq_false k7;have j8:=ne_of_beq_false k8;have j9:=ne_of_beq_false k9;omega
theorem zk9 {d:List SNode} (h:Rt d) (hl:d.length≤1000) (ht:∀n∈d,n.2.2.2.2.2.2.length≤140737488351232) {w:List Int} (hw:w.length≤1000) (hu:∀c∈w,InR .u8 c):zhw d w (sat (zbr d ((d.length:Int)-1) w)):=by
 have hr:=h.tr.le;obtain ⟨m,hm,_⟩:=zm6 (xs:=d) (i:=(d.length:Int)-1) hr.2 (by omega);refine ⟨zi (by omega) (by omega),_,⟨d.length,ends_in h.toROk ht d.length _ m (by omega) hm w hw hu 0 (by omega)⟩,_,by unfold rowN;exact zhg (Nat.le_refl _), ?_⟩;have es:seg w 0 w.length=w:=by unfold seg;simp
 unfold zkm;rw [if_pos (by omega),es]
theorem heads_few {d:List SNode} {s:List SItem} (h:Sm d s) {B:List SBranch} (hB:Can (fun t=>(hds d s).count t) B):B.length≤10001:=by
 have h0:=zsj hB (U:=CS d s) fun t ht=>hds_CS d s t (List.count_pos_iff.1 (by omega));have h1:=CS_few h.rt s;have h3:=h.slen;have h4:s.length*(d.length+1)≤400*25:=Nat.mul_le_mul h3 (by have:=h.len;omega);omega
theorem heads_ok {d:List SNode} {s:List SItem} (h:Sm d s) {t:List SItem} (ht:(hds d s).count t≠0):t.length≤424∧rdy d t=true∧zd6 d t=true:=by
 obtain ⟨L,⟨k,hk⟩,hp⟩:=zqt h.rt.toROk s h.form;have hm:t∈L:=hp.mem_iff.2 (List.count_pos_iff.1 (by omega));obtain ⟨h1,h2⟩:=lv_vs h.rt.toROk (n0:=400) k s L hk (Vs.start h.form h.slen) t hm;have:=h1.len;have:=h.len;exact ⟨by omega,h2,h1.form⟩
def fB (d:List SNode) (c:Int) (B:List SBranch) (u:List SItem):Nat:=(B.map fun b=>if (zba d b.1 c).2=true∧(zba d b.1 c).1=u then b.2.toNat else 0).sum
theorem fB_snoc (d:List SNode) (c:Int) (B:List SBranch) (b:SBranch) (u:List SItem):fB d c (B++[b]) u=fB d c B u+if (zba d b.1 c).2=true∧(zba d b.1 c).1=u then b.2.toNat else 0:=by
 simp [fB]
theorem fB_pos {d:List SNode} {c:Int} {B:List SBranch} {u:List SItem} (h:fB d c B u≠0):∃b∈B,(zba d b.1 c).2=true∧(zba d b.1 c).1=u:=by
 induction B with
 | nil=>simp [fB] at h
 | cons b B ih=>
  by_cases hb:(zba d b.1 c).2=true∧(zba d b.1 c).1=u
  ·exact ⟨b,by simp,hb⟩
  ·have e:fB d c (b::B) u=fB d c B u:=by
    unfold fB;rw [List.map_cons,List.sum_cons,if_neg hb,Nat.zero_add]
   rw [e] at h;obtain ⟨b',h1,h2⟩:=ih h;exact ⟨b',by simp [h1],h2⟩
structure HOk (d:List SNode) (B:List SBranch):Prop where
 few:B.length≤10001
 ok:∀b∈B,b.1.length≤424∧rdy d b.1=true∧zd6 d b.1=true
 many:∀b∈B,1≤b.2∧b.2≤2
theorem Sm.hok {d:List SNode} {s:List SItem} (h:Sm d s) {B:List SBranch} (hB:Can (fun t=>(hds d s).count t) B):HOk d B:=
 ⟨heads_few h hB,fun b hb=>heads_ok h (hB.many hb).2.1,fun b hb=>(hB.many hb).2.2⟩
theorem fB_read {d:List SNode} {c:Int} {B:List SBranch} (h:HOk d B) {u:List SItem} (hu:fB d c B u≠0):u.length≤425:=by
 obtain ⟨b,hb,_,rfl⟩:=fB_pos hu;have:=zla d b.1 c;have:=(h.ok b hb).1;omega
theorem onB_len {d:List SNode} {c:Int} {B:List SBranch} {R:List SBranch} (hR:Can (fB d c B) R):R.length≤B.length:=by
 have:=zsj hR (U:=B.map fun b=>(zba d b.1 c).1) fun u hu=>by
  obtain ⟨b,hb,_,e⟩:=fB_pos hu;exact List.mem_map.2 ⟨b,hb,e⟩
 simpa using this
theorem HOk.take {d:List SNode} {B:List SBranch} (h:HOk d B) (i:Nat):HOk d (B.take i):=
 ⟨by have:=h.few;rw [List.length_take];omega,fun b hb=>h.ok b (List.mem_of_mem_take hb),fun b hb=>h.many b (List.mem_of_mem_take hb)⟩
section
variable {d : List SNode} (hd : ROk d) (hl : d.length ≤ 1000) (ht : ∀ n ∈ d,n.2.2.2.2.2.2.length ≤ 140737488351232) {c : Int} (hc : InR .u8 c) {B : List SBranch} (hB : HOk d B)
include hd hl ht hc hB
theorem ref15_On_l:∃R,(∃k,zev.l1 d c B (zev.j1 R) k [] 0)∧Can (fB d c B) R:=by
 have key:∀(m i:Nat) (out:List SBranch),i+m=B.length→Can (fB d c (B.take i)) out→∃(R:List SBranch) (k:Nat),zev.l1 d c B (zev.j1 R) k out (i:Int)∧Can (fB d c B) R:=by
  intro m
  induction m with
  | zero=>
   intro i out hi ho;rw [List.take_of_length_le (by omega)] at ho;exact ⟨out,1,⟨fun h=>absurd (dt h) (by omega),fun _=>rfl⟩,ho⟩
  | succ m ih=>
   intro i out hi ho;have hil:i<B.length:=by omega
   have hat:at? B (i:Int)=some B[i]:=by rw [zbm];simp [hil]
   have hbm:=List.getElem_mem hil;obtain ⟨b1,b2,b3⟩:=hB.ok _ hbm;obtain ⟨m1,m2⟩:=hB.many _ hbm;have hrd:=zri hd hl ht (by omega) b3 b2 hc;have e:=fB_snoc d c (B.take i) B[i];rw [← List.take_succ_eq_append_getElem hil] at e;have hfew:=hB.few;cases hr:(zba d B[i].1 c).2
   ·obtain ⟨R,k,hk1,hk2⟩:=ih (i+1) out (by omega) (ho.congr fun t=>by rw [e,hr];simp);exact ⟨R,k+1,⟨fun _=>⟨_,hat,_,hrd,(fun h=>by rw [hr] at h;cases h),fun _=>⟨zi (by omega) (by omega),hk1⟩⟩,fun h=>absurd (by omega) (df h)⟩,hk2⟩
   ·have hn:(B[i].2.toNat:Nat)≠0:=by omega
    have hsat:sat B[i].2.toNat=B[i].2:=by unfold sat;omega
    have hadd:=ho.add (zba d B[i].1 c).1 hn;rw [hsat] at hadd;have hol:=onB_len ho;have hbo:BrOk out:=ho.brok fun t ht=>by have:=fB_read (hB.take i) ht;omega
    have hrl:=zla d B[i].1 c;obtain ⟨R,k,hk1,hk2⟩:=ih (i+1) (zmy (zba d B[i].1 c).1 B[i].2 out) (by omega) (hadd.congr fun t=>by
     rw [e,hr];simp only [true_and,eq_comm])
    exact ⟨R,k+1,⟨fun _=>⟨_,hat,_,hrd,fun _=>⟨_,hat,_,zmn ho.srt hbo (by rw [List.length_take] at hol;omega) (by omega) ⟨by omega,by omega⟩,zi (by omega) (by omega),hk1⟩,(fun h=>by rw [hr] at h;cases h)⟩,fun h=>absurd (by omega) (df h)⟩,hk2⟩
 obtain ⟨R,k,h1,h2⟩:=key B.length 0 [] (by omega) (Can.nil.congr fun t=>by simp [fB]);exact ⟨R,⟨k,h1⟩,h2⟩
structure MapN (f:List SItem→Nat) (m:List (Str × Int)):Prop where
 kn:KN m
 mem:∀k v,(k,v)∈m↔∃u,k=keyS u∧f u≠0∧v=sat (f u)
omit hd hl ht hc hB in
theorem MapN.get {f:List SItem→Nat} {m} (h:MapN f m) (u:List SItem):zd4 m (keyS u) (0:Int)=sat (f u):=by
 by_cases hu:f u=0
 ·rw [zhz fun p hp e=>?_]
  ·rw [hu];rfl
  ·obtain ⟨k,v⟩:=p
   obtain ⟨w,h1,h2,_⟩:=(h.mem k v).1 hp
   simp only at e
   rw [e] at h1
   rw [zgf.1 h1] at hu
   exact h2 hu
 ·have hm:=(h.mem (keyS u) (sat (f u))).2 ⟨u,rfl,hu,rfl⟩
  exact znh h.kn hm (0:Int)
omit hd hl ht hc hB in
theorem MapN.put {f:List SItem→Nat} {m} (h:MapN f m) (u:List SItem) {n:Nat} (hn:n≠0) {v:Int} (hv:v=sat (f u+n)):MapN (fun t=>f t+if t=u then n else 0) (zf4 m (keyS u) v):=by
 refine ⟨mput_kn h.kn _ _,fun k w=>?_⟩
 rw [zrw,h.mem,Prod.mk.injEq]
 constructor
 ·rintro (⟨h1,h2⟩ | ⟨h1,u',h2,h3,h4⟩)
  ·exact ⟨u,h1,by simp;omega,by rw [h2,hv];simp⟩
  ·have hne:u'≠u:=fun e=>h1 (by rw [h2,e])
   exact ⟨u',h2,by simp [hne,h3],by rw [h4];simp [hne]⟩
 ·rintro ⟨u',h1,h2,h3⟩
  by_cases e:u'=u
  ·subst e;exact .inl ⟨h1,by rw [h3,hv];simp⟩
  ·refine .inr ⟨fun e'=>e (zgf.1 (h1.symm.trans e')),u',h1, ?_, ?_⟩
   ·simpa [e] using h2
   ·rw [h3];simp [e]
theorem next_On_l:∃R,(∃k,zbo.l2 d c B (zbo.j2 R) k [] [] 0)∧Can (fB d c B) R:=by
 have hfew:=hB.few;have last:∀(many:List (Str × Int)) (out:List SBranch),MapN (fB d c B) many→(out.map (·.1)).Nodup→(∀u,u∈out.map (·.1)↔fB d c B u≠0)→out.length≤10001→∃R,zbo.j2 R many out∧Can (fB d c B) R:=by
  intro many out hm hn ho hlen;have hlo:∀b∈out,b.1.length≤1000:=fun b hb=>by
   have:=fB_read hB ((ho b.1).1 (List.mem_map.2 ⟨b,hb,rfl⟩));omega
  let out':=out.map fun b=>(b.1,sat (fB d c B b.1))
  have e1:out'.map (·.1)=out.map (·.1):=by simp [out',Function.comp_def]
  have hn':(out'.map (·.1)).Nodup:=by rw [e1];exact hn
  have hcan:Can (fB d c B) (srtB out'):=by
   refine ⟨zne hn',fun t m=>?_⟩;rw [(zgt out').mem_iff];constructor
   ·intro h;obtain ⟨b,hb,e⟩:=List.mem_map.1 h;simp only [Prod.mk.injEq] at e;obtain ⟨rfl,rfl⟩:=e;exact ⟨(ho _).1 (List.mem_map.2 ⟨b,hb,rfl⟩),rfl⟩
   ·rintro ⟨h1,h2⟩;obtain ⟨b,hb,e⟩:=List.mem_map.1 ((ho t).2 h1);exact List.mem_map.2 ⟨b,hb,by rw [e,h2]⟩
  refine ⟨srtB out', ?_,hcan⟩;refine zh8 (P:=fun k (o:List SBranch) v=>zbo.l1 many out (zbo.j1 (srtB out')) k o v) out.length (fun i o=>o=out'.take i++out.drop i) ?_ ?_ out (by simp)
  ·rintro i o hi rfl;have hl1:(out'.take i).length=i:=by simp [out'];omega
   have hat:at? (out'.take i++out.drop i) (i:Int)=some out[i]:=by
    rw [zbm,List.getElem?_append_right (by omega),hl1,Nat.sub_self];simp [hi]
   have hset:(out'.take i++out.drop i).set i (out[i].1,sat (fB d c B out[i].1))=out'.take (i+1)++out.drop (i+1):=by
    rw [List.set_append_right _ _ (by omega),hl1,Nat.sub_self,List.drop_eq_getElem_cons hi,List.set_cons_zero,List.take_succ_eq_append_getElem (show i<out'.length by simp [out'];exact hi)];simp [out']
   refine .inr ⟨_,rfl,fun k hk=>⟨fun _=>⟨_,hat,_,⟨hlo _ (List.getElem_mem hi),rfl⟩,_,hat,zi (by omega) (by omega), ?_⟩,fun h=>absurd (by omega) (df h)⟩⟩;rw [hm.get,Int.toNat_natCast,hset];exact hk
  ·rintro o rfl k;refine ⟨fun h=>absurd (dt h) (by omega),fun _=>?_⟩;have hl2:out'.length=out.length:=by simp [out']
   rw [List.take_of_length_le (by omega),List.drop_length,List.append_nil];exact ⟨_,⟨hn',fun b hb=>by
    obtain ⟨b',hb',rfl⟩:=List.mem_map.1 hb;exact hlo b' hb',by omega,rfl⟩,rfl⟩
 have key:∀(m i:Nat) (many:List (Str × Int)) (out:List SBranch),i+m=B.length→MapN (fB d c (B.take i)) many→(out.map (·.1)).Nodup→(∀u,u∈out.map (·.1)↔fB d c (B.take i) u≠0)→out.length≤i→∃(R:List SBranch) (k:Nat),zbo.l2 d c B (zbo.j2 R) k many out (i:Int)∧Can (fB d c B) R:=by
  intro m
  induction m with
  | zero=>
   intro i many out hi hm hn ho hlen;rw [List.take_of_length_le (by omega)] at hm ho;obtain ⟨R,h1,h2⟩:=last many out hm hn ho (by omega);exact ⟨R,1,⟨fun h=>absurd (dt h) (by omega),fun _=>h1⟩,h2⟩
  | succ m ih=>
   intro i many out hi hm hn ho hlen;have hil:i<B.length:=by omega
   have hat:at? B (i:Int)=some B[i]:=by rw [zbm];simp [hil]
   have hbm:=List.getElem_mem hil;obtain ⟨b1,b2,b3⟩:=hB.ok _ hbm;obtain ⟨m1,m2⟩:=hB.many _ hbm;have hrd:=next_Read_in hd hl ht (by omega) b3 b2 hc;have hrl:=zla d B[i].1 c;have e:=fB_snoc d c (B.take i) B[i];rw [← List.take_succ_eq_append_getElem hil] at e;cases hr:(zba d B[i].1 c).2
   ·have e0:∀u,fB d c (B.take (i+1)) u=fB d c (B.take i) u:=fun u=>by rw [e,hr];simp
    have e0':fB d c (B.take (i+1))=fB d c (B.take i):=funext e0;obtain ⟨R,k,hk1,hk2⟩:=ih (i+1) many out (by omega) (by rw [e0'];exact hm) hn (by rw [e0'];exact ho) (by omega);exact ⟨R,k+1,⟨fun _=>⟨_,hat,_,hrd,fun _=>⟨zi (by omega) (by omega),hk1⟩,(fun h=>by rw [hr] at h;cases h)⟩,fun h=>absurd (by omega) (df h)⟩,hk2⟩
   ·have hn0:B[i].2.toNat≠0:=by omega
    have hg:=hm.get (zba d B[i].1 c).1;have hv:min (zd4 many (keyS (zba d B[i].1 c).1) 0+B[i].2) 2=sat (fB d c (B.take i) (zba d B[i].1 c).1+B[i].2.toNat):=by
     rw [hg];unfold sat;omega
    have e0':fB d c (B.take (i+1))=fun t=>fB d c (B.take i) t+if t=(zba d B[i].1 c).1 then B[i].2.toNat else 0:=funext fun u=>by
     rw [e,hr];simp only [true_and,eq_comm]
    have hput:=hm.put (zba d B[i].1 c).1 hn0 hv;rw [← e0'] at hput;have hin:InR .i64 (zd4 many (keyS (zba d B[i].1 c).1) 0+B[i].2):=by rw [hg];unfold sat;exact zi (by omega) (by omega)
    by_cases h0:fB d c (B.take i) (zba d B[i].1 c).1=0
    ·obtain ⟨R,k,hk1,hk2⟩:=ih (i+1) _ (out++[((zba d B[i].1 c).1,0)]) (by omega) hput (by
      rw [List.map_append,List.nodup_append];refine ⟨hn,by simp,fun a ha b hb e=>?_⟩;simp at hb;subst hb;subst e;exact (ho _).1 ha h0) (fun u=>by
      rw [e0',List.map_append,List.mem_append,ho]
      by_cases hu:u=(zba d B[i].1 c).1
      ·subst hu;simp;omega
      ·simp [hu]) (by simp;omega)
     refine ⟨R,k+1,⟨fun _=>⟨_,hat,_,hrd,fun h=>by rw [hr] at h;simp at h,fun _=>⟨_,⟨by omega,rfl⟩,fun _=>⟨by simp;omega,hin,zi (by omega) (by omega),hk1⟩,fun h=>?_⟩⟩,fun h=>absurd (by omega) (df h)⟩,hk2⟩;rw [hg,h0] at h;simp [sat] at h
    ·obtain ⟨R,k,hk1,hk2⟩:=ih (i+1) _ out (by omega) hput hn (fun u=>by
      rw [e0',ho]
      by_cases hu:u=(zba d B[i].1 c).1
      ·subst hu;simp [h0]
      ·simp [hu]) (by omega)
     refine ⟨R,k+1,⟨fun _=>⟨_,hat,_,hrd,fun h=>by rw [hr] at h;simp at h,fun _=>⟨_,⟨by omega,rfl⟩,fun h=>?_,fun _=>⟨hin,zi (by omega) (by omega),hk1⟩⟩⟩,fun h=>absurd (by omega) (df h)⟩,hk2⟩;exfalso;rw [hg] at h;have:=eq_of_beq h;unfold sat at this;omega
 obtain ⟨R,k,h1,h2⟩:=key B.length 0 [] [] (by omega) ⟨List.nodup_nil,fun k v=>by simp [fB]⟩ (by simp) (by simp [fB]) (by simp);exact ⟨R,⟨k,h1⟩,h2⟩
end
theorem on_both {d:List SNode} {s:List SItem} (h:Sm d s) {c:Int} (hc:InR .u8 c):∃B R,zfp d s B∧Can (fun t=>(hds d s).count t) B∧zbo d s c R∧zev d s c R∧Can (fB d c B) R:=by
 obtain ⟨B,b1,b2,b3⟩:=zmf h;have hB:=h.hok b3;have hl:d.length≤1000:=by have:=h.len;omega
 obtain ⟨R,⟨k,h1⟩,h2⟩:=next_On_l h.rt.toROk hl h.txt hc hB;obtain ⟨R',⟨k',h1'⟩,h2'⟩:=ref15_On_l h.rt.toROk hl h.txt hc hB;have e:=h2'.uniq h2;subst e;exact ⟨B,R',b1,b3,⟨B,b1,k,h1⟩,⟨B,b2,k',h1'⟩,h2⟩
end Go.Proofs.YtjdaaiodniicoaaGreatDoor.V
namespace Go.Proofs.YtjdaaiodniicoaaGreatDoor.V
open Go
set_option linter.unusedVariables false
def zct (d:List SNode) (c:Int) (s:List SItem):List (List SItem):=(hds d s).filterMap fun t=>if (zba d t c).2=true then some (zba d t c).1 else none
def zc6 (d:List SNode):List Int→List SItem→List (List SItem)
 | [],s=>[s]
 | c::w,s=>(zct d c s).flatMap (zc6 d w)
theorem zmg (d:List SNode) (c:Int):∀(w:List Int) (s:List SItem),zc6 d (w++[c]) s=(zc6 d w s).flatMap (zct d c)
 | [],s=>by
  show (zct d c s).flatMap (zc6 d [])=_;have:zc6 d []=fun t=>[t]:=by funext t;rfl
  rw [this];simp
 | e::w,s=>by
  show (zct d e s).flatMap (zc6 d (w++[c]))=((zct d e s).flatMap (zc6 d w)).flatMap (zct d c);rw [List.flatMap_assoc]
  congr 1
  funext t;exact zmg d c w t
theorem sumF_flat (F:List SItem→Nat) (g:List SItem→List (List SItem)) (L:List (List SItem)):zb6 F (L.flatMap g)=zb6 (fun t=>zb6 F (g t)) L:=by
 induction L with
 | nil=>rfl
 | cons t L ih=>
  rw [List.flatMap_cons,zet,ih];simp [zb6]
theorem sumF_step (d:List SNode) (c:Int) (G:List SItem→Nat) (s:List SItem):zb6 G (zct d c s)=zb6 (fun t=>if (zba d t c).2=true then G (zba d t c).1 else 0) (hds d s):=by
 unfold zct
 induction hds d s with
 | nil=>rfl
 | cons t L ih=>
  rw [List.filterMap_cons]
  by_cases h:(zba d t c).2=true
  ·simp only [h,if_true];have:∀x (M:List (List SItem)),zb6 G (x::M)=G x+zb6 G M:=fun x M=>by simp [zb6]
   rw [this,ih];simp [zb6,h]
  ·simp only [h];rw [show zb6 (fun t=>if (zba d t c).2=true then G (zba d t c).1 else 0) (t::L)=zb6 (fun t=>if (zba d t c).2=true then G (zba d t c).1 else 0) L by simp [zb6,h]];exact ih
theorem wyn_ends (d:List SNode):∀(w:List Int) (s:List SItem),wyn d w s=zb6 (fun u=>(hds d u).count []) (zc6 d w s)
 | [],s=>by simp [wyn,zc6,zb6]
 | c::w,s=>by
  show zb6 (fun t=>if (zba d t c).2=true then wyn d w (zba d t c).1 else 0) (hds d s)=zb6 _ ((zct d c s).flatMap (zc6 d w));rw [sumF_flat,← sumF_step d c (fun t=>wyn d w t) s];exact ze3 fun t _=>wyn_ends d w t
theorem zqf {α:Type} (K:List α):(K.map fun _=>(0:Nat)).sum=0:=by
 induction K with
 | nil=>rfl
 | cons a K ih=>rw [List.map_cons,List.sum_cons,ih]
theorem zqe {g:List SItem→Nat} {t:List SItem}:∀{K:List (List SItem)},K.Nodup→t∈K→(K.map fun k=>(if k=t then 1 else 0)*g k).sum=g t
 | [],_,h=>by cases h
 | k::K,hn,h=>by
  rw [List.nodup_cons] at hn;rw [List.map_cons,List.sum_cons]
  by_cases e:k=t
  ·subst e;have z:(K.map fun k'=>(if k'=k then 1 else 0)*g k').sum=0:=by
    have:∀k'∈K,(if k'=k then 1 else 0)*g k'=0:=fun k' hk=>by
     have hne:k'≠k:=fun e'=>hn.1 (by rw [← e'];exact hk);rw [if_neg hne,Nat.zero_mul]
    rw [List.map_congr_left this,zqf]
   rw [z];simp
  ·rw [if_neg e,Nat.zero_mul,Nat.zero_add];exact zqe hn.2 ((List.mem_cons.1 h).resolve_left fun h'=>e h'.symm)
theorem sum_by {g:List SItem→Nat} {K:List (List SItem)} (hn:K.Nodup):∀(L:List (List SItem)),(∀t∈L,t∈K)→zb6 g L=(K.map fun k=>L.count k*g k).sum
 | [],_=>by
  have:∀k∈K,([]:List (List SItem)).count k*g k=0:=fun k _=>by simp
  rw [List.map_congr_left this,zqf];rfl
 | t::L,h=>by
  have ih:=sum_by hn (g:=g) L fun u hu=>h u (by simp [hu]);have e1:zb6 g (t::L)=g t+zb6 g L:=by simp [zb6]
  have e2:(K.map fun k=>(t::L).count k*g k).sum=(K.map fun k=>L.count k*g k).sum+(K.map fun k=>(if k=t then 1 else 0)*g k).sum:=by
   clear h ih e1 hn
   induction K with
   | nil=>rfl
   | cons a K ih=>
    simp only [List.map_cons,List.sum_cons];rw [ih,List.count_cons,Nat.add_mul];have:(if (t==a)=true then 1 else 0)=(if a=t then 1 else 0):=by
     by_cases h:a=t
     ·subst h;simp
     ·rw [if_neg (by simpa using fun e=>h e.symm),if_neg h]
    rw [this];omega
  rw [e1,ih,e2,zqe hn (h t (by simp))];omega
theorem fB_step {d:List SNode} {s:List SItem} {B:List SBranch} (hB:Can (fun t=>(hds d s).count t) B) (c:Int) (u:List SItem):sat (fB d c B u)=sat ((zct d c s).count u):=by
 have e1:(zct d c s).count u=zb6 (fun t=>if t=u then 1 else 0) (zct d c s):=by
  induction zct d c s with
  | nil=>rfl
  | cons t L ih=>
   rw [List.count_cons,ih];unfold zb6;rw [List.map_cons,List.sum_cons]
   by_cases h:t=u
   ·simp [h];omega
   ·simp [h]
 rw [e1,sumF_step,sum_by hB.nodup (hds d s) fun t ht=>(hB.keys t).2 (by have:=List.count_pos_iff.2 ht;omega),List.map_map];unfold fB;have key:∀b∈B,sat (if (zba d b.1 c).2=true∧(zba d b.1 c).1=u then b.2.toNat else 0)=sat ((hds d s).count b.1*if (zba d b.1 c).2=true then (if (zba d b.1 c).1=u then 1 else 0) else 0):=fun b hb=>by
  have h1:=(hB.many hb).1
  by_cases h2:(zba d b.1 c).2=true
  ·by_cases h3:(zba d b.1 c).1=u
   ·rw [if_pos ⟨h2,h3⟩,if_pos h2,if_pos h3,Nat.mul_one,h1];unfold sat;omega
   ·rw [if_neg fun e=>h3 e.2,if_pos h2,if_neg h3];rfl
  ·rw [if_neg fun e=>h2 e.1,if_neg h2];rfl
 clear hB e1
 induction B with
 | nil=>rfl
 | cons b B ih=>
  have k1:=key b (by simp);have k2:=ih fun b' hb'=>key b' (by simp [hb']);simp only [List.map_cons,List.sum_cons,Function.comp] at k2 ⊢;unfold sat at *;omega
theorem next_Ends_l {B:List SBranch} {f:List SItem→Nat} (hB:Can f B) (hl:B.length≤10001):∃k,zci.l1 B (sat (f [])) (zci.j1 (sat (f []))) k 0:=by
 refine zh8 (P:=fun k (_:Unit) v=>zci.l1 B (sat (f [])) _ k v) B.length (fun i _=>∀b∈B.take i,b.1≠[]) ?_ ?_ () (by simp)
 ·intro i _ hi hn;have hat:at? B (i:Int)=some B[i]:=by rw [zbm];simp [hi]
  by_cases h0:B[i].1=[]
  ·refine .inl fun k=>⟨fun _=>⟨_,hat,fun _=>?_,fun h=>by rw [h0] at h;simp at h⟩,fun h=>absurd (by omega) (df h)⟩;have:=(hB.many (List.getElem_mem hi)).1;rw [h0] at this;exact this.symm
  ·refine .inr ⟨(),fun b hb=>?_,fun k hk=>⟨fun _=>⟨_,hat,fun h=>absurd (by simpa using h) h0,fun _=>⟨zi (by omega) (by omega),hk⟩⟩,fun h=>absurd (by omega) (df h)⟩⟩;rw [List.take_succ_eq_append_getElem hi] at hb;rcases List.mem_append.1 hb with hb | hb
   ·exact hn b hb
   ·rw [List.mem_singleton.1 hb];exact h0
 ·intro _ hn k;refine ⟨fun h=>absurd (dt h) (by omega),fun _=>?_⟩;show sat (f [])=0;rw [List.take_length] at hn;have:f []=0:=by
   rcases Nat.eq_zero_or_pos (f []) with h | h
   ·exact h
   ·obtain ⟨b,hb,e⟩:=List.mem_map.1 ((hB.keys []).2 (by omega));exact absurd e (hn b hb)
  rw [this];rfl
theorem ref15_Ends_l {B:List SBranch} {f:List SItem→Nat} (hB:Can f B) (hl:B.length≤10001):∃k,zek.l1 B (sat (f [])) (zek.j1 (sat (f []))) k 0:=by
 refine zh8 (P:=fun k (_:Unit) v=>zek.l1 B (sat (f [])) _ k v) B.length (fun i _=>∀b∈B.take i,b.1≠[]) ?_ ?_ () (by simp)
 ·intro i _ hi hn;have hat:at? B (i:Int)=some B[i]:=by rw [zbm];simp [hi]
  by_cases h0:B[i].1=[]
  ·refine .inl fun k=>⟨fun _=>⟨_,hat,fun _=>⟨_,hat, ?_⟩,fun h=>by rw [h0] at h;simp at h⟩,fun h=>absurd (by omega) (df h)⟩;have:=(hB.many (List.getElem_mem hi)).1;rw [h0] at this;exact this.symm
  ·refine .inr ⟨(),fun b hb=>?_,fun k hk=>⟨fun _=>⟨_,hat,fun h=>absurd (by simpa using h) h0,fun _=>⟨zi (by omega) (by omega),hk⟩⟩,fun h=>absurd (by omega) (df h)⟩⟩;rw [List.take_succ_eq_append_getElem hi] at hb;rcases List.mem_append.1 hb with hb | hb
   ·exact hn b hb
   ·rw [List.mem_singleton.1 hb];exact h0
 ·intro _ hn k;refine ⟨fun h=>absurd (dt h) (by omega),fun _=>?_⟩;show sat (f [])=0;rw [List.take_length] at hn;have:f []=0:=by
   rcases Nat.eq_zero_or_pos (f []) with h | h
   ·exact h
   ·obtain ⟨b,hb,e⟩:=List.mem_map.1 ((hB.keys []).2 (by omega));exact absurd e (hn b hb)
  rw [this];rfl
theorem zo7 {d:List SNode} {s:List SItem} (h:Sm d s):zci d s (sat ((hds d s).count []))∧zek d s (sat ((hds d s).count [])):=by
 obtain ⟨B,b1,b2,b3⟩:=zmf h;have hl:=heads_few h b3;exact ⟨⟨B,b1,next_Ends_l b3 hl⟩,⟨B,b2,ref15_Ends_l b3 hl⟩⟩
def sing:List Cl:=(List.range 256).map fun (c:Nat)=>Cl.row ((c:Int) % 256) ((c:Int) % 256)
def clsF (d:List SNode) (t:List SItem):List Cl:=
 match t with
 | []=>[]
 | x::_=>match at? d x.2.1 with
  | none=>[]
  | some n=>if x.1=3 then [Cl.row ((zd9 n.2.2.2.2.2.2 x.2.2.1).getD 0) ((zd9 n.2.2.2.2.2.2 x.2.2.1).getD 0)] else if n.1=2 then [n.2.2.2.2.2.1] else sing
def zlt (d:List SNode) (B:List SBranch):List Cl:=B.flatMap fun b=>clsF d b.1
theorem zic:sing.length=256:=by simp [sing]
theorem clsF_len (d:List SNode) (t:List SItem):(clsF d t).length≤256:=by
 unfold clsF;cases t with
 | nil=>simp
 | cons x t=>
  simp only;cases at? d x.2.1 with
  | none=>simp
  | some n=>
   simp only;split
   ·simp
   ·split
    ·simp
    ·rw [zic];exact Nat.le_refl _
theorem zno (d:List SNode):∀B:List SBranch,(zlt d B).length≤256*B.length
 | []=>by simp [zlt]
 | b::B=>by
  have h1:=clsF_len d b.1;have h2:=zno d B;unfold zlt at *;simp only [List.flatMap_cons,List.length_append,List.length_cons];omega
theorem clsB_snoc (d:List SNode) (B:List SBranch) (b:SBranch):zlt d (B++[b])=zlt d B++clsF d b.1:=by simp [zlt]
theorem zor:zbs sing:=by
 refine zh8 (P:=fun k (o:List Cl) v=>zbs.l1 (zbs.j1 sing) k o v) 256 (fun i o=>o=sing.take i) ?_ ?_ [] (by simp)
 ·rintro i o hi rfl;have e:sing.take (i+1)=sing.take i++[Cl.row ((i:Int) % 256) ((i:Int) % 256)]:=by
   rw [List.take_succ_eq_append_getElem (by rw [zic];exact hi)];simp [sing]
  refine .inr ⟨_,rfl,fun k hk=>⟨fun _=>⟨_,zpc,by rw [List.length_take];simp;omega,zi (by omega) (by omega), ?_⟩,fun h=>absurd (by omega) (df h)⟩⟩;rw [e] at hk;exact hk
 ·rintro o rfl k;refine ⟨fun h=>absurd (dt h) (by omega),fun _=>?_⟩;show sing=sing.take 256;rw [List.take_of_length_le (by rw [zic];exact Nat.le_refl _)]
theorem zpy {d:List SNode} {B:List SBranch} (hB:HOk d B):∃k,zbh.l1 d B (zbh.j1 (zlt d B)) k [] 0:=by
 have hfew:=hB.few;refine zh8 (P:=fun k (o:List Cl) v=>zbh.l1 d B (zbh.j1 (zlt d B)) k o v) B.length (fun i o=>o=zlt d (B.take i)) ?_ ?_ [] (by simp [zlt])
 ·rintro i o hi rfl;have hat:at? B (i:Int)=some B[i]:=by rw [zbm];simp [hi]
  obtain ⟨b1,b2,b3⟩:=hB.ok _ (List.getElem_mem hi);have hlen:=zno d (B.take i);rw [List.length_take] at hlen;have e:zlt d (B.take (i+1))=zlt d (B.take i)++clsF d B[i].1:=by rw [List.take_succ_eq_append_getElem hi,clsB_snoc]
  refine .inr ⟨_,rfl,fun k hk=>⟨fun _=>⟨_,hat,fun h0=>?_,fun h0=>?_⟩,fun h=>absurd (by omega) (df h)⟩⟩
  ·have h1:B[i].1=[]:=by simpa using h0
   rw [e,h1] at hk;simp only [clsF,List.append_nil] at hk;exact ⟨zi (by omega) (by omega),hk⟩
  ·rw [e] at hk;generalize B[i].1=t at *;cases t with
   | nil=>simp at h0
   | cons x rest=>
    obtain ⟨n,hn,hm,hkk⟩:=zih b3 b2;simp only [clsF,hn] at hk;refine ⟨x,rfl,n,hn,fun h3=>?_,fun h3=>⟨fun h2=>?_,fun h2=>?_⟩⟩
    ·have h3':=eq_of_beq h3;rw [if_pos h3'] at hk;obtain ⟨_,_,h6,h7⟩:n.1=3∧x.2.2.2=0∧0≤x.2.2.1∧x.2.2.1<(n.2.2.2.2.2.2.length:Int):=by
      rcases hkk with ⟨h,_⟩ | ⟨_,h⟩ | ⟨h,_⟩
      ·omega
      ·exact h
      ·omega
     obtain ⟨b,hb2,_⟩:=zpe h6 h7;rw [hb2] at hk;exact ⟨b,hb2,b,hb2,_,zpc,by simp;omega,zi (by omega) (by omega),hk⟩
    ·have h3':=ne_of_beq_false h3;rw [if_neg h3',if_pos (eq_of_beq h2)] at hk;exact ⟨by simp;omega,zi (by omega) (by omega),hk⟩
    ·have h3':=ne_of_beq_false h3;rw [if_neg h3',if_neg (ne_of_beq_false h2)] at hk;exact ⟨_,zor,by rw [zic];omega,zi (by omega) (by omega),hk⟩
 ·rintro o rfl k;refine ⟨fun h=>absurd (dt h) (by omega),fun _=>?_⟩;show zlt d B=_;rw [List.take_length]
theorem zoc {d:List SNode} {B:List SBranch} (hB:HOk d B):∃k,zbg.l1 d B (zbg.j1 (zlt d B)) k [] 0:=by
 have hfew:=hB.few;refine zh8 (P:=fun k (o:List Cl) v=>zbg.l1 d B (zbg.j1 (zlt d B)) k o v) B.length (fun i o=>o=zlt d (B.take i)) ?_ ?_ [] (by simp [zlt])
 ·rintro i o hi rfl;have hat:at? B (i:Int)=some B[i]:=by rw [zbm];simp [hi]
  obtain ⟨b1,b2,b3⟩:=hB.ok _ (List.getElem_mem hi);have hlen:=zno d (B.take i);rw [List.length_take] at hlen;have e:zlt d (B.take (i+1))=zlt d (B.take i)++clsF d B[i].1:=by rw [List.take_succ_eq_append_getElem hi,clsB_snoc]
  refine .inr ⟨_,rfl,fun k hk=>⟨fun _=>⟨_,hat,fun h0=>?_,fun h0=>?_⟩,fun h=>absurd (by omega) (df h)⟩⟩
  ·have h1:B[i].1=[]:=by simpa using h0
   rw [e,h1] at hk;simp only [clsF,List.append_nil] at hk;exact ⟨zi (by omega) (by omega),hk⟩
  ·rw [e] at hk;refine ⟨_,hat, ?_⟩;generalize B[i].1=t at *;cases t with
   | nil=>simp at h0
   | cons x rest=>
    obtain ⟨n,hn,hm,hkk⟩:=zih b3 b2;simp only [clsF,hn] at hk;refine ⟨x,rfl,n,hn,fun h3=>?_,fun h3=>⟨fun h2=>?_,fun h2=>?_⟩⟩
    ·have h3':=eq_of_beq h3;rw [if_pos h3'] at hk;obtain ⟨_,_,h6,h7⟩:n.1=3∧x.2.2.2=0∧0≤x.2.2.1∧x.2.2.1<(n.2.2.2.2.2.2.length:Int):=by
      rcases hkk with ⟨h,_⟩ | ⟨_,h⟩ | ⟨h,_⟩
      ·omega
      ·exact h
      ·omega
     obtain ⟨b,hb2,hb3⟩:=zpe h6 h7;rw [hb2] at hk;exact ⟨b,hb2,b,hb2,_,zjb hb3 hb3,by simp;omega,zi (by omega) (by omega),hk⟩
    ·have h3':=ne_of_beq_false h3;simp only [Bool.and_eq_true,beq_iff_eq] at h2;rw [if_neg h3',if_pos h2.2] at hk;exact ⟨by simp;omega,zi (by omega) (by omega),hk⟩
    ·have h3':=ne_of_beq_false h3;have h2':¬ n.1=2:=by
      intro e2;rcases hkk with ⟨h,_⟩ | ⟨h,_⟩ | ⟨h,h',_⟩
      ·simp [h,e2] at h2
      ·exact h3' h
      ·omega
     rw [if_neg h3',if_neg h2'] at hk;refine zh8 (P:=fun k' (o:List Cl) v=>zbg.l2 (zbg.j2 (zbg.l1 d B (zbg.j1 (zlt d B)) k) (i:Int)) k' o v) 256 (fun j o=>o=zlt d (B.take i)++sing.take j) ?_ ?_ (zlt d (B.take i)) (by simp)
     ·rintro j o hj rfl;have e:sing.take (j+1)=sing.take j++[Cl.row ((j:Int) % 256) ((j:Int) % 256)]:=by
       rw [List.take_succ_eq_append_getElem (by rw [zic];exact hj)];simp [sing]
      have hu8:InR .u8 ((j:Int) % 256):=zfm.2 ⟨by omega,by omega⟩;refine .inr ⟨_,rfl,fun k' hk'=>⟨fun _=>⟨_,zjb hu8 hu8,by rw [List.length_append,List.length_take];simp;omega,zi (by omega) (by omega), ?_⟩,fun h=>absurd (by omega) (df h)⟩⟩;rw [e,← List.append_assoc] at hk';exact hk'
     ·rintro o rfl k';refine ⟨fun h=>absurd (dt h) (by omega),fun _=>⟨zi (by omega) (by omega), ?_⟩⟩;rw [List.take_of_length_le (l:=sing) (by rw [zic];exact Nat.le_refl _)];exact hk
 ·rintro o rfl k;refine ⟨fun h=>absurd (dt h) (by omega),fun _=>?_⟩;show zlt d B=_;rw [List.take_length]
theorem classes_both {d:List SNode} {s:List SItem} (h:Sm d s):∃B,Can (fun t=>(hds d s).count t) B∧zbh d s (zlt d B)∧zbg d s (zlt d B):=by
 obtain ⟨B,b1,b2,b3⟩:=zmf h;have hB:=h.hok b3;exact ⟨B,b3,⟨B,b1,zpy hB⟩,⟨B,b2,zoc hB⟩⟩
def d5:List SNode:=[(2,0,0,0,0,Cl.row 5 6,([]:Str))]
def d55:List SNode:=zdj 5 d5 d5
def d8:List SNode:=wrapD 8 d5
abbrev Txt (d:List SNode):Prop:=∀n∈d,n.2.2.2.2.2.2.length≤140737488351232
theorem byte_u8 {s:Str} {i:Int} {c:Int} (h:zd9 s i=some c):0≤c∧c≤255:=by
 unfold zd9 at h;obtain ⟨x,_,rfl⟩:=Option.map_eq_some_iff.1 h;have:=x.toNat_lt;omega
theorem read_same {d:List SNode} {t:List SItem} (hf:zd6 d t=true) (hr:rdy d t=true) {a b:Int} (ha:InR .u8 a) (hb:InR .u8 b) (h:∀x∈clsF d t,x.has a.toNat=x.has b.toNat):zba d t a=zba d t b:=by
 have ha':=zfm.1 ha;have hb':=zfm.1 hb;cases t with
 | nil=>rfl
 | cons x rest=>
  obtain ⟨n,hn,hm,hk⟩:=zih hf hr;simp only [clsF,hn] at h;unfold zba;simp only [hn]
  by_cases hl:(zds rest).2=false
  ·rw [if_pos hl,if_pos hl]
  ·rw [if_neg hl,if_neg hl]
   by_cases h3:x.1=3
   ·rw [if_pos h3] at h;rw [if_pos h3,if_pos h3];obtain ⟨h6,h7⟩:0≤x.2.2.1∧x.2.2.1<(n.2.2.2.2.2.2.length:Int):=by
     rcases hk with ⟨h,_⟩ | ⟨_,_,_,h⟩ | ⟨h,_⟩
     ·omega
     ·exact h
     ·omega
    obtain ⟨c,hc,_⟩:=zpe h6 h7;have hcr:=byte_u8 hc;have hh:=h _ (List.mem_singleton.2 rfl);rw [hc] at hh ⊢;simp only [Option.getD_some] at hh;rw [zkx (by omega),zkx (by omega)] at hh;have e:(some c=some a)↔(some c=some b):=by
     simp only [Option.some.injEq];have e1:(decide (c≤((a.toNat:Nat):Int))&&decide (((a.toNat:Nat):Int)≤c))=true↔c=a:=by simp only [Bool.and_eq_true,decide_eq_true_eq];omega
     have e2:(decide (c≤((b.toNat:Nat):Int))&&decide (((b.toNat:Nat):Int)≤c))=true↔c=b:=by simp only [Bool.and_eq_true,decide_eq_true_eq];omega
     rw [← e1,← e2,hh]
    by_cases hca:(some c=some a)
    ·rw [if_pos hca,if_pos (e.1 hca)]
    ·rw [if_neg hca,if_neg fun hcb=>hca (e.2 hcb)]
   ·rw [if_neg h3] at h
    by_cases h2:n.1=2
    ·rw [if_pos h2] at h;have h1:x.1=1:=by
      rcases hk with ⟨h,_⟩ | ⟨h,_⟩ | ⟨_,h,_⟩
      ·exact h
      ·exact absurd h h3
      ·omega
     have hh:=h _ (List.mem_singleton.2 rfl);rw [if_neg h3,if_neg (show ¬ x.1=4 by omega),if_neg (show ¬ n.1=8 by omega),if_neg (show ¬ n.1=9 by omega),if_neg h3,if_neg (show ¬ x.1=4 by omega),if_neg (show ¬ n.1=8 by omega),if_neg (show ¬ n.1=9 by omega),hh]
    ·rw [if_neg h2] at h;have hm:Cl.row a a∈sing:=by
      refine List.mem_map.2 ⟨a.toNat,by simp;omega, ?_⟩;have e:((a.toNat:Nat):Int) % 256=a:=by omega
      rw [e]
     have hh:=h _ hm;rw [zkx (by omega),zkx (by omega)] at hh;have e1:(decide (a≤((a.toNat:Nat):Int))&&decide (((a.toNat:Nat):Int)≤a))=true:=by simp only [Bool.and_eq_true,decide_eq_true_eq];omega
     rw [e1] at hh;have hh:=hh.symm;simp only [Bool.and_eq_true,decide_eq_true_eq] at hh;have:a=b:=by omega
     rw [this]
theorem form_low1 {d:List SNode} {x:SItem} (h:ze0 d x=true) (hb:badI x=false):ze0 d (zi3 x)=true:=by
 unfold zi3;split
 ·rename_i h5
  unfold ze0 at h ⊢;rw [if_pos h5] at h;rw [if_pos (show (x.1,x.2.1,x.2.2.1-1,x.2.2.2).1=5 from h5)];simp only [badI,h5] at hb;simp at hb;simp only [Bool.and_eq_true,decide_eq_true_eq,beq_iff_eq] at h ⊢;omega
 ·exact h
theorem form_lowF {d:List SNode} {s:List SItem} (h:zd6 d s=true):zd6 d (zds s).1=true:=by
 unfold zds;split
 ·rfl
 ·rename_i hb
  have hb:s.any badI=false:=by simpa using hb
  unfold zd6 at *;rw [List.all_eq_true] at *;intro y hy;obtain ⟨x,hx,rfl⟩:=List.mem_map.1 hy;rw [List.any_eq_false] at hb;exact form_low1 (h x hx) (by simpa using hb x hx)
theorem form_read {d:List SNode} (hd:ROk d) {t:List SItem} (hf:zd6 d t=true) (hr:rdy d t=true) {c:Int} (hc:InR .u8 c):zd6 d (zba d t c).1=true:=by
 have hc':=zfm.1 hc;cases t with
 | nil=>rfl
 | cons x rest=>
  obtain ⟨n,hn,hm,hk⟩:=zih hf hr;have hlow:=form_lowF (zdp hf).2;have five:∀v:Int,0≤v→v≤65535→ze0 d (5,0,v,0)=true:=fun v h0 h1=>by
   unfold ze0;simp;omega
  unfold zba;simp only [hn];split
  ·rfl
  ·split
   ·rename_i h3
    split
    ·split
     ·rename_i hlt
      refine zfi ?_ hlow;obtain ⟨h4,h6⟩:n.1=3∧0≤x.2.2.1:=by
       rcases hk with ⟨h,_⟩ | ⟨_,h,_,h',_⟩ | ⟨h,_⟩
       ·omega
       ·exact ⟨h,h'⟩
       ·omega
      unfold ze0;simp [hn,h4];omega
     ·exact hlow
    ·rfl
   ·split
    ·rename_i h3 h4
     obtain ⟨h9,h6,h7⟩:n.1=9∧0≤x.2.2.1∧x.2.2.1≤255:=by
      rcases hk with ⟨h,_⟩ | ⟨h,_⟩ | ⟨_,h⟩
      ·omega
      ·omega
      ·exact h
     obtain ⟨p,q⟩:=hd.one _ n hn (by omega);exact zfi (zhb (zdg hn p q)) (zfi (five _ (by omega) (by omega)) hlow)
    ·split
     ·rename_i h8
      obtain ⟨p,q⟩:=hd.one _ n hn (by omega);exact zfi (zhb (zdg hn p q)) (zfi (five _ (by omega) (by omega)) hlow)
     ·split
      ·rename_i h9
       refine zfi ?_ hlow;unfold ze0;simp [hn,h9];omega
      ·split
       ·exact hlow
       ·rfl
theorem step_ok {d:List SNode} (hd:ROk d) {s:List SItem} (hf:zd6 d s=true) {c:Int} (hc:InR .u8 c):∀u∈zct d c s,zd6 d u=true∧u.length≤s.length+d.length+1:=by
 intro u hu;obtain ⟨t,h1,h2⟩:=List.mem_filterMap.1 hu;obtain ⟨L,⟨k,hk⟩,hp⟩:=zqt hd s hf;obtain ⟨h3,h4⟩:=lv_vs hd (n0:=s.length) k s L hk (Vs.start hf (Nat.le_refl _)) t (hp.mem_iff.2 h1);split at h2
 ·cases h2;have:=h3.len;have:=zla d t c;exact ⟨form_read hd h3.form h4 hc,by omega⟩
 ·cases h2
theorem ends_ok {d:List SNode} (hd:ROk d):∀(w:List Int) (s:List SItem),(∀c∈w,InR .u8 c)→zd6 d s=true→∀u∈zc6 d w s,zd6 d u=true∧u.length≤s.length+w.length*(d.length+1)
 | [],s,_,hf,u,hu=>by
  rw [zc6,List.mem_singleton] at hu;subst hu;exact ⟨hf,by simp⟩
 | c::w,s,hw,hf,u,hu=>by
  obtain ⟨t,h1,h2⟩:=List.mem_flatMap.1 hu;obtain ⟨h3,h4⟩:=step_ok hd hf (hw c (by simp)) t h1;obtain ⟨h5,h6⟩:=ends_ok hd w t (fun e he=>hw e (by simp [he])) h3 u h2;refine ⟨h5, ?_⟩;rw [List.length_cons,Nat.succ_mul];omega
theorem hds_mem {d:List SNode} (hd:ROk d) (r:List SItem) (t:List SItem):∀s,t∈hds d (s++r)↔(∃t',t'∈hds d s∧t'≠[]∧t=t'++r)∨([]∈hds d s∧t∈hds d r):=by
 intro s;have h:=zsb hd (fun u=>if u=t then 1 else 0) r s;have cnt1:∀L:List (List SItem),zb6 (fun u=>if u=t then 1 else 0) L≠0↔t∈L:=fun L=>by
  induction L with
  | nil=>simp [zb6]
  | cons u L ih=>
   have e:zb6 (fun u=>if u=t then 1 else 0) (u::L)=(if u=t then 1 else 0)+zb6 (fun u=>if u=t then 1 else 0) L:=by simp [zb6]
   rw [e,List.mem_cons]
   by_cases hu:u=t
   ·subst hu;simp
   ·rw [if_neg hu,Nat.zero_add,ih];constructor
    ·exact .inr
    ·rintro (e | e)
     ·exact absurd e.symm hu
     ·exact e
 have cnt2:∀(G:List SItem→Nat) (L:List (List SItem)),zb6 G L≠0↔∃u∈L,G u≠0:=fun G L=>by
  induction L with
  | nil=>simp [zb6]
  | cons u L ih=>
   have e:zb6 G (u::L)=G u+zb6 G L:=by simp [zb6]
   rw [e];constructor
   ·intro h0
    by_cases hu:G u=0
    ·obtain ⟨v,h1,h2⟩:=ih.1 (by omega);exact ⟨v,by simp [h1],h2⟩
    ·exact ⟨u,by simp,hu⟩
   ·rintro ⟨v,h1,h2⟩;rcases List.mem_cons.1 h1 with rfl | h1
    ·omega
    ·have:=ih.2 ⟨v,h1,h2⟩;omega
 rw [← cnt1,h,cnt2];constructor
 ·rintro ⟨u,h1,h2⟩
  by_cases hu:u=[]
  ·subst hu;simp only [if_true] at h2;exact .inr ⟨h1,(cnt1 _).1 h2⟩
  ·simp only [if_neg hu] at h2
   by_cases he:u++r=t
   ·exact .inl ⟨u,h1,hu,he.symm⟩
   ·rw [if_neg he] at h2;exact absurd rfl h2
 ·rintro (⟨u,h1,hu,rfl⟩ | ⟨h1,h2⟩)
  ·exact ⟨u,h1,by simp only [if_neg hu];simp⟩
  ·exact ⟨[],h1,by simp only [if_true];exact (cnt1 _).2 h2⟩
theorem zdw {d:List SNode} {c:Int} {s u:List SItem}:u∈zct d c s↔∃t∈hds d s,(zba d t c).2=true∧(zba d t c).1=u:=by
 unfold zct;rw [List.mem_filterMap];constructor
 ·rintro ⟨t,h1,h2⟩;split at h2
  ·rename_i h3;cases h2;exact ⟨t,h1,h3,rfl⟩
  ·cases h2
 ·rintro ⟨t,h1,h2,rfl⟩;exact ⟨t,h1,by rw [if_pos h2]⟩
theorem step_app {d:List SNode} (hd:ROk d) {c:Int} {s r u:List SItem} (h:u∈zct d c (s++r)):(∃u',u'∈zct d c s∧(zds r).2=true∧u=u'++(zds r).1)∨([]∈hds d s∧u∈zct d c r):=by
 obtain ⟨t,h1,h2,rfl⟩:=zdw.1 h;rcases (hds_mem hd r t s).1 h1 with ⟨t',k1,k2,rfl⟩ | ⟨k1,k2⟩
 ·rw [zoh k2] at h2 ⊢
  by_cases hc:(zba d t' c).2=true∧(zds r).2=true
  ·rw [if_pos hc];exact .inl ⟨_,zdw.2 ⟨t',k1,hc.1,rfl⟩,hc.2,rfl⟩
  ·rw [if_neg hc] at h2;cases h2
 ·exact .inr ⟨k1,zdw.2 ⟨t,k2,h2,rfl⟩⟩
def Cov (n:Nat) (p:List SItem→Prop):Prop:=∃K:List (List SItem),K.length≤n∧∀u,p u→u∈K
theorem Cov.weak {m n:Nat} {p q:List SItem→Prop} (h:Cov m p) (hm:m≤n) (hq:∀u,q u→p u):Cov n q:=
 let ⟨K,h1,h2⟩:=h
 ⟨K,Nat.le_trans h1 hm,fun u hu=>h2 u (hq u hu)⟩
theorem Cov.none {p:List SItem→Prop} (h:∀u,¬ p u) (n:Nat):Cov n p:=⟨[],Nat.zero_le _,fun u hu=>(h u hu).elim⟩
theorem Cov.one {p:List SItem→Prop} (x:List SItem) (h:∀u,p u→u=x):Cov 1 p:=⟨[x],by simp,fun u hu=>by rw [h u hu];simp⟩
theorem Cov.or {m n:Nat} {p q r:List SItem→Prop} (h:Cov m p) (k:Cov n q) (e:∀u,r u→p u∨q u):Cov (m+n) r:=
 let ⟨K,h1,h2⟩:=h
 let ⟨J,k1,k2⟩:=k
 ⟨K++J,by rw [List.length_append];omega,fun u hu=>by rw [List.mem_append];exact (e u hu).imp (h2 u) (k2 u)⟩
theorem Cov.map {m:Nat} {p r:List SItem→Prop} (f:List SItem→List SItem) (h:Cov m p) (e:∀u,r u→∃t,p t∧u=f t):Cov m r:=
 let ⟨K,h1,h2⟩:=h
 ⟨K.map f,by simpa using h1,fun u hu=>by obtain ⟨t,a,rfl⟩:=e u hu;exact List.mem_map.2 ⟨t,h2 t a,rfl⟩⟩
def sumN (f:Nat→Nat):Nat→Nat
 | 0=>0
 | k+1=>sumN f k+f k
theorem Cov.sum {f:Nat→Nat} {p:Nat→List SItem→Prop}:∀(k:Nat),(∀j,j<k→Cov (f j) (p j))→Cov (sumN f k) (fun u=>∃j,j<k∧p j u)
 | 0,_=>Cov.none (fun u ⟨j,h,_⟩=>by omega) _
 | k+1,h=>(Cov.sum k fun j hj=>h j (by omega)).or (h k (by omega)) fun u ⟨j,hj,hp⟩=>by
  by_cases e:j=k
  ·subst e;exact .inr hp
  ·exact .inl ⟨j,by omega,hp⟩
def Rch (d:List SNode) (s:List SItem) (w:List Int) (u:List SItem):Prop:=∃a v,a++v=w∧v≠[]∧u∈zc6 d v s
theorem zml (t:List SItem):∀L:List (List SItem),zb6 (fun u=>if u=t then 1 else 0) L≠0↔t∈L
 | []=>by simp [zb6]
 | u::L=>by
  have ih:=zml t L;have e:zb6 (fun u=>if u=t then 1 else 0) (u::L)=(if u=t then 1 else 0)+zb6 (fun u=>if u=t then 1 else 0) L:=by simp [zb6]
  rw [e,List.mem_cons]
  by_cases hu:u=t
  ·subst hu;simp
  ·rw [if_neg hu,Nat.zero_add,ih];constructor
   ·exact .inr
   ·rintro (e | e)
    ·exact absurd e.symm hu
    ·exact e
theorem mem_sum {A B:List (List SItem)} (h:∀F,zb6 F A=zb6 F B) (t:List SItem):t∈A↔t∈B:=by rw [← zml,← zml t B,h]
theorem mem_sum2 {A B C:List (List SItem)} (h:∀F,zb6 F A=zb6 F B+zb6 F C) (t:List SItem):t∈A↔t∈B∨t∈C:=by rw [← zml,← zml t B,← zml t C,h];omega
theorem ends_or {d:List SNode} {s s1 s2 u:List SItem} {v:List Int} (h:∀t,t≠[]→t∈hds d s→t∈hds d s1∨t∈hds d s2) (hv:v≠[]) (hu:u∈zc6 d v s):u∈zc6 d v s1∨u∈zc6 d v s2:=by
 cases v with
 | nil=>exact absurd rfl hv
 | cons c w=>
  obtain ⟨x,h1,h2⟩:=List.mem_flatMap.1 hu;obtain ⟨t,k1,k2,k3⟩:=zdw.1 h1;have hne:t≠[]:=fun e=>by subst e;simp [zba] at k2
  rcases h t hne k1 with k | k
  ·exact .inl (List.mem_flatMap.2 ⟨x,zdw.2 ⟨t,k,k2,k3⟩,h2⟩)
  ·exact .inr (List.mem_flatMap.2 ⟨x,zdw.2 ⟨t,k,k2,k3⟩,h2⟩)
theorem zh2 {d:List SNode} {s s1 u:List SItem} {v:List Int} (h:∀t,t≠[]→t∈hds d s→t∈hds d s1) (hv:v≠[]) (hu:u∈zc6 d v s):u∈zc6 d v s1:=
 (ends_or (s1:=s1) (s2:=s1) (fun t h1 h2=>.inl (h t h1 h2)) hv hu).elim id id
theorem zlk {d:List SNode} (hd:ROk d):∀(w:List Int) (s r u:List SItem),u∈zc6 d w (s++r)→(∃u' r',u'∈zc6 d w s∧zpj w.length r=some r'∧u=u'++r')∨∃a b r',w=a++b∧b≠[]∧(a=[]→[]∈hds d s)∧zpj a.length r=some r'∧u∈zc6 d b r'
 | [],s,r,u,h=>by
  rw [zc6,List.mem_singleton] at h;exact .inl ⟨s,r,by rw [zc6];exact List.mem_singleton.2 rfl,rfl,h⟩
 | c::w,s,r,u,h=>by
  obtain ⟨t,h1,h2⟩:=List.mem_flatMap.1 h;rcases step_app hd h1 with ⟨t',k1,k2,rfl⟩ | ⟨k1,k2⟩
  ·have el:∀p,zpj (p+1) r=zpj p (zds r).1:=fun p=>by
    show (if (zds r).2=true then zpj p (zds r).1 else none)=_;rw [if_pos k2]
   rcases zlk hd w t' (zds r).1 u h2 with ⟨u',r',j1,j2,j3⟩ | ⟨a,b,r',j1,j2,_,j3,j4⟩
   ·exact .inl ⟨u',r',List.mem_flatMap.2 ⟨t',k1,j1⟩,by rw [List.length_cons,el];exact j2,j3⟩
   ·exact .inr ⟨c::a,b,r',by rw [j1];rfl,j2,(fun h=>by cases h),by rw [List.length_cons,el];exact j3,j4⟩
  ·exact .inr ⟨[],c::w,r,rfl,by simp,fun _=>k1,rfl,List.mem_flatMap.2 ⟨t,k2,h2⟩⟩
theorem zqo {x:SItem} (h:x.1≠5):zp6 [x]:=fun y hy=>by rw [List.mem_singleton.1 hy];exact h
theorem pm_ne {d:List SNode} (hd:ROk d) (i:Int):[] ∉ pm d i:=fun h=>pmI_ne hd (1,i,0,0) [] (show []∈pmI d (1,i,0,0) from h) rfl
theorem no_nil {d:List SNode} (hd:ROk d) {i:Int} (h:nw d i=0):[] ∉ hds d [(1,i,0,0)]:=by
 rw [zms,h];simpa using pm_ne hd i
theorem ends_stop {d:List SNode} {m:Int} {b:List Int} {u:List SItem} (hb:b≠[]):u ∉ zc6 d b [(5,0,m,0)]:=by
 cases b with
 | nil=>exact absurd rfl hb
 | cons c w=>
  intro h;obtain ⟨t,h1,h2⟩:=List.mem_flatMap.1 h;obtain ⟨t,k1,k2,k3⟩:=zdw.1 h1;have e1:pmI d (5,0,m,0)=[]:=by simp [pmI]
  have e3:hds d [(5,0,m,0)]=(pmI d (5,0,m,0)).map (·++[])++(List.replicate (nwI d (5,0,m,0)) [[]]).flatten:=rfl;rw [e3,e1] at k1;have:t=[]:=by
   simp at k1;exact k1.2
  subst this;simp [zba] at k2
section
variable {d : List SNode} (hd : ROk d) {i : Int} {n : SNode} (hn : at? d i = some n) {w : List Int} {u : List SItem}
include hd hn
theorem sum_seq (h:n.1=4) (F:List SItem→Nat):zb6 F (hds d [(1,i,0,0)])=zb6 F (hds d ([(1,n.2.1,0,0)]++[(1,n.2.2.1,0,0)])):=by
 have e:=zit hd hn;rw [if_neg (by omega),if_neg (by omega),if_pos h] at e;have e1:pm d i=(pm d n.2.1).map (·++[(1,n.2.2.1,0,0)])++(List.replicate (nw d n.2.1) (pm d n.2.2.1)).flatten:=by
  have:pm d i=(PM d d.length i).1:=rfl;rw [this,e]
 have e2:nw d i=nw d n.2.1*nw d n.2.2.1:=by
  have:nw d i=(PM d d.length i).2:=rfl;rw [this,e]
 rw [zdm,List.singleton_append,zhs,zdm,e1,e2,zet,zd3,zg1,Nat.mul_add,Nat.mul_assoc,Nat.add_assoc]
theorem sum_or (h:n.1=5) (F:List SItem→Nat):zb6 F (hds d [(1,i,0,0)])=zb6 F (hds d [(1,n.2.1,0,0)])+zb6 F (hds d [(1,n.2.2.1,0,0)]):=by
 have e:=zit hd hn;rw [if_neg (by omega),if_neg (by omega),if_neg (by omega),if_pos h] at e;have e1:pm d i=pm d n.2.1++pm d n.2.2.1:=by
  have:pm d i=(PM d d.length i).1:=rfl;rw [this,e]
 have e2:nw d i=nw d n.2.1+nw d n.2.2.1:=by
  have:nw d i=(PM d d.length i).2:=rfl;rw [this,e]
 rw [zdm,zdm,zdm,e1,e2,zet,Nat.add_mul];omega
theorem sum_star (h:n.1=6) (F:List SItem→Nat):zb6 F (hds d [(1,i,0,0)])=zb6 F (hds d [])+zb6 F (hds d ([(1,n.2.1,0,0)]++[(1,i,0,0)])):=by
 have e:=zit hd hn;rw [if_neg (by omega),if_neg (by omega),if_neg (by omega),if_neg (by omega),if_pos h] at e;have e1:pm d i=(pm d n.2.1).map (·++[(1,i,0,0)]):=by
  have:pm d i=(PM d d.length i).1:=rfl;rw [this,e]
 have e2:nw d i=1:=by
  have:nw d i=(PM d d.length i).2:=rfl;rw [this,e]
 have z:=zks hd hn (.inl h);rw [zdm,List.singleton_append,zhs,e1,e2,z,zd3];simp [hds,zb6];omega
def zkv (i:Int) (n:SNode) (t:Nat):SItem:=(2,i,max (n.2.2.2.1-t) 0,n.2.2.2.2.1-t)
omit hd hn in
theorem itemT_next (i:Int) (n:SNode) (t:Nat):((2,i,max (max (n.2.2.2.1-(t:Int)) 0-1) 0,n.2.2.2.2.1-(t:Int)-1):SItem)=zkv i n (t+1):=by
 unfold zkv
 simp only [Prod.mk.injEq,true_and]
 omega
theorem sum_item (h:n.1=7) (lo hi:Int) (F:List SItem→Nat):zb6 F (hds d [(2,i,lo,hi)])=(if lo=0 then F [] else 0)+if 0<hi then zb6 F (hds d ([(1,n.2.1,0,0)]++[(2,i,max (lo-1) 0,hi-1)])) else 0:=by
 have z:=zks hd hn (.inr h);have e1:pmI d (2,i,lo,hi)=if 0<hi then (pm d n.2.1).map (·++[(2,i,max (lo-1) 0,hi-1)]) else []:=by
  unfold pmI;simp [hn]
 have e2:nwI d (2,i,lo,hi)=if lo=0 then 1 else 0:=by simp [nwI]
 simp only [List.singleton_append];rw [zhs,z];have e3:hds d [(2,i,lo,hi)]=(pmI d (2,i,lo,hi)).map (·++[])++(List.replicate (nwI d (2,i,lo,hi)) [[]]).flatten:=rfl;rw [e3,zet,zg1,e1,e2,zd3]
 by_cases h0:lo=0
 ·by_cases h1:0<hi
  ·simp only [if_pos h0,if_pos h1,List.append_nil];rw [zd3];simp [zb6];omega
  ·simp only [if_pos h0,if_neg h1];simp [zb6]
 ·by_cases h1:0<hi
  ·simp only [if_neg h0,if_pos h1,List.append_nil];rw [zd3];simp [zb6]
  ·simp only [if_neg h0,if_neg h1];simp [zb6]
theorem sum_rep (h:n.1=7) (F:List SItem→Nat):zb6 F (hds d [(1,i,0,0)])=zb6 F (hds d [(2,i,n.2.2.2.1,n.2.2.2.2.1)]):=by
 have e:=zit hd hn;rw [if_neg (by omega),if_neg (by omega),if_neg (by omega),if_neg (by omega),if_neg (by omega),if_pos h] at e;have e1:pm d i=if 0<n.2.2.2.2.1 then (pm d n.2.1).map (·++[(2,i,max (n.2.2.2.1-1) 0,n.2.2.2.2.1-1)]) else []:=by
  have:pm d i=(PM d d.length i).1:=rfl;rw [this,e]
 have e2:nw d i=if n.2.2.2.1=0 then 1 else 0:=by
  have:nw d i=(PM d d.length i).2:=rfl;rw [this,e]
 have e3:pmI d (2,i,n.2.2.2.1,n.2.2.2.2.1)=pm d i:=by rw [e1];unfold pmI;simp [hn]
 have e4:nwI d (2,i,n.2.2.2.1,n.2.2.2.2.1)=nw d i:=by rw [e2];simp [nwI]
 have e5:hds d [(2,i,n.2.2.2.1,n.2.2.2.2.1)]=(pmI d (2,i,n.2.2.2.1,n.2.2.2.2.1)).map (·++[])++(List.replicate (nwI d (2,i,n.2.2.2.1,n.2.2.2.2.1)) [[]]).flatten:=rfl;rw [e5,e3,e4];rfl
theorem rch_seq (h:n.1=4) (hr:Rch d [(1,i,0,0)] w u):(∃t,Rch d [(1,n.2.1,0,0)] w t∧u=t++[(1,n.2.2.1,0,0)])∨Rch d [(1,n.2.2.1,0,0)] w u:=by
 obtain ⟨a,v,e,hv,hu⟩:=hr;have hu':u∈zc6 d v ([(1,n.2.1,0,0)]++[(1,n.2.2.1,0,0)]):=zh2 (fun t _ ht=>(mem_sum (sum_seq hd hn h) t).1 ht) hv hu;rcases zlk hd _ _ _ _ hu' with ⟨u',r',h1,h2,h3⟩ | ⟨x,b,r',h1,h2,_,h3,h4⟩
 ·rw [ze6 (zqo (by simp))] at h2;cases h2;exact .inl ⟨u',⟨a,v,e,hv,h1⟩,h3⟩
 ·rw [ze6 (zqo (by simp))] at h3;cases h3;exact .inr ⟨a++x,b,by rw [List.append_assoc,← h1,e],h2,h4⟩
theorem rch_or (h:n.1=5) (hr:Rch d [(1,i,0,0)] w u):Rch d [(1,n.2.1,0,0)] w u∨Rch d [(1,n.2.2.1,0,0)] w u:=by
 obtain ⟨a,v,e,hv,hu⟩:=hr;exact (ends_or (fun t _ ht=>(mem_sum2 (sum_or hd hn h) t).1 ht) hv hu).imp (fun k=>⟨a,v,e,hv,k⟩) fun k=>⟨a,v,e,hv,k⟩
theorem rch_star (h:n.1=6) (hr:Rch d [(1,i,0,0)] w u):∃t,Rch d [(1,n.2.1,0,0)] w t∧u=t++[(1,i,0,0)]:=by
 obtain ⟨a,v,e,hv,hu⟩:=hr;obtain ⟨k,hk⟩:∃k,v.length≤k:=⟨_,Nat.le_refl _⟩
 induction k generalizing a v with
 | zero=>exact absurd (List.length_eq_zero_iff.1 (by omega)) hv
 | succ k ih=>
  have hu':u∈zc6 d v ([(1,n.2.1,0,0)]++[(1,i,0,0)]):=zh2 (fun t ht h1=>((mem_sum2 (sum_star hd hn h) t).1 h1).resolve_left fun h2=>ht (by simpa [hds] using h2)) hv hu;rcases zlk hd _ _ _ _ hu' with ⟨u',r',h1,h2,h3⟩ | ⟨x,b,r',h1,h2,h5,h3,h4⟩
  ·rw [ze6 (zqo (by simp))] at h2;cases h2;exact ⟨u',⟨a,v,e,hv,h1⟩,h3⟩
  ·rw [ze6 (zqo (by simp))] at h3;cases h3;have hx:x≠[]:=fun ex=>no_nil hd (zks hd hn (.inl h)) (h5 ex);have:=List.length_pos_iff.2 hx;have:=congrArg List.length h1;rw [List.length_append] at this;exact ih (a++x) b (by rw [List.append_assoc,← h1,e]) h2 h4 (by omega)
theorem ends_item (h:n.1=7):∀(k:Nat) (v:List Int) (t:Nat) (u:List SItem),v.length≤k→v≠[]→u∈zc6 d v [zkv i n t]→∃(t':Nat) (x b:List Int) (u':List SItem),v=x++b∧b≠[]∧t'≤x.length∧(t:Int)+t' < n.2.2.2.2.1∧u'∈zc6 d b [(1,n.2.1,0,0)]∧u=u'++[zkv i n (t+t'+1)]
 | 0,v,t,u,hk,hv,hu=>absurd (List.length_eq_zero_iff.1 (by omega)) hv
 | k+1,v,t,u,hk,hv,hu=>by
  have hs:=sum_item hd hn h (max (n.2.2.2.1-(t:Int)) 0) (n.2.2.2.2.1-(t:Int))
  by_cases hi:0<n.2.2.2.2.1-(t:Int)
  ·have hu':u∈zc6 d v ([(1,n.2.1,0,0)]++[zkv i n (t+1)]):=by
    refine zh2 (fun z hz h1=>?_) hv hu;rw [← zml] at h1 ⊢;have e1:hds d [zkv i n t]=hds d [(2,i,max (n.2.2.2.1-(t:Int)) 0,n.2.2.2.2.1-(t:Int))]:=rfl;rw [e1,hs,if_pos hi,itemT_next] at h1;have e0:(if ([]:List SItem)=z then 1 else 0)=0:=if_neg fun e=>hz e.symm;rw [e0] at h1;have e00:(if max (n.2.2.2.1-(t:Int)) 0=0 then 0 else 0)=0:=by split <;> rfl
    rw [e00,Nat.zero_add] at h1;exact h1
   rcases zlk hd _ _ _ _ hu' with ⟨u',r',h1,h2,h3⟩ | ⟨x,b,r',h1,h2,h5,h3,h4⟩
   ·rw [ze6 (zqo (by simp [zkv]))] at h2;cases h2;exact ⟨0,[],v,u',rfl,hv,Nat.le_refl _,by omega,h1,h3⟩
   ·rw [ze6 (zqo (by simp [zkv]))] at h3;cases h3;have hx:x≠[]:=fun ex=>no_nil hd (zks hd hn (.inr h)) (h5 ex);have hx0:=List.length_pos_iff.2 hx;have hl:=congrArg List.length h1;rw [List.length_append] at hl;obtain ⟨t',y,c,u',j1,j2,j3,j4,j5,j6⟩:=ends_item h k b (t+1) u (by omega) h2 h4;refine ⟨t'+1,x++y,c,u',by rw [h1,j1,List.append_assoc],j2,by rw [List.length_append];omega,by omega,j5, ?_⟩;rw [j6,show t+1+t'+1=t+(t'+1)+1 by omega]
  ·exfalso;have:u∈zc6 d v []:=by
    refine zh2 (fun z hz h1=>?_) hv hu;rw [← zml] at h1;have e1:hds d [zkv i n t]=hds d [(2,i,max (n.2.2.2.1-(t:Int)) 0,n.2.2.2.2.1-(t:Int))]:=rfl;rw [e1,hs,if_neg hi] at h1;have e0:(if ([]:List SItem)=z then 1 else 0)=0:=if_neg fun e=>hz e.symm;rw [e0] at h1;have e00:(if max (n.2.2.2.1-(t:Int)) 0=0 then 0 else 0)=0:=by split <;> rfl
    rw [e00] at h1;exact absurd rfl h1
   cases v with
   | nil=>exact hv rfl
   | cons c v=>
    obtain ⟨x,h1,h2⟩:=List.mem_flatMap.1 this;obtain ⟨z,k1,k2,k3⟩:=zdw.1 h1;have:z=[]:=by simpa [hds] using k1
    subst this;simp [zba] at k2
theorem rch_rep (h:n.1=7) (hr:Rch d [(1,i,0,0)] w u):∃t:Nat,t<w.length∧(t:Int)<n.2.2.2.2.1∧∃u',Rch d [(1,n.2.1,0,0)] (w.drop t) u'∧u=u'++[zkv i n (t+1)]:=by
 obtain ⟨a,v,e,hv,hu⟩:=hr;have hb:=hd.rep _ n hn h;have hu':u∈zc6 d v [zkv i n 0]:=by
  refine zh2 (fun t _ ht=>?_) hv hu;have h1:=(mem_sum (sum_rep hd hn h) t).1 ht;have:zkv i n 0=(2,i,n.2.2.2.1,n.2.2.2.2.1):=by
   unfold zkv;simp only [Prod.mk.injEq,true_and];omega
  rw [this];exact h1
 obtain ⟨t,x,b,u',h1,h2,h3,h4,h5,h6⟩:=ends_item hd hn h v.length v 0 u (Nat.le_refl _) hv hu';have hb0:=List.length_pos_iff.2 h2;have e1:w=(a++x)++b:=by rw [List.append_assoc,← h1,e]
 have hl:w.length=(a++x).length+b.length:=by rw [e1,List.length_append]
 have hal:x.length≤(a++x).length:=by rw [List.length_append];omega
 refine ⟨t,by omega,by omega,u',⟨(a++x).drop t,b, ?_,h2,h5⟩,by rw [h6,Nat.zero_add]⟩;rw [e1];exact (List.drop_append_of_le_length (l₁:=a++x) (by omega)).symm
omit hn in
theorem ends_held {A c:Int} (hc:0≤c) (hw:w≠[]) (hu:u∈zc6 d w [(1,A,0,0),(5,0,c,0)]):∃u',u'∈zc6 d w [(1,A,0,0)]∧u=u'++[(5,0,c-w.length,0)]:=by
 have e:([(1,A,0,0),(5,0,c,0)]:List SItem)=[(1,A,0,0)]++[(5,0,c,0)]:=rfl
 rw [e] at hu
 rcases zlk hd _ _ _ _ hu with ⟨u',r',h1,h2,h3⟩ | ⟨x,b,r',h1,h2,h5,h3,h4⟩
 ·rw [znj c hc] at h2
  split at h2
  ·cases h2
   exact ⟨u',h1,h3⟩
  ·cases h2
 ·rw [znj c hc] at h3
  split at h3
  ·cases h3
   exact absurd h4 (ends_stop h2)
  ·cases h3
omit hd hn in
theorem zn0 {a:List Int} {c:Int} {v:List Int} (e:a++c::v=w):w.drop (a.length+1)=v∧w.getD a.length 0=c∧w.length=a.length+1+v.length:=by
 subst e
 refine ⟨?_,by simp,by simp;omega⟩
 rw [show a.length+1=(a++[c]).length by simp,show a++c::v=(a++[c])++v by simp,List.drop_left]
theorem rch_frame (h:n.1=8) (hw:∀c∈w,0≤c) (hr:Rch d [(1,i,0,0)] w u):u=[(1,n.2.1,0,0),(5,0,w.getD (w.length-1) 0,0)]∨∃p:Nat,p<w.length-1∧∃u',Rch d [(1,n.2.1,0,0)] (w.drop (p+1)) u'∧u=u'++[(5,0,w.getD p 0-((w.length-(p+1):Nat):Int),0)]:=by
 obtain ⟨a,v,e,hv,hu⟩:=hr;cases v with
 | nil=>exact absurd rfl hv
 | cons c v=>
  obtain ⟨x,h1,h2⟩:=List.mem_flatMap.1 hu;obtain ⟨z,k1,k2,k3⟩:=zdw.1 h1;obtain ⟨e1,e2⟩:=znf hd hn (.inr (.inl h));have e3:hds d [(1,i,0,0)]=[[(1,i,0,0)]]:=by rw [zms,e1,e2];rfl
  rw [e3,List.mem_singleton] at k1;subst k1;have er:zba d [(1,i,0,0)] c=([(1,n.2.1,0,0),(5,0,c,0)],true):=by
   unfold zba;simp only [hn];rw [if_neg (by simp [zds]),if_neg (by decide),if_neg (by decide),if_pos h];rfl
  rw [er] at k3;simp only at k3;subst k3;obtain ⟨f1,f2,f3⟩:=zn0 e;have hc:0≤c:=hw c (by rw [← e];simp);cases v with
  | nil=>
   left;rw [zc6,List.mem_singleton] at h2;have:w.length-1=a.length:=by rw [f3];simp
   rw [h2,this,f2]
  | cons b v=>
   right;obtain ⟨u',j1,j2⟩:=ends_held hd hc (by simp) h2;refine ⟨a.length,by rw [f3];simp only [List.length_cons];omega,u',⟨[],b::v,by rw [f1];rfl,by simp,j1⟩, ?_⟩;rw [j2,f2]
   congr 5
   rw [f3];omega
theorem rch_wide (h:n.1=9) (hw:∀c∈w,0≤c) (hr:Rch d [(1,i,0,0)] w u):u=[(4,i,w.getD (w.length-1) 0,0)]∨u=[(1,n.2.1,0,0),(5,0,256*w.getD (w.length-2) 0+w.getD (w.length-1) 0,0)]∧2≤w.length ∨
  ∃p:Nat,p<w.length-2∧∃u',Rch d [(1,n.2.1,0,0)] (w.drop (p+2)) u'∧u=u'++[(5,0,256*w.getD p 0+w.getD (p+1) 0-((w.length-(p+2):Nat):Int),0)]:=by
 obtain ⟨a,v,e,hv,hu⟩:=hr;cases v with
 | nil=>exact absurd rfl hv
 | cons c v=>
  obtain ⟨x,h1,h2⟩:=List.mem_flatMap.1 hu;obtain ⟨z,k1,k2,k3⟩:=zdw.1 h1;obtain ⟨e1,e2⟩:=znf hd hn (.inr (.inr h));have e3:hds d [(1,i,0,0)]=[[(1,i,0,0)]]:=by rw [zms,e1,e2];rfl
  rw [e3,List.mem_singleton] at k1;subst k1;have er:zba d [(1,i,0,0)] c=([(4,i,c,0)],true):=by
   unfold zba;simp only [hn];rw [if_neg (by simp [zds]),if_neg (by decide),if_neg (by decide),if_neg (by omega),if_pos h];rfl
  rw [er] at k3;simp only at k3;subst k3;obtain ⟨f1,f2,f3⟩:=zn0 e;have hc:0≤c:=hw c (by rw [← e];simp);cases v with
  | nil=>
   left;rw [zc6,List.mem_singleton] at h2;have:w.length-1=a.length:=by rw [f3];simp
   rw [h2,this,f2]
  | cons b v=>
   right;have hb:0≤b:=hw b (by rw [← e];simp);obtain ⟨x,h1,h2⟩:=List.mem_flatMap.1 h2;obtain ⟨z,k1,k2,k3⟩:=zdw.1 h1;have e4:hds d [(4,i,c,0)]=[[(4,i,c,0)]]:=by
    have e1:pmI d (4,i,c,0)=[[(4,i,c,0)]]:=by simp [pmI]
    have e2:nwI d (4,i,c,0)=0:=by simp [nwI]
    have e3:hds d [(4,i,c,0)]=(pmI d (4,i,c,0)).map (·++[])++(List.replicate (nwI d (4,i,c,0)) [[]]).flatten:=rfl;rw [e3,e1,e2];rfl
   rw [e4,List.mem_singleton] at k1;subst k1;have er:zba d [(4,i,c,0)] b=([(1,n.2.1,0,0),(5,0,256*c+b,0)],true):=by
    unfold zba;simp only [hn];rw [if_neg (by simp [zds]),if_neg (by decide),if_pos trivial];rfl
   rw [er] at k3;simp only at k3;subst k3;have e':(a++[c])++b::v=w:=by rw [← e];simp
   obtain ⟨g1,g2,g3⟩:=zn0 e';have hal:(a++[c]).length=a.length+1:=by simp
   rw [hal] at g1 g2 g3;cases v with
   | nil=>
    left;rw [zc6,List.mem_singleton] at h2;have t1:w.length-1=a.length+1:=by rw [g3];simp
    have t2:w.length-2=a.length:=by rw [g3];simp
    refine ⟨by rw [h2,t1,t2,f2,g2],by rw [g3];omega⟩
   | cons q v=>
    right;obtain ⟨u',j1,j2⟩:=ends_held hd (by omega) (by simp) h2;refine ⟨a.length,by rw [g3];simp only [List.length_cons];omega,u',⟨[],q::v,by rw [g1];rfl,by simp,j1⟩, ?_⟩;rw [j2,f2,g2]
    congr 5
    rw [g3];omega
theorem rch_bytes (h:n.1=2) (hr:Rch d [(1,i,0,0)] w u):u=[]:=by
 obtain ⟨a,v,e,hv,hu⟩:=hr;cases v with
 | nil=>exact absurd rfl hv
 | cons c v=>
  obtain ⟨x,h1,h2⟩:=List.mem_flatMap.1 hu;obtain ⟨z,k1,k2,k3⟩:=zdw.1 h1;obtain ⟨e1,e2⟩:=znf hd hn (.inl h);have e3:hds d [(1,i,0,0)]=[[(1,i,0,0)]]:=by rw [zms,e1,e2];rfl
  rw [e3,List.mem_singleton] at k1;subst k1;have er:zba d [(1,i,0,0)] c=if n.2.2.2.2.2.1.has c.toNat=true then ([],true) else ([],false):=by
   unfold zba;simp only [hn];rw [if_neg (by simp [zds]),if_neg (by decide),if_neg (by decide),if_neg (by omega),if_neg (by omega)];rfl
  have ex:x=[]:=by rw [← k3,er];split <;> rfl
  subst ex;cases v with
  | nil=>rwa [zc6,List.mem_singleton] at h2
  | cons b v=>
   obtain ⟨x,h1,h2⟩:=List.mem_flatMap.1 h2;obtain ⟨z,k1,k2,k3⟩:=zdw.1 h1;have:z=[]:=by simpa [hds] using k1
   subst this;simp [zba] at k2
theorem rch_empty (h:n.1=1):¬ Rch d [(1,i,0,0)] w u:=by
 rintro ⟨a,v,e,hv,hu⟩;cases v with
 | nil=>exact absurd rfl hv
 | cons c v=>
  obtain ⟨x,h1,h2⟩:=List.mem_flatMap.1 hu;obtain ⟨z,k1,k2,k3⟩:=zdw.1 h1;have e:=zit hd hn;rw [if_pos h] at e;have e1:pm d i=[]:=by unfold pm;rw [e]
  rw [zms,e1] at k1;have:z=[]:=by simp at k1;exact k1.2
  subst this;simp [zba] at k2
omit hd in
theorem ends_text:∀(v:List Int) (lo:Nat) (u:List SItem),u∈zc6 d v [(3,i,(lo:Int),0)]→lo<n.2.2.2.2.2.2.length→lo+v.length≤n.2.2.2.2.2.2.length∧u=if lo+v.length<n.2.2.2.2.2.2.length then [(3,i,((lo+v.length:Nat):Int),0)] else []
 | [],lo,u,hu,hlo=>by
  rw [zc6,List.mem_singleton] at hu
  rw [List.length_nil,Nat.add_zero,if_pos hlo]
  exact ⟨by omega,hu⟩
 | c::v,lo,u,hu,hlo=>by
  obtain ⟨x,h1,h2⟩:=List.mem_flatMap.1 hu
  obtain ⟨z,k1,k2,k3⟩:=zdw.1 h1
  have e4:hds d [(3,i,(lo:Int),0)]=[[(3,i,(lo:Int),0)]]:=by
   have e1:pmI d (3,i,(lo:Int),0)=[[(3,i,(lo:Int),0)]]:=by simp [pmI]
   have e2:nwI d (3,i,(lo:Int),0)=0:=by simp [nwI]
   have e3:hds d [(3,i,(lo:Int),0)]=(pmI d (3,i,(lo:Int),0)).map (·++[])++(List.replicate (nwI d (3,i,(lo:Int),0)) [[]]).flatten:=rfl
   rw [e3,e1,e2];rfl
  rw [e4,List.mem_singleton] at k1
  subst k1
  have hr:zba d [(3,i,(lo:Int),0)] c=if zd9 n.2.2.2.2.2.2 (lo:Int)=some c then (if (lo:Int)+1<(n.2.2.2.2.2.2.length:Int) then [(3,i,(lo:Int)+1,0)] else [],true) else ([],false):=by
   unfold zba
   simp only [hn]
   rw [if_neg (by simp [zds]),if_pos trivial]
   split
   ·split <;> rfl
   ·rfl
  have hb:zd9 n.2.2.2.2.2.2 (lo:Int)=some c:=by
   rcases Classical.em (zd9 n.2.2.2.2.2.2 (lo:Int)=some c) with h | h
   ·exact h
   ·rw [hr,if_neg h] at k2;cases k2
  rw [hr,if_pos hb] at k3
  simp only at k3
  by_cases hl:lo+1<n.2.2.2.2.2.2.length
  ·rw [if_pos (by omega)] at k3
   have ex:x=[(3,i,((lo+1:Nat):Int),0)]:=by rw [← k3];congr 1
   rw [ex] at h2
   obtain ⟨j1,j2⟩:=ends_text v (lo+1) u h2 hl
   rw [List.length_cons,show lo+(v.length+1)=lo+1+v.length by omega]
   exact ⟨j1,j2⟩
  ·rw [if_neg (by omega)] at k3
   subst k3
   cases v with
   | nil=>
    rw [zc6,List.mem_singleton] at h2
    simp only [List.length_cons,List.length_nil]
    rw [if_neg (by omega)]
    exact ⟨by omega,h2⟩
   | cons b v=>
    exfalso
    obtain ⟨x,h1,h2⟩:=List.mem_flatMap.1 h2
    obtain ⟨z,k1,k2,k3⟩:=zdw.1 h1
    have:z=[]:=by simpa [hds] using k1
    subst this
    simp [zba] at k2
theorem rch_text (h:n.1=3) (hr:Rch d [(1,i,0,0)] w u):∃k:Nat,k<w.length∧k<n.2.2.2.2.2.2.length∧u=if k+1<n.2.2.2.2.2.2.length then [(3,i,((k+1:Nat):Int),0)] else []:=by
 obtain ⟨a,v,e,hv,hu⟩:=hr;have hlo:0<n.2.2.2.2.2.2.length:=List.length_pos_iff.2 (hd.ntx _ n hn h);have e0:=zit hd hn;rw [if_neg (by omega),if_pos h] at e0;have e1:pm d i=[[(3,i,0,0)]]:=by
  have:pm d i=(PM d d.length i).1:=rfl;rw [this,e0]
 have e2:nw d i=0:=by
  have:nw d i=(PM d d.length i).2:=rfl;rw [this,e0]
 have hu':u∈zc6 d v [(3,i,((0:Nat):Int),0)]:=by
  refine zh2 (fun t _ ht=>?_) hv hu;rw [zms,e1,e2] at ht;have e3:pmI d (3,i,((0:Nat):Int),0)=[[(3,i,0,0)]]:=by simp [pmI]
  have e4:nwI d (3,i,((0:Nat):Int),0)=0:=by simp [nwI]
  have e5:hds d [(3,i,((0:Nat):Int),0)]=(pmI d (3,i,((0:Nat):Int),0)).map (·++[])++(List.replicate (nwI d (3,i,((0:Nat):Int),0)) [[]]).flatten:=rfl;rw [e5,e3,e4];simpa using ht
 obtain ⟨h1,h2⟩:=ends_text hn v 0 u hu' hlo;have hv0:=List.length_pos_iff.2 hv;have hl:=congrArg List.length e;rw [List.length_append] at hl;refine ⟨v.length-1,by omega,by omega, ?_⟩;rw [h2,show 0+v.length=v.length-1+1 by omega]
end
end Go.Proofs.YtjdaaiodniicoaaGreatDoor.V
namespace Go.Proofs.YtjdaaiodniicoaaGreatDoor.V
open Go
set_option linter.unusedVariables false
theorem rch_len {d:List SNode} (hd:ROk d) {f i:Int} (h:Tr d f i):∀(w:List Int) (u:List SItem),(∀c∈w,0≤c)→Rch d [(1,i,0,0)] w u→u.length≤(i-f+1).toNat:=by
 induction h with
 | leaf he hk hx h0=>
  rename_i i e
  intro w u hw hu;rcases hk with k | k | k
  ·exact absurd hu (rch_empty hd he k)
  ·rw [rch_bytes hd he k hu];simp
  ·obtain ⟨j,_,_,h2⟩:=rch_text hd he k hu;rw [h2];split <;> simp
 | one he hk ha hb hr h ih=>
  rename_i f i e
  intro w u hw hu;have hle:=h.le;have hdr:∀p,∀c∈w.drop p,0≤c:=fun p c hc=>hw c (List.mem_of_mem_drop hc);rcases hk with k | k | k | k
  ·obtain ⟨t,h1,rfl⟩:=rch_star hd he k hu;rw [ha] at h1;have:=ih w t hw h1;simp;omega
  ·obtain ⟨t,_,_,u',h1,rfl⟩:=rch_rep hd he k hu;rw [ha] at h1;have:=ih _ u' (hdr t) h1;simp;omega
  ·rcases rch_frame hd he k hw hu with rfl | ⟨p,_,u',h1,rfl⟩
   ·simp;omega
   ·rw [ha] at h1;have:=ih _ u' (hdr _) h1;simp;omega
  ·rcases rch_wide hd he k hw hu with rfl | ⟨rfl,_⟩ | ⟨p,_,u',h1,rfl⟩
   ·simp;omega
   ·simp;omega
   ·rw [ha] at h1;have:=ih _ u' (hdr _) h1;simp;omega
 | two he hk ha hb h1 h2 i1 i2=>
  rename_i f p i e
  intro w u hw hu;have l1:=h1.le;have l2:=h2.le;rcases hk with k | k
  ·rcases rch_seq hd he k hu with ⟨t,h1,rfl⟩ | h1
   ·rw [ha] at h1;have:=i2 w t hw h1;simp;omega
   ·rw [hb] at h1;have:=i1 w u hw h1;omega
  ·rcases rch_or hd he k hu with h1 | h1
   ·rw [ha] at h1;have:=i2 w u hw h1;omega
   ·rw [hb] at h1;have:=i1 w u hw h1;omega
theorem after_sm {d:List SNode} (h:Rt d) (hl:d.length≤24) (ht:∀n∈d,n.2.2.2.2.2.2.length≤140737488351232) {w:List Int} (hw:∀c∈w,InR .u8 c) {u:List SItem} (hu:u∈zc6 d w [(1,(d.length:Int)-1,0,0)]):Sm d u∧u.length≤24:=by
 have hpos:0<d.length:=List.length_pos_iff.2 h.ne;have hsome:∃n,at? d ((d.length:Int)-1)=some n:=by
  have e:(d.length:Int)-1=((d.length-1:Nat):Int):=by omega
  rw [e,zbm];exact ⟨_,List.getElem?_eq_getElem (show d.length-1<d.length by omega)⟩
 have hf:zd6 d [(1,(d.length:Int)-1,0,0)]=true:=zfi (zhb hsome) rfl;have hform:=(ends_ok h.toROk w _ hw hf u hu).1;have hlen:u.length≤24:=by
  cases w with
  | nil=>
   rw [zc6,List.mem_singleton] at hu;subst hu;simp
  | cons c w=>
   have:=rch_len h.toROk h.tr (c::w) u (fun c' hc'=>(zfm.1 (hw c' hc')).1) ⟨[],c::w,rfl,by simp,hu⟩;omega
 exact ⟨⟨h,hl,ht,hform,by omega⟩,hlen⟩
theorem on_step {d:List SNode} {s:List SItem} (h:Sm d s) {c:Int} (hc:InR .u8 c):∃o,zbo d s c o∧zev d s c o∧Can (fun t=>(zct d c s).count t) o:=by
 obtain ⟨B,R,_,b3,o1,o2,o3⟩:=on_both h hc;exact ⟨R,o1,o2,o3.congr fun t=>fB_step b3 c t⟩
section
variable {α : Type}
theorem ziz {A B:List α} {x:α} {i:Int} (h:i=(A.length:Int)):at? (A++x::B) i=some x:=by
 subst h;rw [zbm];simp
theorem zid {A B:List α} {x y:α} {i:Int} (h:i=(A.length:Int)):(A++x::B).set i.toNat y=A++y::B:=by
 subst h;rw [Int.toNat_natCast]
 induction A with
 | nil=>rfl
 | cons a A ih=>simp only [List.length_cons,List.cons_append,List.set_cons_succ,ih]
def SEq (key:α→Int) (l l':List α):Prop:=∀c,l.filter (fun x=>key x==c)=l'.filter (fun x=>key x==c)
theorem SEq.refl (key:α→Int) (l:List α):SEq key l l:=fun _=>rfl
theorem SEq.trans {key:α→Int} {a b c:List α} (h:SEq key a b) (k:SEq key b c):SEq key a c:=fun x=>(h x).trans (k x)
theorem SEq.symm {key:α→Int} {a b:List α} (h:SEq key a b):SEq key b a:=fun x=>(h x).symm
theorem SEq.app {key:α→Int} {a b c d:List α} (h:SEq key a b) (k:SEq key c d):SEq key (a++c) (b++d):=fun x=>by rw [List.filter_append,List.filter_append,h x,k x]
theorem SEq.length {key:α→Int} {a b:List α} (h:SEq key a b):a.length=b.length:=by
 have hp:a.Perm b:=by
  classical
  refine List.perm_iff_count.2 fun x=>?_;have h1:∀l:List α,l.count x=(l.filter (fun y=>key y==key x)).count x:=fun l=>by
   rw [List.count_filter];simp
  rw [h1 a,h1 b,h (key x)]
 exact hp.length_eq
theorem SEq.perm {key:α→Int} {a b:List α} (h:SEq key a b):a.Perm b:=by
 classical
 refine List.perm_iff_count.2 fun x=>?_;have h1:∀l:List α,l.count x=(l.filter (fun y=>key y==key x)).count x:=fun l=>by
  rw [List.count_filter];simp
 rw [h1 a,h1 b,h (key x)]
theorem zjy {key:α→Int} {X Y:List α} (h:∀x∈X,∀y∈Y,key x≠key y):SEq key (X++Y) (Y++X):=fun c=>by
 rw [List.filter_append,List.filter_append]
 by_cases hx:X.filter (fun x=>key x==c)=[]
 ·rw [hx];simp
 ·have hy:Y.filter (fun x=>key x==c)=[]:=by
   rw [List.filter_eq_nil_iff];intro y hy hyc;obtain ⟨x,hxm⟩:=List.exists_mem_of_ne_nil _ hx;rw [List.mem_filter] at hxm;exact h x hxm.1 y hy (by rw [eq_of_beq hxm.2,eq_of_beq hyc])
  rw [hy];simp
def Srt (key:α→Int) (l:List α):Prop:=l.Pairwise fun x y=>key x≤key y
theorem Srt.app {key:α→Int} {a b:List α}:Srt key (a++b)↔Srt key a∧Srt key b∧∀x∈a,∀y∈b,key x≤key y:=List.pairwise_append
theorem Srt.cons {key:α→Int} {x:α} {b:List α}:Srt key (x::b)↔(∀y∈b,key x≤key y)∧Srt key b:=List.pairwise_cons
theorem srtc_uniq {key:α→Int}:∀{a b:List α},Srt key a→Srt key b→SEq key a b→a=b
 | [],b,_,_,h=>(List.eq_nil_of_length_eq_zero h.length.symm).symm
 | x::a,[],_,_,h=>absurd h.length (by simp)
 | x::a,y::b,ha,hb,h=>by
  obtain ⟨ha1,ha2⟩:=Srt.cons.1 ha;obtain ⟨hb1,hb2⟩:=Srt.cons.1 hb;have hp:=h.perm;have hxy:key x=key y:=by
   have h1:x∈y::b:=hp.mem_iff.1 (by simp);have h2:y∈x::a:=hp.mem_iff.2 (by simp);have e1:key y≤key x:=by
    rcases List.mem_cons.1 h1 with rfl | h1
    ·exact Int.le_refl _
    ·exact hb1 x h1
   have e2:key x≤key y:=by
    rcases List.mem_cons.1 h2 with rfl | h2
    ·exact Int.le_refl _
    ·exact ha1 y h2
   omega
  have h3:=h (key x);rw [List.filter_cons_of_pos (by simp),List.filter_cons_of_pos (by simp [hxy])] at h3;have e:=List.cons.inj h3;obtain ⟨rfl,_⟩:=e;refine congrArg _ (srtc_uniq ha2 hb2 fun c=>?_);have h4:=h c
  by_cases hc:key x=c
  ·rw [List.filter_cons_of_pos (by simp [hc]),List.filter_cons_of_pos (by simp [hc])] at h4;exact (List.cons.inj h4).2
  ·rw [List.filter_cons_of_neg (by simp [hc]),List.filter_cons_of_neg (by simp [hc])] at h4;exact h4
def srt (key:α→Int) (l:List α):List α:=l.mergeSort fun x y=>decide (key x≤key y)
theorem zi8 (key:α→Int) (l:List α):Srt key (srt key l):=by
 have:=List.pairwise_mergeSort (le:=fun x y=>decide (key x≤key y)) (fun a b c h1 h2=>by simp at *;omega) (fun a b=>by simp;omega) l;exact this.imp fun h=>by simpa using h
theorem zgv (key:α→Int) (l:List α):SEq key l (srt key l):=fun c=>by
 have hp:(srt key l).Perm l:=List.mergeSort_perm l _;have hsub:(l.filter fun x=>key x==c).Sublist (srt key l):=by
  refine List.sublist_mergeSort (le:=fun x y=>decide (key x≤key y)) (fun a b c h1 h2=>by simp at *;omega) (fun a b=>by simp;omega) ?_ List.filter_sublist;refine List.Pairwise.imp_of_mem (R:=fun _ _=>True) ?_ (List.pairwise_of_forall fun _ _=>trivial);intro a b ha hb _;have h1:=(List.mem_filter.1 ha).2;have h2:=(List.mem_filter.1 hb).2;simp at h1 h2;simp;omega
 have h2:=hsub.filter (fun x=>key x==c);rw [List.filter_filter] at h2;simp only [Bool.and_self] at h2;exact h2.eq_of_length (hp.filter _).length_eq.symm
theorem ziv {key:α→Int} {l q:List α} (hq:Srt key q) (h:SEq key l q):q=srt key l:=srtc_uniq hq (zi8 key l) (h.symm.trans (zgv key l))
theorem zhe (key:α→Int) (l:List α):(srt key l).length=l.length:=(zgv key l).length.symm
theorem zft (l:List α) {n:Nat} (h:n≤l.length):∃A B,l=A++B∧A.length=n:=⟨l.take n,l.drop n,(List.take_append_drop n l).symm,by simp;omega⟩
theorem snoc_of {l:List α} (h:l≠[]):∃A x,l=A++[x]:=⟨l.dropLast,l.getLast h,(List.dropLast_concat_getLast h).symm⟩
end
theorem zf8 {i j:Int} (h0:0≤i+j) (h1:i+j<9223372036854775808):IntKind.wrap .i64 (zqk (IntKind.wrap .u64 (i+j)) 1)=(i+j) / 2:=by
 rw [zm9,show (i+j) % 18446744073709551616=i+j by omega];have:zqk (i+j) 1=(i+j) / 2:=by
  unfold zqk;simp
 rw [this];simp [IntKind.wrap,IntKind.signed,IntKind.bits];omega
theorem bsearch {P:Nat→Int→Int→Prop} (pr:Nat→Bool) (lo hi:Nat) (hmono:∀c d,lo≤c→c≤d→d<hi→pr d=true→pr c=true)
  (hstep:∀k (i j:Nat),lo≤i→i<j→j≤hi→(pr ((i+j) / 2)=true→P k (((i+j) / 2+1:Nat):Int) (j:Int)→P (k+1) (i:Int) (j:Int))∧(pr ((i+j) / 2)=false→P k (i:Int) (((i+j) / 2:Nat):Int)→P (k+1) (i:Int) (j:Int)))
  (hexit:∀k (i:Nat),lo≤i→i≤hi→(∀c,lo≤c→c<i→pr c=true)→(∀c,i≤c→c<hi→pr c=false)→P (k+1) (i:Int) (i:Int)) (hle:lo≤hi):∃k,P k (lo:Int) (hi:Int):=by
 have key:∀(f i j:Nat),j-i≤f→lo≤i→i≤j→j≤hi→(∀c,lo≤c→c<i→pr c=true)→(∀c,j≤c→c<hi→pr c=false)→∃k,P k (i:Int) (j:Int):=by
  intro f
  induction f with
  | zero=>
   intro i j hf h1 h2 h3 h4 h5;have:i=j:=by omega
   subst this;exact ⟨1,hexit 0 i h1 h3 h4 h5⟩
  | succ f ih=>
   intro i j hf h1 h2 h3 h4 h5
   by_cases hij:i=j
   ·subst hij;exact ⟨1,hexit 0 i h1 h3 h4 h5⟩
   ·have hlt:i<j:=by omega
    cases hp:pr ((i+j) / 2)
    ·obtain ⟨k,hk⟩:=ih i ((i+j) / 2) (by omega) h1 (by omega) (by omega) h4 (fun c hc1 hc2=>by
      cases hpc:pr c
      ·rfl
      ·have:=hmono ((i+j) / 2) c (by omega) hc1 hc2 hpc;rw [this] at hp;cases hp)
     exact ⟨k+1,(hstep k i j h1 hlt h3).2 hp hk⟩
    ·obtain ⟨k,hk⟩:=ih ((i+j) / 2+1) j (by omega) (by omega) (by omega) h3 (fun c hc1 hc2=>hmono c ((i+j) / 2) hc1 (by omega) (by omega) hp) h5;exact ⟨k+1,(hstep k i j h1 hlt h3).1 hp hk⟩
 exact key (hi-lo) lo hi (Nat.le_refl _) (Nat.le_refl _) hle (Nat.le_refl _) (fun c h1 h2=>by omega) (fun c h1 h2=>by omega)
end Go.Proofs.YtjdaaiodniicoaaGreatDoor.V
namespace Go.Proofs.YtjdaaiodniicoaaGreatDoor.V
open Go
set_option linter.unusedVariables false
def lk0 (p:Cl):Int:=p.least.1
def zg9 (a p:Cl):List Cl:=[p &&& a,p &&& ~~~ a].filter fun q=>decide (0<q.count)
def zn6 (ps:List Cl) (a:Cl):List Cl:=srt lk0 (ps.flatMap (zg9 a))
def zg2 (l:List Cl):List Cl:=l.foldl zn6 [~~~ (0#256)]
def zqj (l:List Cl):List Int:=(zg2 l).map lk0
def zkc (l:List Cl) (c d:Nat):Bool:=l.all fun a=>a.has c==a.has d
def part (l:List Cl) (c:Nat):Cl:=Cl.of (zkc l c)
def zgg (l:List Cl):List Nat:=(List.range 256).filter fun c=>(List.range c).all fun d=>!zkc l d c
def parts (l:List Cl):List Cl:=(zgg l).map (part l)
theorem zoy (l:List Cl) (c:Nat):zkc l c c=true:=by simp [zkc]
theorem zlf {l:List Cl} {c d:Nat} (h:zkc l c d=true):zkc l d c=true:=by
 unfold zkc at *;rw [List.all_eq_true] at *;intro a ha;have:=h a ha;rw [beq_iff_eq] at *;exact this.symm
theorem zj3 {l:List Cl} {c d e:Nat} (h:zkc l c d=true) (k:zkc l d e=true):zkc l c e=true:=by
 unfold zkc at *;rw [List.all_eq_true] at *;intro a ha;have h1:=h a ha;have h2:=k a ha;rw [beq_iff_eq] at *;exact h1.trans h2
theorem zem {l:List Cl} {c d:Nat} (h:d<256):(part l c).has d=zkc l c d:=Cl.of_has _ h
theorem zgx {l:List Cl} {c:Nat}:c∈zgg l↔c<256∧∀d,d<c→zkc l d c=false:=by
 simp [zgg]
theorem part_eq {l:List Cl} {c d:Nat} (h:zkc l c d=true):part l c=part l d:=by
 apply Cl.ext;intro e he;rw [zem he,zem he];cases h1:zkc l d e
 ·cases h2:zkc l c e
  ·rfl
  ·rw [zj3 (zlf h) h2] at h1;cases h1
 ·exact zj3 h h1
theorem zr0 {p:Cl} (h:0<p.count):∃n:Nat,n<256∧p.least=((n:Int),true)∧p.has n=true∧∀m,m<n→p.has m=false:=by
 cases hl:p.least.2
 ·have h0:=least_none hl;have:p.count=0:=by
   unfold Cl.count;rw [List.countP_eq_zero];intro m hm;rw [h0 m (by simpa using hm)];simp
  omega
 ·obtain ⟨n,hn⟩:∃n:Nat,p.least=((n:Int),true):=by
   unfold Cl.least at hl ⊢;split
   ·exact ⟨_,rfl⟩
   ·rename_i hn;rw [hn] at hl;simp at hl
  obtain ⟨h1,h2,h3⟩:=least_some hn;exact ⟨n,h1,hn,h2,h3⟩
theorem count_pos {p:Cl} {n:Nat} (hn:n<256) (h:p.has n=true):0<p.count:=by
 unfold Cl.count;rw [List.countP_pos_iff];exact ⟨n,by simpa using hn,h⟩
theorem head_of {l:List Cl} {c:Nat} (hc:c<256):∃h,h∈zgg l∧h≤c∧zkc l h c=true:=by
 obtain ⟨h,⟨h1,h2⟩,h3⟩:=exists_least (p:=fun d=>d≤c∧zkc l d c=true) ⟨c,Nat.le_refl _,zoy l c⟩;refine ⟨h,zgx.2 ⟨by omega,fun d hd=>?_⟩,h1,h2⟩;cases hl:zkc l d h
 ·rfl
 ·have:=h3 d ⟨by omega,zj3 hl h2⟩;omega
theorem least_part {l:List Cl} {h:Nat} (hh:h∈zgg l):(part l h).least=((h:Int),true):=by
 obtain ⟨h1,h2⟩:=zgx.1 hh;refine least_of h1 (by rw [zem h1];exact zoy l h) fun m hm=>?_;rw [zem (by omega)];cases hl:zkc l h m
 ·rfl
 ·have:=h2 m hm;rw [zlf hl] at this;cases this
theorem lk_part {l:List Cl} {h:Nat} (hh:h∈zgg l):lk0 (part l h)=(h:Int):=by rw [lk0,least_part hh]
theorem zmr (l:List Cl):(zgg l).Pairwise (· < ·):=(List.pairwise_lt_range).filter _
theorem parts_lk (l:List Cl):(parts l).map lk0=(zgg l).map (fun n:Nat=>(n:Int)):=by
 unfold parts;rw [List.map_map];exact List.map_congr_left fun h hh=>lk_part hh
theorem parts_srt (l:List Cl):Srt lk0 (parts l):=by
 have h1:(zgg l).Pairwise fun a b=>lk0 (part l a)≤lk0 (part l b):=by
  refine (List.pairwise_iff_getElem.2 fun i j hi hj hij=>?_);rw [lk_part (List.getElem_mem hi),lk_part (List.getElem_mem hj)];have:=List.pairwise_iff_getElem.1 (zmr l) i j hi hj hij;omega
 exact List.pairwise_map.2 h1
theorem seq_of_mem {α:Type} {key:α→Int} {X Y:List α} (hX:(X.map key).Nodup) (hY:(Y.map key).Nodup) (h:∀x,x∈X↔x∈Y):SEq key X Y:=fun c=>by
 have one:∀{Z:List α},(Z.map key).Nodup→∀x∈Z,key x=c→Z.filter (fun z=>key z==c)=[x]:=by
  intro Z
  induction Z with
  | nil=>intro _ x hx;cases hx
  | cons z Z ih=>
   intro hn x hx hk;rw [List.map_cons,List.nodup_cons] at hn;rcases List.mem_cons.1 hx with rfl | hx
   ·rw [List.filter_cons_of_pos (by simp [hk])]
    congr 1
    rw [List.filter_eq_nil_iff];intro y hy hyc;exact hn.1 (List.mem_map.2 ⟨y,hy,by rw [hk];simpa using hyc⟩)
   ·rw [List.filter_cons_of_neg,ih hn.2 x hx hk];intro hz;exact hn.1 (List.mem_map.2 ⟨x,hx,by rw [hk];simpa using (eq_of_beq hz).symm⟩)
 by_cases hex:∃x,x∈X∧key x=c
 ·obtain ⟨x,hx,hk⟩:=hex;rw [one hX x hx hk,one hY x ((h x).1 hx) hk]
 ·have e1:X.filter (fun z=>key z==c)=[]:=by
   rw [List.filter_eq_nil_iff];intro y hy hyc;exact hex ⟨y,hy,by simpa using hyc⟩
  have e2:Y.filter (fun z=>key z==c)=[]:=by
   rw [List.filter_eq_nil_iff];intro y hy hyc;exact hex ⟨y,(h y).2 hy,by simpa using hyc⟩
  rw [e1,e2]
def Disj (p q:Cl):Prop:=∀n,n<256→p.has n=true→q.has n=false
theorem lk_ne {p q:Cl} (hp:0<p.count) (hq:0<q.count) (h:Disj p q):lk0 p≠lk0 q:=by
 obtain ⟨n,n1,n2,n3,n4⟩:=zr0 hp;obtain ⟨m,m1,m2,m3,m4⟩:=zr0 hq;unfold lk0;rw [n2,m2];intro he;have:n=m:=by simp at he;omega
 subst this;rw [h n n1 n3] at m3;cases m3
theorem nodup_lk {X:List Cl} (hd:X.Pairwise Disj) (hc:∀x∈X,0<x.count):(X.map lk0).Nodup:=by
 refine List.pairwise_map.2 ?_;refine hd.imp_of_mem fun {a b} ha hb h=>lk_ne (hc a ha) (hc b hb) h
theorem zh0 {a p x:Cl}:x∈zg9 a p↔(x=p &&& a∨x=p &&& ~~~ a)∧0<x.count:=by
 simp [zg9]
theorem zok {a p x:Cl} (h:x∈zg9 a p) {n:Nat} (hx:x.has n=true):p.has n=true:=by
 rcases (zh0.1 h).1 with rfl | rfl <;> rw [zky] at hx <;> simp at hx <;> exact hx.1
theorem pieces_disj (a p:Cl):(zg9 a p).Pairwise Disj:=by
 unfold zg9;refine List.Pairwise.filter _ ?_;simp only [List.pairwise_cons,List.mem_singleton,forall_eq,List.not_mem_nil,false_implies,implies_true,List.Pairwise.nil,and_true];intro n hn h;rw [zky] at h ⊢;rw [zo2 hn];simp at h ⊢;simp [h.2]
theorem zqm (l:List Cl):(parts l).Pairwise Disj:=by
 unfold parts;refine List.pairwise_map.2 ?_;refine List.pairwise_iff_getElem.2 fun i j hi hj hij n hn h=>?_;have hlt:=List.pairwise_iff_getElem.1 (zmr l) i j hi hj hij;obtain ⟨_,h2⟩:=zgx.1 (List.getElem_mem hj);rw [zem hn] at h ⊢;cases h3:zkc l (zgg l)[j] n
 ·rfl
 ·have:=h2 _ hlt;rw [zj3 h (zlf h3)] at this;cases this
theorem parts_pos {l:List Cl} {p:Cl} (h:p∈parts l):0<p.count:=by
 obtain ⟨c,hc,rfl⟩:=List.mem_map.1 h;have h1:=(zgx.1 hc).1;exact count_pos h1 (by rw [zem h1];exact zoy l c)
theorem flat_disj {ps:List Cl} (h:ps.Pairwise Disj) (a:Cl):(ps.flatMap (zg9 a)).Pairwise Disj:=by
 rw [List.pairwise_flatMap];refine ⟨fun p _=>pieces_disj a p,h.imp fun {p q} hpq x hx y hy n hn hxn=>?_⟩;cases hy':y.has n
 ·rfl
 ·have:=hpq n hn (zok hx hxn);rw [zok hy hy'] at this;cases this
theorem like_snoc (l:List Cl) (a:Cl) (c d:Nat):zkc (l++[a]) c d=(zkc l c d&&(a.has c==a.has d)):=by simp [zkc]
theorem mem_split (l:List Cl) (a x:Cl):x∈(parts l).flatMap (zg9 a)↔x∈parts (l++[a]):=by
 have key:∀h h':Nat,zkc l h h'=true→h' < 256→∀x:Cl,(a.has h'=true∧x=part l h &&& a∨a.has h'=false∧x=part l h &&& ~~~ a)→x=part (l++[a]) h':=by
  intro h h' hh h1 x hx;apply Cl.ext;intro d hd;rw [zem hd,like_snoc];have e:zkc l h' d=zkc l h d:=by
   have:=congrArg (fun p:Cl=>p.has d) (part_eq hh);simp only [zem hd] at this;exact this.symm
  rw [e];rcases hx with ⟨h2,rfl⟩ | ⟨h2,rfl⟩
  ·rw [zky,zem hd,h2];cases a.has d <;> simp
  ·rw [zky,zo2 hd,zem hd,h2];cases a.has d <;> simp
 constructor
 ·intro hx;obtain ⟨p,hp,hxp⟩:=List.mem_flatMap.1 hx;obtain ⟨h,hh,rfl⟩:=List.mem_map.1 hp;obtain ⟨hx1,hx2⟩:=zh0.1 hxp;obtain ⟨n,n1,n2,n3,n4⟩:=zr0 hx2;have hn:=zok hxp n3;rw [zem n1] at hn;have hxe:x=part (l++[a]) n:=key h n hn n1 x (by
   rcases hx1 with rfl | rfl
   ·rw [zky] at n3;simp at n3;exact .inl ⟨n3.2,rfl⟩
   ·rw [zky,zo2 n1] at n3;simp at n3;exact .inr ⟨n3.2,rfl⟩)
  refine List.mem_map.2 ⟨n,zgx.2 ⟨n1,fun d hd=>?_⟩,hxe.symm⟩;cases hl:zkc (l++[a]) d n
  ·rfl
  ·have:=n4 d hd;rw [hxe,zem (by omega),zlf hl] at this;cases this
 ·intro hx;obtain ⟨n,hn,rfl⟩:=List.mem_map.1 hx;have n1:=(zgx.1 hn).1;obtain ⟨h,hh,_,h3⟩:=head_of (l:=l) n1;have hpos:=parts_pos hx;cases ha:a.has n
  ·have e:=key h n h3 n1 _ (.inr ⟨ha,rfl⟩);exact List.mem_flatMap.2 ⟨_,List.mem_map.2 ⟨h,hh,rfl⟩,zh0.2 ⟨.inr e.symm,hpos⟩⟩
  ·have e:=key h n h3 n1 _ (.inl ⟨ha,rfl⟩);exact List.mem_flatMap.2 ⟨_,List.mem_map.2 ⟨h,hh,rfl⟩,zh0.2 ⟨.inl e.symm,hpos⟩⟩
theorem splitR_parts (l:List Cl) (a:Cl):zn6 (parts l) a=parts (l++[a]):=by
 unfold zn6;refine (ziv (parts_srt _) (seq_of_mem ?_ ?_ (mem_split l a))).symm
 ·exact nodup_lk (flat_disj (zqm l) a) fun x hx=>by
   obtain ⟨p,_,hxp⟩:=List.mem_flatMap.1 hx;exact (zh0.1 hxp).2
 ·exact nodup_lk (zqm _) fun x hx=>parts_pos hx
theorem parts_nil:parts []=[~~~ (0#256)]:=by
 have h:zgg []=[0]:=by decide +kernel
 unfold parts;rw [h];simp only [List.map_cons,List.map_nil,List.cons.injEq,and_true];apply Cl.ext;intro c hc;rw [zem hc,zo2 hc,has_zero];rfl
theorem splitP_eq (l:List Cl):zg2 l=parts l:=by
 have:∀(l pre:List Cl),l.foldl zn6 (parts pre)=parts (pre++l):=by
  intro l
  induction l with
  | nil=>intro pre;simp
  | cons a l ih=>intro pre;rw [List.foldl_cons,splitR_parts,ih];simp
 have:=this l [];rw [parts_nil] at this;simpa [zg2] using this
theorem heads_len (l:List Cl):(zgg l).length≤256:=by
 have:=List.length_filter_le (fun c=>(List.range c).all fun d=>!zkc l d c) (List.range 256);simpa [zgg] using this
theorem zn8 (l:List Cl):zqj l=(zgg l).map (fun n:Nat=>(n:Int)):=by rw [zqj,splitP_eq,parts_lk]
abbrev Rs (l:List (List SItem)):Prop:=l.Pairwise (fun a b=>zdu a b<0)
def insS (t:List SItem):List (List SItem)→List (List SItem)
 | []=>[t]
 | c::l=>if zdu t c<0 then t::c::l else if zdu t c=0 then c::l else c::insS t l
def zrc (L:List (List SItem)):List (List SItem):=L.foldr insS []
theorem zr8 {t u:List SItem}:∀{l:List (List SItem)},u∈insS t l↔u=t∨u∈l
 | []=>by simp [insS]
 | c::l=>by
  unfold insS;split
  ·simp
  ·split
   ·rename_i h
    rw [zb8.1 h];simp
   ·rw [List.mem_cons,zr8,List.mem_cons];constructor
    ·rintro (h | h | h)
     ·exact .inr (.inl h)
     ·exact .inl h
     ·exact .inr (.inr h)
    ·rintro (h | h | h)
     ·exact .inr (.inl h)
     ·exact .inl h
     ·exact .inr (.inr h)
theorem insS_srt {t:List SItem}:∀{l:List (List SItem)},Rs l→Rs (insS t l)
 | [],_=>by simp [insS]
 | c::l,h=>by
  unfold insS;have h':=List.pairwise_cons.1 h;split
  ·rename_i h1
   exact List.pairwise_cons.2 ⟨fun x hx=>(List.mem_cons.1 hx).elim (fun e=>by rw [e];exact h1) fun hx=>ze8 h1 (h'.1 x hx),h⟩
  ·split
   ·exact h
   ·rename_i h1 h2
    have h3:zdu c t<0:=by
     have:=zfj t c;omega
    refine List.pairwise_cons.2 ⟨fun x hx=>?_,insS_srt h'.2⟩;rcases zr8.1 hx with rfl | hx
    ·exact h3
    ·exact h'.1 x hx
theorem zcy {u:List SItem}:∀{L:List (List SItem)},u∈zrc L↔u∈L
 | []=>by simp [zrc]
 | t::L=>by
  show u∈insS t (zrc L)↔_;rw [zr8,zcy,List.mem_cons]
theorem zhu:∀L:List (List SItem),Rs (zrc L)
 | []=>List.Pairwise.nil
 | t::L=>insS_srt (zhu L)
theorem zre {l:List (List SItem)} (h:Rs l):l.Nodup:=h.imp fun {a b} h e=>by subst e;exact ziq h
theorem setOf_len {A K:List (List SItem)} (h:∀x∈A,x∈K):(zrc A).length≤K.length:=zkt (zre (zhu A)) fun t ht=>h t (zcy.1 ht)
def onS (d:List SNode) (c:Int) (l:List (List SItem)):List (List SItem):=zrc (l.flatMap (zct d c))
abbrev stS (d:List SNode):List SItem:=[(1,(d.length:Int)-1,0,0)]
def aftS (d:List SNode) (w:List Int):List (List SItem):=w.foldl (fun l c=>onS d c l) [stS d]
theorem zso (d:List SNode):aftS d []=[stS d]:=rfl
theorem zlp (d:List SNode) (w:List Int) (c:Int):aftS d (w++[c])=onS d c (aftS d w):=by unfold aftS;rw [List.foldl_append];rfl
theorem onS_mem {d:List SNode} {c:Int} {l:List (List SItem)} {t:List SItem}:t∈onS d c l↔∃s∈l,t∈zct d c s:=by unfold onS;rw [zcy,List.mem_flatMap]
theorem zq0 {p:List Int→Prop} (h0:p []) (hs:∀w c,p w→p (w++[c])) (w:List Int):p w:=by
 have:∀n (w:List Int),w.length=n→p w:=by
  intro n
  induction n with
  | zero=>intro w hw;rw [List.length_eq_zero_iff.1 hw];exact h0
  | succ n ih=>
   intro w hw;have hne:w≠[]:=fun e=>by subst e;simp at hw
   rw [← List.dropLast_concat_getLast hne];exact hs _ _ (ih _ (by simp [hw]))
 exact this _ w rfl
theorem znq {d:List SNode} {t:List SItem} (w:List Int):t∈aftS d w↔t∈zc6 d w (stS d):=by
 revert t
 refine zq0 (p:=fun w=>∀{t:List SItem},t∈aftS d w↔t∈zc6 d w (stS d)) ?_ ?_ w
 ·intro t;rw [zso,zc6]
 ·intro w c ih t;rw [zlp,onS_mem,zmg,List.mem_flatMap];constructor
  ·rintro ⟨s,h1,h2⟩;exact ⟨s,ih.1 h1,h2⟩
  ·rintro ⟨s,h1,h2⟩;exact ⟨s,ih.2 h1,h2⟩
theorem aftS_srt (d:List SNode) (w:List Int):Rs (aftS d w):=by
 refine zq0 (p:=fun w=>Rs (aftS d w)) ?_ (fun w c _=>?_) w
 ·rw [zso];simp
 ·rw [zlp];exact zhu _
theorem zkz {d:List SNode} (h:Rt d) (hl:d.length≤24) (ht:Txt d) {w:List Int} (hw:∀c∈w,InR .u8 c) {u:List SItem} (hu:u∈aftS d w):Sm d u∧u.length≤24:=after_sm h hl ht hw ((znq w).1 hu)
def canB (d:List SNode) (s:List SItem):List SBranch:=(zrc (hds d s)).map fun t=>(t,sat ((hds d s).count t))
theorem canB_can (d:List SNode) (s:List SItem):Can (fun t=>(hds d s).count t) (canB d s):=by
 refine ⟨List.pairwise_map.2 (zhu _),fun t m=>?_⟩;unfold canB;simp only [List.mem_map,Prod.mk.injEq];constructor
 ·rintro ⟨u,h1,rfl,h2⟩;have:=List.count_pos_iff.2 (zcy.1 h1);exact ⟨by omega,h2.symm⟩
 ·rintro ⟨h1,h2⟩;exact ⟨t,zcy.2 (List.count_pos_iff.1 (by omega)),rfl,h2.symm⟩
def clsA (d:List SNode) (s:List SItem):List Cl:=zlt d (canB d s)
def zsh (d:List SNode) (l:List (List SItem)):List Cl:=l.flatMap (clsA d)
theorem clsA_in {d:List SNode} {s:List SItem} (h:Sm d s):zbh d s (clsA d s)∧zbg d s (clsA d s)∧(clsA d s).length≤256*10001:=by
 obtain ⟨B,b1,b2,b3⟩:=classes_both h;have e:=b1.uniq (canB_can d s);subst e;have:=zno d (canB d s);have:=(h.hok b1).few;exact ⟨b2,b3,by unfold clsA;omega⟩
theorem clsA_mem {d:List SNode} {s t:List SItem} (h:t∈hds d s):∀x∈clsF d t,x∈clsA d s:=fun x hx=>by
 unfold clsA zlt;exact List.mem_flatMap.2 ⟨(t,sat ((hds d s).count t)),List.mem_map.2 ⟨t,zcy.2 h,rfl⟩,hx⟩
theorem step_like {d:List SNode} {s:List SItem} (h:Sm d s) {a b:Int} (ha:InR .u8 a) (hb:InR .u8 b) (hx:∀x∈clsA d s,x.has a.toNat=x.has b.toNat):zct d a s=zct d b s:=by
 have hd:=h.rt.toROk;unfold zct;have key:∀t∈hds d s,zba d t a=zba d t b:=fun t ht=>by
  obtain ⟨L,⟨k,hk⟩,hp⟩:=zqt hd s h.form;obtain ⟨h3,h4⟩:=lv_vs hd (n0:=s.length) k s L hk (Vs.start h.form (Nat.le_refl _)) t (hp.mem_iff.2 ht);exact read_same h3.form h4 ha hb fun x hxx=>hx x (clsA_mem ht x hxx)
 have:∀L:List (List SItem),(∀t∈L,zba d t a=zba d t b)→L.filterMap (fun t=>if (zba d t a).2=true then some (zba d t a).1 else none)=L.filterMap (fun t=>if (zba d t b).2=true then some (zba d t b).1 else none):=by
  intro L
  induction L with
  | nil=>intro _;rfl
  | cons t L ih=>
   intro hL;rw [List.filterMap_cons,List.filterMap_cons,hL t (by simp),ih fun u hu=>hL u (by simp [hu])]
 exact this _ key
def zf6 (l:List Cl):List Cl:=l.foldl (fun o a=>if a∈o then o else o++[a]) []
theorem zj1 (l:List Cl) (a:Cl):zf6 (l++[a])=if a∈zf6 l then zf6 l else zf6 l++[a]:=by unfold zf6;rw [List.foldl_append];rfl
theorem cl_ind {p:List Cl→Prop} (h0:p []) (hs:∀w c,p w→p (w++[c])) (w:List Cl):p w:=by
 have:∀n (w:List Cl),w.length=n→p w:=by
  intro n
  induction n with
  | zero=>intro w hw;rw [List.length_eq_zero_iff.1 hw];exact h0
  | succ n ih=>
   intro w hw;have hne:w≠[]:=fun e=>by subst e;simp at hw
   rw [← List.dropLast_concat_getLast hne];exact hs _ _ (ih _ (by simp [hw]))
 exact this _ w rfl
theorem zhx {x:Cl} (l:List Cl):x∈zf6 l↔x∈l:=by
 refine cl_ind (p:=fun l=>x∈zf6 l↔x∈l) (by simp [zf6]) (fun l a ih=>?_) l;rw [zj1]
 by_cases h:a∈zf6 l
 ·rw [if_pos h,List.mem_append,ih,List.mem_singleton];constructor
  ·exact .inl
  ·rintro (h1 | rfl)
   ·exact h1
   ·exact ih.1 h
 ·rw [if_neg h,List.mem_append,List.mem_append,ih]
theorem zon (l:List Cl):(zf6 l).Nodup:=by
 refine cl_ind (p:=fun l=>(zf6 l).Nodup) (by simp [zf6]) (fun l a ih=>?_) l;rw [zj1];split
 ·exact ih
 ·rename_i h
  rw [List.nodup_append];exact ⟨ih,by simp,fun x hx y hy e=>by rw [List.mem_singleton.1 hy] at e;subst e;exact h hx⟩
theorem like_mem {l m:List Cl} (h:∀x,x∈l↔x∈m) (c e:Nat):zkc l c e=zkc m c e:=by
 unfold zkc;rw [Bool.eq_iff_iff,List.all_eq_true,List.all_eq_true];exact ⟨fun k x hx=>k x ((h x).2 hx),fun k x hx=>k x ((h x).1 hx)⟩
theorem splitH_mem {l m:List Cl} (h:∀x,x∈l↔x∈m):zqj l=zqj m:=by
 rw [zn8,zn8];have:zgg l=zgg m:=by
  unfold zgg;refine List.filter_congr fun c _=>?_
  congr 1
  funext d;rw [like_mem h]
 rw [this]
def bytC (l:List Cl):List Int:=zqj (zf6 l)
def bytS (d:List SNode) (l:List (List SItem)):List Int:=bytC (zsh d l)
theorem zsl (l:List Cl):bytC l=(zgg l).map fun n:Nat=>(n:Int):=by
 unfold bytC;rw [splitH_mem (m:=l) fun x=>zhx l,zn8]
theorem bytC_len (l:List Cl):(bytC l).length≤256:=by rw [zsl,List.length_map];exact heads_len l
theorem bytC_u8 {l:List Cl} {b:Int} (h:b∈bytC l):InR .u8 b:=by
 rw [zsl] at h;obtain ⟨n,h1,rfl⟩:=List.mem_map.1 h;have:=(zgx.1 h1).1;exact zfm.2 ⟨by omega,by omega⟩
theorem bytC_of (l:List Cl) {c:Int} (hc:InR .u8 c):∃b∈bytC l,b≤c∧∀x∈l,x.has b.toNat=x.has c.toNat:=by
 have hc':=zfm.1 hc;obtain ⟨h,h1,h2,h3⟩:=head_of (l:=l) (c:=c.toNat) (by omega);refine ⟨(h:Int),by rw [zsl];exact List.mem_map.2 ⟨h,h1,rfl⟩,by omega,fun x hx=>?_⟩;unfold zkc at h3;rw [List.all_eq_true] at h3;have:=h3 x hx;simpa using this
def szN (d:List SNode):Nat→Int→Nat
 | 0,_=>0
 | k+1,i=>match at? d i with
  | none=>0
  | some n=>if n.1=2 then 1 else if n.1=3 then n.2.2.2.2.2.2.length else if n.1=4∨n.1=5 then szN d k n.2.1+szN d k n.2.2.1 else if n.1=6 then szN d k n.2.1 else if n.1=7 then n.2.2.2.2.1.toNat*szN d k n.2.1 else 0
theorem zlx (m:Nat):∀k,sumN (fun _=>m) k=k*m
 | 0=>by simp [sumN]
 | k+1=>by
  show sumN (fun _=>m) k+m=_;rw [zlx m k,Nat.succ_mul]
def nf (d:List SNode):Nat→Int→Bool
 | 0,_=>true
 | k+1,i=>match at? d i with
  | none=>true
  | some n=>if n.1=8∨n.1=9 then false else if n.1=4∨n.1=5 then nf d k n.2.1&&nf d k n.2.2.1 else if n.1=6 then nf d k n.2.1 else if n.1=7 then decide (n.2.2.2.2.1≤0)||nf d k n.2.1 else true
def NoFr (d:List SNode):Prop:=nf d d.length ((d.length:Int)-1)=true
theorem at_mem {d:List SNode} {i:Int} {e:SNode} (he:at? d i=some e):e∈d:=by
 unfold at? at he;split at he
 ·exact List.mem_of_getElem? he
 ·cases he
theorem nf_of {d:List SNode} (h:∀n∈d,n.1≠8∧n.1≠9):∀(k:Nat) (i:Int),nf d k i=true
 | 0,_=>rfl
 | k+1,i=>by
  unfold nf;cases hn:at? d i with
  | none=>rfl
  | some n=>
   have:=h n (at_mem hn);simp only [nf_of h k];rw [if_neg (by omega)];simp
theorem cov_sz {d:List SNode} (hd:ROk d) {f i:Int} (h:Tr d f i):∀k,(i-f+1).toNat≤k→nf d k i=true→Cov (szN d k i) (fun u=>∃w,Rch d [(1,i,0,0)] w u):=by
 induction h with
 | leaf he hk hx h0=>
  rename_i i e
  intro k hk2 hnf;obtain ⟨k,rfl⟩:∃q,k=q+1:=⟨k-1,by omega⟩;have hs:szN d (k+1) i=if e.1=2 then 1 else if e.1=3 then e.2.2.2.2.2.2.length else if e.1=4∨e.1=5 then szN d k e.2.1+szN d k e.2.2.1 else if e.1=6 then szN d k e.2.1 else if e.1=7 then e.2.2.2.2.1.toNat*szN d k e.2.1 else 0:=by
   simp only [szN,he]
  rw [hs];rcases hk with k1 | k1 | k1
  ·exact Cov.none (fun u ⟨w,hu⟩=>rch_empty hd he k1 hu) _
  ·rw [if_pos k1];exact Cov.one [] fun u ⟨w,hu⟩=>rch_bytes hd he k1 hu
  ·rw [if_neg (by omega),if_pos k1];have:=Cov.sum (f:=fun _=>1) (p:=fun j u=>u=if j+1<e.2.2.2.2.2.2.length then [(3,i,((j+1:Nat):Int),0)] else []) e.2.2.2.2.2.2.length fun j hj=>Cov.one _ fun u hu=>hu;refine this.weak (by rw [zlx];omega) fun u ⟨w,hu⟩=>?_;obtain ⟨j,_,h1,h2⟩:=rch_text hd he k1 hu;exact ⟨j,h1,h2⟩
 | one he hk ha hb hr h ih=>
  rename_i f i e
  intro k hk2 hnf;have hle:=h.le;obtain ⟨k,rfl⟩:∃q,k=q+1:=⟨k-1,by omega⟩;have hs:szN d (k+1) i=if e.1=2 then 1 else if e.1=3 then e.2.2.2.2.2.2.length else if e.1=4∨e.1=5 then szN d k e.2.1+szN d k e.2.2.1 else if e.1=6 then szN d k e.2.1 else if e.1=7 then e.2.2.2.2.1.toNat*szN d k e.2.1 else 0:=by
   simp only [szN,he]
  have ih:=ih k (by omega);unfold nf at hnf;simp only [he] at hnf;rw [hs];rcases hk with k1 | k1 | k1 | k1
  ·rw [if_neg (by omega),if_neg (by omega),if_neg (by omega),if_pos k1,ha];rw [if_neg (by omega),if_neg (by omega),if_pos k1,ha] at hnf;refine (ih hnf).map (·++[(1,i,0,0)]) fun u ⟨w,hu⟩=>?_;obtain ⟨t,h1,h2⟩:=rch_star hd he k1 hu;rw [ha] at h1;exact ⟨t,⟨w,h1⟩,h2⟩
  ·rw [if_neg (by omega),if_neg (by omega),if_neg (by omega),if_neg (by omega),if_pos k1,ha];rw [if_neg (by omega),if_neg (by omega),if_neg (by omega),if_pos k1,ha,Bool.or_eq_true,decide_eq_true_iff] at hnf;rcases Int.lt_or_le 0 e.2.2.2.2.1 with h0 | h0
   rotate_left
   ·refine Cov.none (fun u ⟨w,hu⟩=>?_) _;obtain ⟨t,_,h1,_⟩:=rch_rep hd he k1 hu;omega
   have ih:=ih (hnf.resolve_left (by omega));have:=Cov.sum (f:=fun _=>szN d k (i-1)) (p:=fun t u=>∃u',(∃w,Rch d [(1,i-1,0,0)] w u')∧u=u'++[zkv i e (t+1)]) e.2.2.2.2.1.toNat fun t ht=>ih.map (·++[zkv i e (t+1)]) fun u hu=>hu;refine this.weak (by rw [zlx];omega) fun u ⟨w,hu⟩=>?_;obtain ⟨t,_,h1,u',h2,h3⟩:=rch_rep hd he k1 hu;rw [ha] at h2;exact ⟨t,by omega,u',⟨_,h2⟩,h3⟩
  ·rw [if_pos (.inl k1)] at hnf;cases hnf
  ·rw [if_pos (.inr k1)] at hnf;cases hnf
 | two he hk ha hb h1 h2 i1 i2=>
  rename_i f p i e
  intro k hk2 hnf;have l1:=h1.le;have l2:=h2.le;obtain ⟨k,rfl⟩:∃q,k=q+1:=⟨k-1,by omega⟩;have hs:szN d (k+1) i=if e.1=2 then 1 else if e.1=3 then e.2.2.2.2.2.2.length else if e.1=4∨e.1=5 then szN d k e.2.1+szN d k e.2.2.1 else if e.1=6 then szN d k e.2.1 else if e.1=7 then e.2.2.2.2.1.toNat*szN d k e.2.1 else 0:=by
   simp only [szN,he]
  unfold nf at hnf;simp only [he] at hnf;rw [if_neg (by omega),if_pos hk,ha,hb,Bool.and_eq_true] at hnf;have j1:=i1 k (by omega) hnf.2;have j2:=i2 k (by omega) hnf.1;rw [hs,if_neg (by omega),if_neg (by omega),if_pos hk,ha,hb];rcases hk with k1 | k1
  ·refine (j2.map (·++[(1,i-1,0,0)]) (r:=fun u=>∃t,(∃w,Rch d [(1,p-1,0,0)] w t)∧u=t++[(1,i-1,0,0)]) fun u hu=>hu).or j1 fun u ⟨w,hu⟩=>?_;have:=rch_seq hd he k1 hu;rw [ha,hb] at this;exact this.imp (fun ⟨t,a,b⟩=>⟨t,⟨w,a⟩,b⟩) fun a=>⟨w,a⟩
  ·refine j2.or j1 fun u ⟨w,hu⟩=>?_;have:=rch_or hd he k1 hu;rw [ha,hb] at this;exact this.imp (fun a=>⟨w,a⟩) fun a=>⟨w,a⟩
theorem all_cov {d:List SNode} (h:Rt d) (hn:NoFr d):Cov (szN d d.length ((d.length:Int)-1)+1) (fun u=>∃w,u∈zc6 d w (stS d)):=by
 refine ((cov_sz h.toROk h.tr d.length (by omega) hn).or (Cov.one (stS d) (p:=fun u=>u=stS d) fun u hu=>hu) fun u ⟨w,hu⟩=>?_);cases w with
 | nil=>
  rw [zc6,List.mem_singleton] at hu;exact .inr hu
 | cons c w=>exact .inl ⟨c::w,[],c::w,rfl,by simp,hu⟩
theorem aftS_all {d:List SNode} (h:Rt d) (hn:NoFr d):∃K:List (List SItem),K.length≤szN d d.length ((d.length:Int)-1)+1∧∀w,∀t∈aftS d w,t∈K:=by
 obtain ⟨K,h1,h2⟩:=all_cov h hn;exact ⟨K,h1,fun w t ht=>h2 t ⟨w,(znq w).1 ht⟩⟩
theorem aftS_few {d:List SNode} (h:Rt d) (hn:NoFr d) (w:List Int):(aftS d w).length≤szN d d.length ((d.length:Int)-1)+1:=by
 obtain ⟨K,h1,h2⟩:=aftS_all h hn;exact Nat.le_trans (zkt (zre (aftS_srt d w)) (h2 w)) h1
theorem canB_len {d:List SNode} (h:Rt d) (s:List SItem):(canB d s).length≤s.length*(d.length+1)+1:=by
 unfold canB;rw [List.length_map];exact Nat.le_trans (setOf_len fun t ht=>hds_CS d s t ht) (CS_few h s)
theorem clsF_of (d:List SNode) (t:List SItem) (hb:∀n∈d,True):∀x∈clsF d t,x∈sing++d.map fun n=>n.2.2.2.2.2.1:=by
 intro x hx;cases t with
 | nil=>cases hx
 | cons y t=>
  simp only [clsF] at hx;cases hn:at? d y.2.1 with
  | none=>rw [hn] at hx;cases hx
  | some n=>
   rw [hn] at hx;simp only at hx;have hm:n∈d:=by
    unfold at? at hn;split at hn
    ·exact List.mem_of_getElem? hn
    ·cases hn
   split at hx
   ·rw [List.mem_singleton] at hx;refine List.mem_append.2 (.inl ?_);have hr:0≤(zd9 n.2.2.2.2.2.2 y.2.2.1).getD 0∧(zd9 n.2.2.2.2.2.2 y.2.2.1).getD 0≤255:=by
     cases hq:zd9 n.2.2.2.2.2.2 y.2.2.1 with
     | none=>simp
     | some c=>exact byte_u8 hq
    rw [hx];refine List.mem_map.2 ⟨((zd9 n.2.2.2.2.2.2 y.2.2.1).getD 0).toNat,by simp;omega, ?_⟩;have e:((((zd9 n.2.2.2.2.2.2 y.2.2.1).getD 0).toNat:Nat):Int) % 256=(zd9 n.2.2.2.2.2.2 y.2.2.1).getD 0:=by omega
    rw [e]
   ·split at hx
    ·rw [List.mem_singleton] at hx;exact List.mem_append.2 (.inr (List.mem_map.2 ⟨n,hm,hx.symm⟩))
    ·exact List.mem_append.2 (.inl hx)
theorem once_few (d:List SNode) (l:List (List SItem)):(zf6 (zsh d l)).length≤256+d.length:=by
 have h1:=zkt (U:=sing++d.map fun n=>n.2.2.2.2.2.1) (zon (zsh d l)) fun x hx=>by
  obtain ⟨s,_,h2⟩:=List.mem_flatMap.1 ((zhx _).1 hx);unfold clsA zlt at h2;obtain ⟨b,_,h3⟩:=List.mem_flatMap.1 h2;exact clsF_of d b.1 (fun _ _=>trivial) x h3
 rw [List.length_append,List.length_map,zic] at h1;exact h1
theorem zhm {a:Cl}:zb0 a a.least:=by
 refine zh8 (P:=fun k (_:Unit) v=>zb0.l1 a a.least _ k v) 256 (fun i _=>∀m,m<i→a.has m=false) ?_ ?_ () (by intro m hm;omega)
 ·intro i s hi hs;cases hc:a.has i
  ·refine .inr ⟨(),fun m hm=>?_,fun k h=>⟨fun _=>⟨a.has i,zir hi,fun h2=>by simp [hc] at h2,fun _=>⟨zi (by omega) (by omega),h⟩⟩,fun h=>absurd (by omega) (df h)⟩⟩
   by_cases e:m=i
   ·subst e;exact hc
   ·exact hs m (by omega)
  ·refine .inl fun k=>⟨fun _=>⟨a.has i,zir hi,fun _=>?_,fun h2=>by simp [hc] at h2⟩,fun h=>absurd (by omega) (df h)⟩;rw [show ((i:Int) % 256)=i by omega];exact least_of hi hc hs
 ·intro s hs k;exact ⟨fun h=>absurd (dt h) (by omega),fun _=>by first | exact zim hs | (show zb0.j1 _ _;exact zim hs)⟩
theorem zp3 {a:Cl}:zb5 a (a.count:Int):=by
 refine zh8 (P:=fun k (s:Int) v=>zb5.l1 a _ k s v) 256 (fun i s=>s=(((List.range i).countP a.has:Nat):Int)) ?_ ?_ _ (by simp)
 ·rintro i s hi rfl;have hle:=List.countP_le_length (l:=List.range i) (p:=a.has);simp only [List.length_range] at hle;refine .inr ⟨_,rfl,fun k h=>⟨fun _=>⟨a.has i,zir hi,fun hc=>?_,fun hc=>?_⟩,fun h=>absurd (by omega) (df h)⟩⟩
  ·rw [List.range_succ,List.countP_append,List.countP_singleton,hc] at h;exact ⟨zi (by omega) (by omega),zi (by omega) (by omega),by simpa using h⟩
  ·rw [List.range_succ,List.countP_append,List.countP_singleton,hc] at h;exact ⟨zi (by omega) (by omega),by simpa using h⟩
 ·rintro s rfl k;exact ⟨fun h=>absurd (dt h) (by omega),fun _=>rfl⟩
theorem zlo {a b:Cl}:zcq a b (a &&& b):=by
 refine words_up (P:=fun k s v=>zcq.l1 b _ k s v) (a:=a) (r:=a &&& b) (fun i w=>w &&& b.word i) (fun i hi=>?_) (fun k i s v hi hw hv h=>?_) (fun k=>?_)
 ·refine zi5 hi (Nat.and_lt_two_pow _ (b.word_lt i)) fun j hj=>?_;rw [zky,Nat.testBit_and,Cl.word_bit,Cl.word_bit];simp [hj]
 ·refine ⟨fun _=>⟨⟨by omega,by omega⟩,⟨by omega,by omega⟩,⟨by omega,by omega⟩,zi (by omega) (by omega), ?_⟩,fun h=>absurd (by omega) (df h)⟩;rw [show andI (Cl.w s (i:Int)) (Cl.w b (i:Int))=v by rw [hv];unfold andI;rw [w_nat,w_nat,Int.toNat_natCast,hw]];exact h
 ·exact ⟨fun h=>absurd (dt h) (by omega),fun _=>rfl⟩
theorem zmu {a:Cl}:zc7 a (~~~ a):=by
 refine words_up (P:=fun k s v=>zc7.l1 _ k s v) (a:=a) (r := ~~~ a) (fun i w=>18446744073709551615 ^^^ w) (fun i hi=>?_) (fun k i s v hi hw hv h=>?_) (fun k=>?_)
 ·refine zi5 hi (Nat.xor_lt_two_pow (by omega) (a.word_lt i)) fun j hj=>?_;rw [zo2 (by omega),Nat.testBit_xor,Cl.word_bit,show 18446744073709551615=2 ^ 64-1 by rfl,Nat.testBit_two_pow_sub_one];simp [hj]
 ·refine ⟨fun _=>⟨⟨by omega,by omega⟩,⟨by omega,by omega⟩,zi (by omega) (by omega), ?_⟩,fun h=>absurd (by omega) (df h)⟩;rw [show xorI 18446744073709551615 (Cl.w s (i:Int))=v by rw [hv];unfold xorI;rw [w_nat,Int.toNat_natCast,hw];rfl];exact h
 ·exact ⟨fun h=>absurd (dt h) (by omega),fun _=>rfl⟩
theorem dt0 {p:Prop} [Decidable p] (h:decide p=true):p:=of_decide_eq_true h
theorem df0 {p:Prop} [Decidable p] (h:decide p=false):¬ p:=of_decide_eq_false h
def zsr (key:Cl→Int) (cmp:Cl × Cl × Int→Prop):Prop:=∀x y,cmp (x,y,key x-key y)
theorem ins_l2 {key:Cl→Int} {cmp:Cl × Cl × Int→Prop} (hc:zsr key cmp) {A B:List Cl} {x:Cl} {X:List Cl→Prop}:
  ∀(m:Nat) (P G:List Cl),P.length=m→Srt key (P++G)→(∀g∈G,key x<key g)→(A++P++x::(G++B)).length<4611686018427387904 →
   (∀Q,Srt key Q→SEq key (P++x::G) Q→X (A++Q++B)) →
   ∃k,zd.l2 (A.length:Int) cmp X k (A++P++x::(G++B)) ((A.length+P.length:Nat):Int):=by
 intro m
 induction m with
 | zero=>
  intro P G hm hs hg hlen hX;have hP:=List.eq_nil_of_length_eq_zero hm;subst hP;refine ⟨1,x,fun h=>absurd (dt0 h) (by simp),fun h=>absurd (dt0 h) (by simp),x,fun h=>absurd (dt0 h) (by simp),0,fun h=>absurd (dt0 h) (by simp),fun h=>?_,fun _=>?_⟩
  ·simp at h
  ·have:=hX (x::G) (Srt.cons.2 ⟨fun y hy=>Int.le_of_lt (hg y hy),by simpa using hs⟩) (SEq.refl _ _);simpa using this
 | succ m ih=>
  intro P G hm hs hg hlen hX;obtain ⟨P,y,rfl⟩:=snoc_of (l:=P) (by rintro rfl;simp at hm);have hmP:P.length=m:=by simpa using hm
  have hl2:A.length+P.length+1<4611686018427387904:=by simp at hlen;omega
  have e0:A++(P++[y])++x::(G++B)=(A++P)++y::x::(G++B):=by simp
  have e1:A++(P++[y])++x::(G++B)=(A++P++[y])++x::(G++B):=by simp
  have hj:((A.length+(P++[y]).length:Nat):Int)=((A.length+P.length:Nat):Int)+1:=by simp <;> omega
  have at1:at? (A++(P++[y])++x::(G++B)) ((A.length+(P++[y]).length:Nat):Int)=some x:=by rw [e1];exact ziz (by simp <;> omega)
  have at2:at? (A++(P++[y])++x::(G++B)) (((A.length+(P++[y]).length:Nat):Int)-1)=some y:=by rw [e0];exact ziz (by simp <;> omega)
  by_cases hlt:key x<key y
  ·-- a round more
   obtain ⟨k,hk⟩:=ih P (y::G) hmP (by simpa using hs) (fun g hgm=>by
     rcases List.mem_cons.1 hgm with rfl | h
     ·exact hlt
     ·exact hg g h) (by simp at hlen ⊢ <;> omega) (fun Q hQ hE=>hX Q hQ (SEq.trans (by
      have:SEq key ([y]++[x]) ([x]++[y]):=zjy (by simp <;> omega);have h2:=(SEq.refl key P).app (this.app (SEq.refl key G));simpa using h2) hE))
   refine ⟨k+1,x,fun _=>at1,fun _=>zi (by omega) (by omega),y,fun _=>at2,key x-key y,fun _=>hc x y,fun _=>?_,fun h=>?_⟩
   ·refine ⟨zi (by omega) (by omega),zi (by omega) (by omega),y,at2,x,at1,x,at1,y, ?_,zi (by omega) (by omega), ?_⟩
    ·rw [e1,zid (by simp <;> omega)];rw [show (A++P++[y]++y::(G++B))=(A++P)++y::y::(G++B) by simp];exact ziz (by simp <;> omega)
    ·have:((A++(P++[y])++x::(G++B)).set ((A.length+(P++[y]).length:Nat):Int).toNat y).set (((A.length+(P++[y]).length:Nat):Int)-1).toNat x=A++P++x::(y::G++B):=by
      rw [e1,zid (by simp <;> omega)];rw [show (A++P++[y]++y::(G++B))=(A++P)++y::y::(G++B) by simp];rw [zid (by simp <;> omega)];simp
     rw [this,show (((A.length+(P++[y]).length:Nat):Int)-1)=((A.length+P.length:Nat):Int) by omega];exact hk
   ·exfalso;simp at h;omega
  ·refine ⟨1,x,fun _=>at1,fun _=>zi (by omega) (by omega),y,fun _=>at2,key x-key y,fun _=>hc x y,fun h=>?_,fun _=>?_⟩
   ·exfalso;simp at h;omega
   ·have:=hX (P++[y]++x::G) (Srt.app.2 ⟨(Srt.app.1 hs).1,Srt.cons.2 ⟨fun g hgm=>Int.le_of_lt (hg g hgm),(Srt.app.1 hs).2.1⟩,fun p hp q hq=>?_⟩) (SEq.refl _ _)
    ·simpa using this
    ·have hpy:key p≤key y:=by
      rcases List.mem_append.1 hp with h | h
      ·exact (Srt.app.1 (Srt.app.1 hs).1).2.2 p h y (by simp)
      ·simp at h;subst h;exact Int.le_refl _
     rcases List.mem_cons.1 hq with rfl | h
     ·omega
     ·have:=(Srt.app.1 hs).2.2 p hp q h;exact this
theorem ins_in {key:Cl→Int} {cmp:Cl × Cl × Int→Prop} (hc:zsr key cmp) {A S B:List Cl} {a b:Int} (ha:a=(A.length:Int)) (hb:b=((A.length+S.length:Nat):Int)) (hlen:(A++S++B).length<4611686018427387904):
  zd (A++S++B) a b cmp (A++srt key S++B):=by
 have hlA:A.length+S.length<4611686018427387904:=by simp at hlen;omega
 subst ha;subst hb;have key2:∀(m:Nat) (P R:List Cl),R.length=m→Srt key P→SEq key S (P++R)→∀{X:List Cl→Prop},X (A++srt key S++B) →
   ∃k,zd.l1 (A.length:Int) ((A.length+S.length:Nat):Int) cmp X k (A++(P++R)++B) ((A.length+P.length:Nat):Int):=by
  intro m
  induction m with
  | zero=>
   intro P R hR hP hS X hX;have:=List.eq_nil_of_length_eq_zero hR;subst this;have hl:=hS.length;simp at hl;have e:=ziv hP (by simpa using hS);exact ⟨1,fun h=>absurd (dt0 h) (by omega),fun _=>by rw [List.append_nil,e];exact hX⟩
  | succ m ih=>
   intro P R hR hP hS X hX;cases R with
   | nil=>simp at hR
   | cons x R=>
    have hl:=hS.length;simp at hl;simp at hR;have hS2:SEq key S (srt key (P++[x])++R):=hS.trans (by
     have:=(zgv key (P++[x])).app (SEq.refl key R);simpa using this)
    obtain ⟨k,hk⟩:=ih (srt key (P++[x])) R hR (zi8 _ _) hS2 hX;refine ⟨k+1,fun _=>?_,fun h=>absurd (by omega) (df0 h)⟩;have:=ins_l2 hc (A:=A) (B:=R++B) (x:=x) (X:=zd.j2 (zd.l1 (A.length:Int) ((A.length+S.length:Nat):Int) cmp X k) ((A.length+P.length:Nat):Int)) P.length P [] rfl (by simpa using hP) (by simp) (by simp at hlen ⊢ <;> omega) (fun Q hQ hE=>by
     have hQe:=ziv hQ hE;refine ⟨zi (by omega) (by omega), ?_⟩;rw [hQe];have e1:((A.length+(srt key (P++[x])).length:Nat):Int)=((A.length+P.length:Nat):Int)+1:=by rw [zhe];simp;omega
     rw [e1] at hk;simpa using hk)
    simpa using this
 refine ⟨zi (by omega) (by omega), ?_⟩;cases S with
 | nil=>
  refine ⟨1,fun h=>absurd (dt0 h) (by simp <;> omega),fun _=>?_⟩;show A++srt key []++B=A++[]++B;rw [List.eq_nil_of_length_eq_zero (zhe key [])]
 | cons x S=>
  have:=key2 S.length [x] S rfl (by simp [Srt]) (SEq.refl _ _) (X:=zd.j1 (A++srt key (x::S)++B)) rfl;simpa using this
theorem swap_l1 {A M B:List Cl} {a b n:Int} {X:List Cl→Prop}:∀(X2 Y2 X1 Y1:List Cl),X2.length=Y2.length→X1.length=Y1.length→a=(A.length:Int)→b=((A.length+X1.length+X2.length+M.length:Nat):Int)→n=((X1.length+X2.length:Nat):Int) →
  (A++Y1++X2++M++X1++Y2++B).length<4611686018427387904→X (A++(Y1++Y2)++M++(X1++X2)++B) →
  ∃k,zl.l1 a b n X k (A++Y1++X2++M++X1++Y2++B) (X1.length:Int)
 | [],[],X1,Y1,_,h1,ha,hb,hn,hl,hX=>⟨1,fun h=>absurd (dt0 h) (by rw [hn];simp),fun _=>by simpa using hX⟩
 | x::X2,y::Y2,X1,Y1,h0,h1,ha,hb,hn,hl,hX=>by
  simp at h0;have hl':A.length+Y1.length+X2.length+M.length+X1.length+Y2.length+B.length+2<4611686018427387904:=by simp at hl;omega
  obtain ⟨k,hk⟩:=swap_l1 (A:=A) (M:=M) (B:=B) (a:=a) (b:=b) (n:=n) (X:=X) X2 Y2 (X1++[x]) (Y1++[y]) h0 (by simp <;> omega) ha (by rw [hb];simp <;> omega) (by rw [hn];simp <;> omega) (by simp at hl ⊢ <;> omega) (by simpa using hX);have e1:A++Y1++x::X2++M++X1++y::Y2++B=(A++Y1)++x::(X2++M++X1++y::Y2++B):=by simp
  have e2:A++Y1++x::X2++M++X1++y::Y2++B=(A++Y1++x::X2++M++X1)++y::(Y2++B):=by simp
  have pa:a+(X1.length:Int)=((A++Y1).length:Int):=by rw [ha];simp <;> omega
  have pb:b+(X1.length:Int)=((A++Y1++x::X2++M++X1).length:Int):=by rw [hb];simp <;> omega
  have hb0:b+(X1.length:Int)<4611686018427387904∧0≤b+(X1.length:Int):=by rw [pb];simp <;> omega
  have ha0:a+(X1.length:Int)<4611686018427387904∧0≤a+(X1.length:Int):=by rw [pa];simp <;> omega
  have aty:at? (A++Y1++x::X2++M++X1++y::Y2++B) (b+(X1.length:Int))=some y:=by rw [e2];exact ziz pb
  have atx:at? (A++Y1++x::X2++M++X1++y::Y2++B) (a+(X1.length:Int))=some x:=by rw [e1];exact ziz pa
  have s1:(A++Y1++x::X2++M++X1++y::Y2++B).set (a+(X1.length:Int)).toNat y=A++Y1++y::X2++M++X1++y::Y2++B:=by rw [e1,zid pa];simp
  have e3:A++Y1++y::X2++M++X1++y::Y2++B=(A++Y1++y::X2++M++X1)++y::(Y2++B):=by simp
  have pb':b+(X1.length:Int)=((A++Y1++y::X2++M++X1).length:Int):=by rw [pb];simp
  refine ⟨k+1,fun _=>⟨zi (by omega) (by omega),zi (by omega) (by omega),zi (by omega) (by omega),y,aty,zi (by omega) (by omega),x,atx,x,atx,y, ?_,zi (by omega) (by omega), ?_⟩,fun h=>absurd (by rw [hn];simp <;> omega) (df0 h)⟩
  ·rw [s1,e3];exact ziz pb'
  ·rw [s1,e3,zid pb'];simpa using hk
 | [],_::_,_,_,h,_,_,_,_,_,_=>by simp at h
 | _::_,[],_,_,h,_,_,_,_,_,_=>by simp at h
theorem swap_in {A X M Y B:List Cl} {a b n:Int} {cmp:Cl × Cl × Int→Prop} (ha:a=(A.length:Int)) (hb:b=((A.length+X.length+M.length:Nat):Int)) (hn:n=(X.length:Int)) (hxy:X.length=Y.length) (hl:(A++X++M++Y++B).length<4611686018427387904):
  zl (A++X++M++Y++B) a b n cmp (A++Y++M++X++B):=by
 have:=swap_l1 (A:=A) (M:=M) (B:=B) (a:=a) (b:=b) (n:=n) (X:=zl.j1 (A++Y++M++X++B)) X Y [] [] hxy rfl ha (by rw [hb];simp) (by rw [hn];simp) (by simpa using hl) rfl;unfold zl;simpa using this
theorem rot_in {A X Y B:List Cl} {a m b:Int} {cmp:Cl × Cl × Int→Prop} (ha:a=(A.length:Int)) (hm:m=((A.length+X.length:Nat):Int)) (hb:b=((A.length+X.length+Y.length:Nat):Int)) (hX:X≠[]) (hY:Y≠[]) (hl:(A++X++Y++B).length<4611686018427387904):
  zt (A++X++Y++B) a m b cmp (A++Y++X++B):=by
 have hl':A.length+X.length+Y.length+B.length<4611686018427387904:=by simp at hl;omega
 refine ⟨zi (by omega) (by omega),zi (by omega) (by omega), ?_⟩;have key:∀(f:Nat) (L X' Y' R:List Cl),X'.length+Y'.length≤f→X'≠[]→Y'≠[]→A.length+L.length+X'.length=A.length+X.length→L++Y'++X'++R=Y++X →
   ∃k,zt.l1 m cmp (zt.j1 m cmp (A++Y++X++B)) k (A++L++X'++Y'++R++B) (X'.length:Int) (Y'.length:Int):=by
  intro f
  induction f with
  | zero=>intro L X' Y' R hf hx;exact absurd (List.eq_nil_of_length_eq_zero (by omega)) hx
  | succ f ih=>
   intro L X' Y' R hf hx hy hmid heq;have hx':0<X'.length:=List.length_pos_iff.2 hx;have hy':0<Y'.length:=List.length_pos_iff.2 hy;have hle:=congrArg List.length heq;simp at hle
   by_cases hlt:Y'.length<X'.length
   ·obtain ⟨X1,X2,rfl,hX1⟩:=zft X' (Nat.le_of_lt hlt);have hX2:X2≠[]:=by rintro rfl;simp at hlt;omega
    have hX2':0<X2.length:=List.length_pos_iff.2 hX2;simp at hle hmid hf hlt;obtain ⟨k,hk⟩:=ih (L++Y') X2 X1 R (by omega) hX2 (by rintro rfl;simp at hX1;omega) (by first | omega | (simp;omega)) (by simpa using heq);refine ⟨k+1,fun _=>⟨fun _=>⟨zi (by first | omega | (simp;omega)) (by first | omega | (simp;omega)),A++L++Y'++X2++X1++(R++B), ?_,zi (by first | omega | (simp;omega)) (by first | omega | (simp;omega)), ?_⟩,fun h=>absurd (by simp;omega) (df0 h)⟩,fun h=>by simp at h;omega⟩
    ·have:=swap_in (cmp:=cmp) (A:=A++L) (X:=X1) (M:=X2) (Y:=Y') (B:=R++B) (a:=m-((X1++X2).length:Int)) (b:=m) (n:=(Y'.length:Int)) (by rw [hm];simp;omega) (by rw [hm];simp;omega) (by omega) (by omega) (by simp;omega);simpa using this
    ·have e:(((X1++X2).length:Nat):Int)-(Y'.length:Int)=(X2.length:Int):=by simp;omega
     rw [e,← hX1];simpa using hk
   ·by_cases heq2:X'.length=Y'.length
    ·refine ⟨1,fun h=>?_,fun _=>⟨zi (by first | omega | (simp;omega)) (by first | omega | (simp;omega)),A++L++Y'++X'++R++B, ?_, ?_⟩⟩
     ·simp at h;omega
     ·have:=swap_in (cmp:=cmp) (A:=A++L) (X:=X') (M:=[]) (Y:=Y') (B:=R++B) (a:=m-(X'.length:Int)) (b:=m) (n:=(X'.length:Int)) (by rw [hm];simp;omega) (by rw [hm];simp;omega) rfl heq2 (by simp;omega);simpa using this
     ·have:A++(Y++X)++B=A++(L++Y'++X'++R)++B:=by rw [heq]
      simpa using this
    ·have hlt2:X'.length<Y'.length:=by omega
     obtain ⟨Y1,Y2,rfl,hY1⟩:=zft Y' (show Y'.length-X'.length≤Y'.length by omega);have hY2:Y2.length=X'.length:=by simp at hY1 hlt2;omega
     have hY1':Y1≠[]:=by rintro rfl;simp at hY1 hlt2;omega
     simp at hle hmid hf hlt2;obtain ⟨k,hk⟩:=ih L Y2 Y1 (X'++R) (by omega) (by rintro rfl;simp at hY2;omega) hY1' (by omega) (by simpa using heq);refine ⟨k+1,fun _=>⟨fun h=>absurd (dt0 h) (by simp;omega),fun _=>⟨zi (by omega) (by omega),zi (by first | omega | (simp;omega)) (by first | omega | (simp;omega)),zi (by first | omega | (simp;omega)) (by first | omega | (simp;omega)),A++L++Y2++Y1++X'++(R++B), ?_,zi (by first | omega | (simp;omega)) (by first | omega | (simp;omega)), ?_⟩⟩,fun h=>by simp at h;omega⟩
     ·have:=swap_in (cmp:=cmp) (A:=A++L) (X:=X') (M:=Y1) (Y:=Y2) (B:=R++B) (a:=m-(X'.length:Int)) (b:=m+((Y1++Y2).length:Int)-(X'.length:Int)) (n:=(X'.length:Int)) (by rw [hm];simp;omega) (by rw [hm];simp;omega) rfl (by omega) (by simp;omega);simpa using this
     ·have e:(((Y1++Y2).length:Nat):Int)-(X'.length:Int)=(Y1.length:Int):=by simp;omega
      rw [e,← hY2];simpa using hk
 have:=key (X.length+Y.length) [] X Y [] (Nat.le_refl _) hX hY (by simp) (by simp);have e1:m-a=(X.length:Int):=by omega
 have e2:b-m=(Y.length:Int):=by omega
 rw [e1,e2];simpa using this
theorem at_app1 {A S B:List Cl} {c:Nat} (h1:A.length≤c) (h2:c<A.length+S.length):at? (A++S++B) (c:Int)=some (S[c-A.length]'(by omega)):=by
 rw [zbm,List.append_assoc,List.getElem?_append_right h1,List.getElem?_append_left (by omega),List.getElem?_eq_getElem (by omega)]
theorem zqi {key:Cl→Int} {S:List Cl} (h:Srt key S) {i j:Nat} (hij:i≤j) (hj:j<S.length):key (S[i]'(by omega))≤key S[j]:=by
 rcases Nat.lt_or_ge i j with hlt | hge
 ·exact List.pairwise_iff_getElem.1 h i j (by omega) hj hlt
 ·have:i=j:=by omega
  subst this;exact Int.le_refl _
theorem sm_l1 {A B:List Cl} {x:Cl} {i:Int} {X:List Cl→Prop}:∀(Y2 Y1:List Cl),i=((A.length+Y1.length+Y2.length:Nat):Int)+1→(A++Y1++x::Y2++B).length<4611686018427387904→X (A++(Y1++Y2)++x::B) →
  ∃k,za.l1 i X k (A++Y1++x::Y2++B) ((A.length+Y1.length:Nat):Int)
 | [],Y1,hi,hl,hX=>by
  have hl':A.length+Y1.length<4611686018427387904:=by simp at hl;omega
  exact ⟨1,zi (by simp at hi;omega) (by simp at hi;omega),fun h=>absurd (dt0 h) (by simp at hi;omega),fun _=>by simpa using hX⟩
 | y::Y2,Y1,hi,hl,hX=>by
  have hl':A.length+Y1.length+Y2.length+1<4611686018427387904:=by simp at hl;omega
  have hi':=hi;simp at hi';obtain ⟨k,hk⟩:=sm_l1 (A:=A) (B:=B) (x:=x) (i:=i) (X:=X) Y2 (Y1++[y]) (by rw [hi];simp;omega) (by simp at hl ⊢;omega) (by simpa using hX);have e1:A++Y1++x::(y::Y2)++B=(A++Y1)++x::(y::Y2++B):=by simp
  have e2:A++Y1++x::(y::Y2)++B=(A++Y1++[x])++y::(Y2++B):=by simp
  have p1:((A.length+Y1.length:Nat):Int)=((A++Y1).length:Int):=by simp
  have p2:((A.length+Y1.length:Nat):Int)+1=((A++Y1++[x]).length:Int):=by simp;omega
  have a1:at? (A++Y1++x::(y::Y2)++B) ((A.length+Y1.length:Nat):Int)=some x:=by rw [e1];exact ziz p1
  have a2:at? (A++Y1++x::(y::Y2)++B) (((A.length+Y1.length:Nat):Int)+1)=some y:=by rw [e2];exact ziz p2
  have s1:(A++Y1++x::(y::Y2)++B).set ((A.length+Y1.length:Nat):Int).toNat y=(A++Y1++[y])++y::(Y2++B):=by rw [e1,zid p1];simp
  have p2':((A.length+Y1.length:Nat):Int)+1=((A++Y1++[y]).length:Int):=by simp;omega
  refine ⟨k+1,zi (by omega) (by omega),fun _=>⟨zi (by omega) (by omega),zi (by omega) (by omega),y,a2,x,a1,x,a1,y, ?_,zi (by omega) (by omega), ?_⟩,fun h=>absurd (by omega) (df0 h)⟩
  ·rw [s1];exact ziz p2'
  ·rw [s1,zid p2'];have p3:((A.length+(Y1++[y]).length:Nat):Int)=((A.length+Y1.length:Nat):Int)+1:=by simp;omega
   rw [p3] at hk;simpa using hk
theorem sm_l3 {A B:List Cl} {x:Cl} {i:Int} {X:List Cl→Prop}:∀(m:Nat) (Y1 Y2:List Cl),Y1.length=m→i=(A.length:Int)→(A++Y1++x::Y2++B).length<4611686018427387904→X (A++x::(Y1++Y2)++B) →
  ∃k,za.l3 i X k (A++Y1++x::Y2++B) ((A.length+Y1.length:Nat):Int):=by
 intro m
 induction m with
 | zero=>
  intro Y1 Y2 hm hi hl hX;have:=List.eq_nil_of_length_eq_zero hm;subst this;exact ⟨1,fun h=>absurd (dt0 h) (by rw [hi];simp),fun _=>by simpa using hX⟩
 | succ m ih=>
  intro Y1 Y2 hm hi hl hX;obtain ⟨Y1,y,rfl⟩:=snoc_of (l:=Y1) (by rintro rfl;simp at hm);have hl':A.length+Y1.length+Y2.length+1<4611686018427387904:=by simp at hl;omega
  obtain ⟨k,hk⟩:=ih Y1 (y::Y2) (by simpa using hm) hi (by simp at hl ⊢;omega) (by simpa using hX);have e1:A++(Y1++[y])++x::Y2++B=(A++Y1)++y::(x::Y2++B):=by simp
  have e2:A++(Y1++[y])++x::Y2++B=(A++Y1++[y])++x::(Y2++B):=by simp
  have p2:((A.length+(Y1++[y]).length:Nat):Int)=((A++Y1++[y]).length:Int):=by simp
  have p1:((A.length+(Y1++[y]).length:Nat):Int)-1=((A++Y1).length:Int):=by simp;omega
  have a2:at? (A++(Y1++[y])++x::Y2++B) ((A.length+(Y1++[y]).length:Nat):Int)=some x:=by rw [e2];exact ziz p2
  have a1:at? (A++(Y1++[y])++x::Y2++B) (((A.length+(Y1++[y]).length:Nat):Int)-1)=some y:=by rw [e1];exact ziz p1
  have s1:(A++(Y1++[y])++x::Y2++B).set ((A.length+(Y1++[y]).length:Nat):Int).toNat y=(A++Y1)++y::(y::Y2++B):=by rw [e2,zid p2];simp
  refine ⟨k+1,fun _=>⟨zi (by simp;omega) (by simp;omega),zi (by simp;omega) (by simp;omega),y,a1,x,a2,x,a2,y, ?_,zi (by simp;omega) (by simp;omega), ?_⟩,fun h=>absurd (by rw [hi];simp;omega) (df0 h)⟩
  ·rw [s1];exact ziz p1
  ·rw [s1,zid p1,p1,show (((A++Y1).length:Nat):Int)=((A.length+Y1.length:Nat):Int) by simp];simpa using hk
theorem at_gd {A S B:List Cl} {c:Nat} (h1:A.length≤c) (h2:c<A.length+S.length):at? (A++S++B) (c:Int)=some (S.getD (c-A.length) 0#256):=by
 rw [at_app1 h1 h2,List.getD,List.getElem?_eq_getElem (by omega)];rfl
theorem gd_le {key:Cl→Int} {S:List Cl} (h:Srt key S) {i j:Nat} (hij:i≤j) (hj:j<S.length):key (S.getD i 0#256)≤key (S.getD j 0#256):=by
 have:=zqi h hij hj;rw [List.getD,List.getD,List.getElem?_eq_getElem (by omega),List.getElem?_eq_getElem hj];exact this
theorem getD_l {X Y:List Cl} {q:Nat} (h:q<X.length):(X++Y).getD q 0#256=X[q]:=by
 rw [List.getD,List.getElem?_append_left h,List.getElem?_eq_getElem h];rfl
theorem getD_r {X Y:List Cl} {q:Nat} (h:q<Y.length):(X++Y).getD (X.length+q) 0#256=Y[q]:=by
 rw [List.getD,List.getElem?_append_right (by omega),Nat.add_sub_cancel_left,List.getElem?_eq_getElem h];rfl
theorem sym_j7 {key:Cl→Int} {cmp:Cl × Cl × Int→Prop} {f:Nat} {A S1 S2 T1 T2 B:List Cl}
  (ih:∀(A S T B:List Cl),S.length+T.length≤f→S≠[]→T≠[]→Srt key S→Srt key T→(A++S++T++B).length<4611686018427387904 →
   za.n f (A++S++T++B) (A.length:Int) ((A.length+S.length:Nat):Int) ((A.length+S.length+T.length:Nat):Int) cmp (A++srt key (S++T)++B))
  (hS:Srt key (S1++S2)) (hT:Srt key (T1++T2)) (hlen:(A++(S1++S2)++(T1++T2)++B).length<4611686018427387904) (h1:∀t∈T1,∀s∈S2,key t<key s) (h2:∀s∈S1,∀t∈T2,key s≤key t)
  {st mid m b:Int} (hst:st=((A.length+S1.length:Nat):Int)) (hmid:mid=((A.length+S1.length+T1.length:Nat):Int)) (hm:m=((A.length+S1.length+S2.length:Nat):Int)) (hb:b=((A.length+S1.length+S2.length+T1.length+T2.length:Nat):Int))
  (hf1:S1.length+T1.length≤f) (hf2:S2.length+T2.length≤f):
  za.j7 (za.n f) (A++(S1++S2)++(T1++T2)++B) (A.length:Int) m b cmp (A++srt key ((S1++S2)++(T1++T2))++B) mid st:=by
 have hl:A.length+S1.length+S2.length+T1.length+T2.length+B.length<4611686018427387904:=by simp at hlen;omega
 obtain ⟨hS1,hS2,hSS⟩:=Srt.app.1 hS;obtain ⟨hT1,hT2,hTT⟩:=Srt.app.1 hT;have hres:srt key ((S1++S2)++(T1++T2))=srt key (S1++T1)++srt key (S2++T2):=by
  refine (ziv (Srt.app.2 ⟨zi8 _ _,zi8 _ _,fun x hx y hy=>?_⟩) ?_).symm
  ·have hx':=(zgv key (S1++T1)).perm.mem_iff.2 hx;have hy':=(zgv key (S2++T2)).perm.mem_iff.2 hy;rcases List.mem_append.1 hx' with hx1 | hx1 <;> rcases List.mem_append.1 hy' with hy1 | hy1
   ·exact hSS x hx1 y hy1
   ·exact h2 x hx1 y hy1
   ·exact Int.le_of_lt (h1 x hx1 y hy1)
   ·exact hTT x hx1 y hy1
  ·have e1:SEq key (S2++T1) (T1++S2):=zjy fun x hx y hy=>by have:=h1 y hy x hx;omega
   have e2:=(SEq.refl key S1).app (e1.app (SEq.refl key T2));have e3:=(zgv key (S1++T1)).app (zgv key (S2++T2));exact SEq.trans (by simpa using e2) (by simpa using e3)
 rw [hres];have hj5:za.j5 (za.n f) m b cmp (A++(srt key (S1++T1)++srt key (S2++T2))++B) mid st (A++srt key (S1++T1)++S2++T2++B):=by
  refine ⟨_,rfl,fun h=>?_,fun h=>?_⟩
  ·simp only [Bool.and_eq_true,decide_eq_true_eq] at h;have hS2n:S2≠[]:=by rintro rfl;simp at hm;omega
   have hT2n:T2≠[]:=by rintro rfl;simp at hb;omega
   have:=ih (A++srt key (S1++T1)) S2 T2 B hf2 hS2n hT2n hS2 hT2 (by simp [zhe];omega);refine ⟨_, ?_,rfl⟩;have e1:(((A++srt key (S1++T1)).length:Nat):Int)=mid:=by rw [hmid];simp [zhe];omega
   have e2:(((A++srt key (S1++T1)).length+S2.length:Nat):Int)=mid+m-st:=by rw [hmid,hm,hst];simp [zhe];omega
   have e3:(((A++srt key (S1++T1)).length+S2.length+T2.length:Nat):Int)=b:=by rw [hb];simp [zhe];omega
   rw [e1,e2,e3] at this;simpa using this
  ·have:S2=[]∨T2=[]:=by
    simp only [Bool.and_eq_false_iff,decide_eq_false_iff_not] at h;rcases h with h | h
    ·left;exact List.eq_nil_of_length_eq_zero (by omega)
    ·right;exact List.eq_nil_of_length_eq_zero (by omega)
   have e:srt key (S2++T2)=S2++T2:=by
    rcases this with rfl | rfl
    ·exact (ziv (by simpa using hT2) (SEq.refl _ _)).symm
    ·exact (ziv (by simpa using hS2) (SEq.refl _ _)).symm
   rw [e];simp
 have hj6:za.j6 (za.n f) (A.length:Int) m b cmp (A++(srt key (S1++T1)++srt key (S2++T2))++B) mid st (A++S1++T1++S2++T2++B):=by
  refine ⟨_,rfl,fun h=>?_,fun h=>?_⟩
  ·simp only [Bool.and_eq_true,decide_eq_true_eq] at h;have hS1n:S1≠[]:=by rintro rfl;simp at hst;omega
   have hT1n:T1≠[]:=by rintro rfl;simp at hmid;omega
   have:=ih A S1 T1 (S2++T2++B) hf1 hS1n hT1n hS1 hT1 (by simp;omega);refine ⟨A++srt key (S1++T1)++S2++T2++B, ?_,hj5⟩;rw [← hst,← hmid] at this;simpa using this
  ·have:S1=[]∨T1=[]:=by
    simp only [Bool.and_eq_false_iff,decide_eq_false_iff_not] at h;rcases h with h | h
    ·left;exact List.eq_nil_of_length_eq_zero (by omega)
    ·right;exact List.eq_nil_of_length_eq_zero (by omega)
   have e:srt key (S1++T1)=S1++T1:=by
    rcases this with rfl | rfl
    ·exact (ziv (by simpa using hT1) (SEq.refl _ _)).symm
    ·exact (ziv (by simpa using hS1) (SEq.refl _ _)).symm
   rw [e] at hj5 ⊢;simpa using hj5
 refine ⟨zi (by omega) (by omega),_,rfl,fun h=>?_,fun h=>?_⟩
 ·simp only [Bool.and_eq_true,decide_eq_true_eq] at h;have hS2n:S2≠[]:=by rintro rfl;simp at hm;omega
  have hT1n:T1≠[]:=by rintro rfl;simp at hmid;omega
  have:=rot_in (cmp:=cmp) (A:=A++S1) (X:=S2) (Y:=T1) (B:=T2++B) (a:=st) (m:=m) (b:=mid+m-st) (by rw [hst];simp) (by rw [hm];simp) (by rw [hmid,hm,hst];simp;omega) hS2n hT1n (by simp;omega);refine ⟨A++S1++T1++S2++T2++B, ?_,hj6⟩;simpa using this
 ·have:S2=[]∨T1=[]:=by
   simp only [Bool.and_eq_false_iff,decide_eq_false_iff_not] at h;rcases h with h | h
   ·left;exact List.eq_nil_of_length_eq_zero (by omega)
   ·right;exact List.eq_nil_of_length_eq_zero (by omega)
  have e:A++(S1++S2)++(T1++T2)++B=A++S1++T1++S2++T2++B:=by
   rcases this with rfl | rfl <;> simp
  rw [e];exact hj6
theorem sym_n {key:Cl→Int} {cmp:Cl × Cl × Int→Prop} (hc:zsr key cmp):∀(f:Nat) (A S T B:List Cl),S.length+T.length≤f→S≠[]→T≠[]→Srt key S→Srt key T→(A++S++T++B).length<4611686018427387904 →
  za.n f (A++S++T++B) (A.length:Int) ((A.length+S.length:Nat):Int) ((A.length+S.length+T.length:Nat):Int) cmp (A++srt key (S++T)++B):=by
 intro f
 induction f with
 | zero=>intro A S T B hf hS;exact absurd (List.eq_nil_of_length_eq_zero (by omega)) hS
 | succ f ih=>
  intro A S T B hf hSn hTn hS hT hlen;have hl:A.length+S.length+T.length+B.length<4611686018427387904:=by simp at hlen;omega
  have hs0:0<S.length:=List.length_pos_iff.2 hSn;have ht0:0<T.length:=List.length_pos_iff.2 hTn;have atS:∀c:Nat,A.length≤c→c<A.length+S.length→at? (A++S++T++B) (c:Int)=some (S.getD (c-A.length) 0#256):=fun c h1 h2=>by
   rw [show A++S++T++B=A++S++(T++B) by simp];exact at_gd h1 h2
  have atT:∀c:Nat,A.length+S.length≤c→c<A.length+S.length+T.length→at? (A++S++T++B) (c:Int)=some (T.getD (c-(A.length+S.length)) 0#256):=fun c h1 h2=>by
   have:=at_gd (A:=A++S) (S:=T) (B:=B) (c:=c) (by simp;omega) (by simp;omega);simpa using this
  refine ⟨zi (by omega) (by omega),fun h1=>?_,fun h1=>⟨zi (by omega) (by omega),fun h2=>?_,fun h2=>⟨zi (by omega) (by omega), ?_⟩⟩⟩
  ·-- one thing ahead
   have hs1:S.length=1:=by simp at h1;omega
   obtain ⟨x,rfl⟩:=List.length_eq_one_iff.1 hs1;refine bsearch (P:=fun k i j=>za.l2 (A++[x]++T++B) (A.length:Int) cmp _ k i j) (fun c=>decide (key (T.getD (c-(A.length+1)) 0#256)<key x)) (A.length+1) (A.length+1+T.length) (fun c d h1 h2 h3 h4=>?_) (fun k i j h1 h2 h3=>?_) (fun k i h1 h2 h3 h4=>?_) (by omega)
   ·have:=gd_le hT (i:=c-(A.length+1)) (j:=d-(A.length+1)) (by omega) (by omega);simp only [decide_eq_true_eq] at h4 ⊢;omega
   ·have hat:=atT ((i+j) / 2) (by simp;omega) (by simp;omega);have hax:=atS A.length (Nat.le_refl _) (by simp);have hh:∀(p:Prop),(((decide ((i:Int)<(j:Int)))=true→InR .i64 ((i:Int)+j)∧∃i42:Int,i42=(IntKind.wrap .i64 (zqk (IntKind.wrap .u64 ((i:Int)+j)) 1))∧∃e45:Cl,at? (A++[x]++T++B) i42=some e45∧∃e47:Cl,at? (A++[x]++T++B) (A.length:Int)=some e47∧∃r49:Int,cmp (e45,e47,r49)∧p)→True):=fun _ _=>trivial;constructor
    ·intro hp hk;refine ⟨fun _=>⟨zi (by omega) (by omega),_,rfl,T.getD ((i+j) / 2-(A.length+1)) 0#256, ?_,x,by simpa using hax,_,hc _ _,fun _=>⟨?_, ?_⟩,fun h=>?_⟩,fun h=>absurd (by omega) (df0 h)⟩
     ·rw [zf8 (by omega) (by omega),show ((i:Int)+j) / 2=(((i+j) / 2:Nat):Int) by omega];simpa using hat
     ·rw [zf8 (by omega) (by omega)];exact zi (by omega) (by omega)
     ·rw [zf8 (by omega) (by omega),show ((i:Int)+j) / 2+1=(((i+j) / 2+1:Nat):Int) by omega];exact hk
     ·exfalso;simp at h hp;omega
    ·intro hp hk;refine ⟨fun _=>⟨zi (by omega) (by omega),_,rfl,T.getD ((i+j) / 2-(A.length+1)) 0#256, ?_,x,by simpa using hax,_,hc _ _,fun h=>?_,fun _=>?_⟩,fun h=>absurd (by omega) (df0 h)⟩
     ·rw [zf8 (by omega) (by omega),show ((i:Int)+j) / 2=(((i+j) / 2:Nat):Int) by omega];simpa using hat
     ·exfalso;simp at h hp;omega
     ·rw [zf8 (by omega) (by omega),show ((i:Int)+j) / 2=(((i+j) / 2:Nat):Int) by omega];exact hk
   ·refine ⟨fun h=>absurd (dt0 h) (by omega),fun _=>?_⟩;obtain ⟨T1,T2,rfl,hT1⟩:=zft T (show i-(A.length+1)≤T.length by omega);have hlt:∀y∈T1,key y<key x:=fun y hy=>by
     obtain ⟨q,hq,rfl⟩:=List.mem_iff_getElem.1 hy;have:=h3 (A.length+1+q) (by omega) (by omega);rw [show A.length+1+q-(A.length+1)=q by omega,getD_l hq] at this;exact of_decide_eq_true this
    have hge:∀y∈T2,key x≤key y:=fun y hy=>by
     obtain ⟨q,hq,rfl⟩:=List.mem_iff_getElem.1 hy;have:=h4 (A.length+1+T1.length+q) (by omega) (by simp;omega);rw [show A.length+1+T1.length+q-(A.length+1)=T1.length+q by omega,getD_r hq] at this;have:=of_decide_eq_false this;omega
    have hres:srt key ([x]++(T1++T2))=T1++x::T2:=by
     refine (ziv (Srt.app.2 ⟨(Srt.app.1 hT).1,Srt.cons.2 ⟨hge,(Srt.app.1 hT).2.1⟩,fun p hp q hq=>?_⟩) ?_).symm
     ·rcases List.mem_cons.1 hq with rfl | hq
      ·exact Int.le_of_lt (hlt p hp)
      ·exact (Srt.app.1 hT).2.2 p hp q hq
     ·have e1:SEq key ([x]++T1) (T1++[x]):=zjy fun a ha b hb=>by simp at ha;subst ha;have:=hlt b hb;omega
      simpa using e1.app (SEq.refl key T2)
    rw [hres];have:=sm_l1 (A:=A) (B:=T2++B) (x:=x) (i:=(i:Int)) (X:=za.j1 (A++(T1++x::T2)++B)) T1 [] (by simp;omega) (by simp at hl ⊢;omega) (by simp [za.j1]);show ∃k15,za.l1 (i:Int) _ k15 _ _;simpa using this
  ·-- one thing behind
   have ht1:T.length=1:=by simp at h2;omega
   obtain ⟨y,rfl⟩:=List.length_eq_one_iff.1 ht1;refine bsearch (P:=fun k i j=>za.l4 (A++S++[y]++B) ((A.length+S.length:Nat):Int) cmp _ k i j) (fun c=>!decide (key y<key (S.getD (c-A.length) 0#256))) A.length (A.length+S.length) (fun c d h1 h2 h3 h4=>?_) (fun k i j h1 h2 h3=>?_) (fun k i h1 h2 h3 h4=>?_) (by omega)
   ·have:=gd_le hS (i:=c-A.length) (j:=d-A.length) (by omega) (by omega);simp only [Bool.not_eq_true',decide_eq_false_iff_not] at h4 ⊢;omega
   ·have hat:=atS ((i+j) / 2) (by omega) (by omega);have hay:=atT (A.length+S.length) (Nat.le_refl _) (by simp);constructor
    ·intro hp hk;refine ⟨fun _=>⟨zi (by omega) (by omega),_,rfl,y,by simpa using hay,S.getD ((i+j) / 2-A.length) 0#256, ?_,_,hc _ _,fun _=>⟨?_, ?_⟩,fun h=>?_⟩,fun h=>absurd (by omega) (df0 h)⟩
     ·rw [zf8 (by omega) (by omega),show ((i:Int)+j) / 2=(((i+j) / 2:Nat):Int) by omega];exact hat
     ·rw [zf8 (by omega) (by omega)];exact zi (by omega) (by omega)
     ·rw [zf8 (by omega) (by omega),show ((i:Int)+j) / 2+1=(((i+j) / 2+1:Nat):Int) by omega];exact hk
     ·exfalso;simp only [Bool.not_eq_true',Bool.not_eq_false',decide_eq_true_eq,decide_eq_false_iff_not] at h hp;omega
    ·intro hp hk;refine ⟨fun _=>⟨zi (by omega) (by omega),_,rfl,y,by simpa using hay,S.getD ((i+j) / 2-A.length) 0#256, ?_,_,hc _ _,fun h=>?_,fun _=>?_⟩,fun h=>absurd (by omega) (df0 h)⟩
     ·rw [zf8 (by omega) (by omega),show ((i:Int)+j) / 2=(((i+j) / 2:Nat):Int) by omega];exact hat
     ·exfalso;simp only [Bool.not_eq_true',Bool.not_eq_false',decide_eq_true_eq,decide_eq_false_iff_not] at h hp;omega
     ·rw [zf8 (by omega) (by omega),show ((i:Int)+j) / 2=(((i+j) / 2:Nat):Int) by omega];exact hk
   ·refine ⟨fun h=>absurd (dt0 h) (by omega),fun _=>?_⟩;obtain ⟨S1,S2,rfl,hS1⟩:=zft S (show i-A.length≤S.length by omega);have hle:∀x∈S1,key x≤key y:=fun x hx=>by
     obtain ⟨q,hq,rfl⟩:=List.mem_iff_getElem.1 hx;have:=h3 (A.length+q) (by omega) (by omega);rw [show A.length+q-A.length=q by omega,getD_l hq] at this;simp only [Bool.not_eq_true',decide_eq_false_iff_not] at this;omega
    have hgt:∀x∈S2,key y<key x:=fun x hx=>by
     obtain ⟨q,hq,rfl⟩:=List.mem_iff_getElem.1 hx;have:=h4 (A.length+S1.length+q) (by omega) (by simp;omega);rw [show A.length+S1.length+q-A.length=S1.length+q by omega,getD_r hq] at this;simpa using this
    have hres:srt key ((S1++S2)++[y])=S1++y::S2:=by
     refine (ziv (Srt.app.2 ⟨(Srt.app.1 hS).1,Srt.cons.2 ⟨fun q hq=>Int.le_of_lt (hgt q hq),(Srt.app.1 hS).2.1⟩,fun p hp q hq=>?_⟩) ?_).symm
     ·rcases List.mem_cons.1 hq with rfl | hq
      ·exact hle p hp
      ·exact (Srt.app.1 hS).2.2 p hp q hq
     ·have e1:SEq key (S2++[y]) ([y]++S2):=zjy fun a ha b hb=>by simp at hb;subst hb;have:=hgt a ha;omega
      simpa using (SEq.refl key S1).app e1
    rw [hres];have:=sm_l3 (A:=A++S1) (B:=B) (x:=y) (i:=(i:Int)) (X:=za.j3 (A++(S1++y::S2)++B)) S2.length S2 [] rfl (by simp;omega) (by simp at hl ⊢;omega) (by simp [za.j3]);show ∃k66,za.l3 (i:Int) _ k66 _ _;have e:(((A++S1).length+S2.length:Nat):Int)=((A.length+(S1++S2).length:Nat):Int):=by simp;omega
    rw [e] at this;simpa using this
  ·-- both longer
   have hs2:2≤S.length:=by simp at h1;omega
   have ht2:2≤T.length:=by simp at h2;omega
   obtain ⟨mid,hmid⟩:∃mid:Nat,mid=(A.length+(A.length+S.length+T.length)) / 2:=⟨_,rfl⟩;have hmidI:IntKind.wrap .i64 (zqk (IntKind.wrap .u64 ((A.length:Int)+((A.length+S.length+T.length:Nat):Int))) 1)=(mid:Int):=by
    rw [zf8 (by omega) (by omega)];omega
   refine ⟨_,rfl, ?_⟩;rw [hmidI];have main:∀(lo hi:Nat),(lo=A.length∨lo+(A.length+S.length+T.length)=mid+(A.length+S.length))→A.length≤lo→mid+(A.length+S.length)≤lo+(A.length+S.length+T.length)→(hi=mid∨hi=A.length+S.length)→hi≤mid→hi≤A.length+S.length→lo≤hi →
     za.j8 (za.n f) (A++S++T++B) (A.length:Int) ((A.length+S.length:Nat):Int) ((A.length+S.length+T.length:Nat):Int) cmp (A++srt key (S++T)++B) (mid:Int) (lo:Int) (hi:Int):=by
    intro lo hi hlo hla hlb hhi hhm hhs hle;refine ⟨zi (by omega) (by omega), ?_⟩;refine bsearch (P:=fun k i j=>za.l5 (A++S++T++B) ((A.length+S.length:Nat):Int) cmp (mid:Int) _ k i j) (fun c=>!decide (key (T.getD (mid-1-c) 0#256)<key (S.getD (c-A.length) 0#256))) lo hi (fun c d h1 h2 h3 h4=>?_) (fun k i j h1 h2 h3=>?_) (fun k st h1 h2 h3 h4=>?_) hle
    ·have e1:=gd_le hS (i:=c-A.length) (j:=d-A.length) (by omega) (by omega);have e2:=gd_le hT (i:=mid-1-d) (j:=mid-1-c) (by omega) (by omega);simp only [Bool.not_eq_true',decide_eq_false_iff_not] at h4 ⊢;omega
    ·have hat:=atS ((i+j) / 2) (by omega) (by omega);have hay:=atT (mid+(A.length+S.length)-1-(i+j) / 2) (by omega) (by omega);rw [show mid+(A.length+S.length)-1-(i+j) / 2-(A.length+S.length)=mid-1-(i+j) / 2 by omega] at hay;have hpc:(mid:Int)+((A.length+S.length:Nat):Int)-1-(((i+j) / 2:Nat):Int)=((mid+(A.length+S.length)-1-(i+j) / 2:Nat):Int):=by omega
     have hh:IntKind.wrap .i64 (zqk (IntKind.wrap .u64 ((i:Int)+(j:Int))) 1)=(((i+j) / 2:Nat):Int):=by rw [zf8 (by omega) (by omega)];omega
     constructor
     ·intro hp hk;refine ⟨fun _=>⟨zi (by omega) (by omega),_,rfl, ?_⟩,fun h=>absurd (by omega) (df0 h)⟩;rw [hh,hpc];refine ⟨zi (by omega) (by omega),_,hay,_,hat,_,hc _ _,fun _=>⟨zi (by omega) (by omega),by simpa using hk⟩,fun h=>?_⟩;exfalso;simp only [Bool.not_eq_true',Bool.not_eq_false',decide_eq_true_eq,decide_eq_false_iff_not] at h hp;omega
     ·intro hp hk;refine ⟨fun _=>⟨zi (by omega) (by omega),_,rfl, ?_⟩,fun h=>absurd (by omega) (df0 h)⟩;rw [hh,hpc];refine ⟨zi (by omega) (by omega),_,hay,_,hat,_,hc _ _,fun h=>?_,fun _=>hk⟩;exfalso;simp only [Bool.not_eq_true',Bool.not_eq_false',decide_eq_true_eq,decide_eq_false_iff_not] at h hp;omega
    ·refine ⟨fun h=>absurd (dt0 h) (by omega),fun _=>?_⟩;obtain ⟨S1,S2,rfl,hS1⟩:=zft S (show st-A.length≤S.length by omega);obtain ⟨T1,T2,rfl,hT1⟩:=zft T (show mid-st≤T.length by omega);simp only [List.length_append] at hmid hs2 ht2 hlo hla hlb hhi hhm hhs hf hl hS1 hT1 ⊢;refine sym_j7 (key:=key) ih hS hT hlen (fun t ht s hs=>?_) (fun s hs t ht=>?_) (by omega) (by omega) (by omega) (by omega) (by omega) (by omega)
     ·-- what stands ahead of the middle behind is less
      have hs2:0<S2.length:=List.length_pos_iff.2 (List.ne_nil_of_mem hs);have ht1:0<T1.length:=List.length_pos_iff.2 (List.ne_nil_of_mem ht);obtain ⟨q,hq,rfl⟩:=List.mem_iff_getElem.1 ht;obtain ⟨r,hr,rfl⟩:=List.mem_iff_getElem.1 hs;have hp:=h4 st (Nat.le_refl _) (by omega);rw [show mid-1-st=T1.length-1 by omega,show st-A.length=S1.length+0 by omega,getD_l (by omega),getD_r hs2] at hp;have e1:=zqi (Srt.app.1 hT).1 (i:=q) (j:=T1.length-1) (by omega) (by omega);have e2:=zqi (Srt.app.1 hS).2.1 (i:=0) (j:=r) (by omega) hr;simp only [Bool.not_eq_false',decide_eq_true_eq] at hp;omega
     ·have hs1:0<S1.length:=List.length_pos_iff.2 (List.ne_nil_of_mem hs);have ht2:0<T2.length:=List.length_pos_iff.2 (List.ne_nil_of_mem ht);obtain ⟨q,hq,rfl⟩:=List.mem_iff_getElem.1 ht;obtain ⟨r,hr,rfl⟩:=List.mem_iff_getElem.1 hs;have hp:=h3 (st-1) (by omega) (by omega);rw [show mid-1-(st-1)=T1.length+0 by omega,show st-1-A.length=S1.length-1 by omega,getD_r ht2,getD_l (X:=S1) (q:=S1.length-1) (by omega)] at hp;have e1:=zqi (Srt.app.1 hT).2.1 (i:=0) (j:=q) (by omega) hq;have e2:=zqi (Srt.app.1 hS).1 (i:=r) (j:=S1.length-1) (by omega) (by omega);simp only [Bool.not_eq_true',decide_eq_false_iff_not] at hp;omega
   refine ⟨zi (by omega) (by omega),fun h=>⟨zi (by omega) (by omega), ?_⟩,fun h=>?_⟩
   ·have hlt:mid<A.length+S.length:=by have:=dt0 h;omega
    have:=main (mid+(A.length+S.length)-(A.length+S.length+T.length)) mid (by omega) (by omega) (by omega) (.inl rfl) (Nat.le_refl _) (by omega) (by omega);rw [show ((mid+(A.length+S.length)-(A.length+S.length+T.length):Nat):Int)=(mid:Int)+((A.length+S.length:Nat):Int)-((A.length+S.length+T.length:Nat):Int) by omega] at this;exact this
   ·have hge:¬ mid<A.length+S.length:=by have:=df0 h;omega
    exact main A.length (A.length+S.length) (.inl rfl) (Nat.le_refl _) (by omega) (.inr rfl) (by omega) (Nat.le_refl _) (by omega)
def BS (key:Cl→Int) (n:Nat) (l:List Cl):Prop:=∀(i j:Nat) (hj:j<l.length) (hi:i≤j),i / n=j / n→key (l[i]'(by omega))≤key l[j]
theorem BS.of_srt {key:Cl→Int} {n:Nat} {l:List Cl} (h:Srt key l):BS key n l:=fun i j hj hi _=>zqi h hi hj
theorem BS.srt {key:Cl→Int} {n:Nat} {l:List Cl} (h:BS key n l) (hl:l.length≤n):Srt key l:=by
 refine List.pairwise_iff_getElem.2 fun i j hi hj hij=>h i j hj (Nat.le_of_lt hij) ?_;rw [Nat.div_eq_of_lt (by omega),Nat.div_eq_of_lt (by omega)]
theorem BS.app {key:Cl→Int} {n q:Nat} {P Q:List Cl} (hn:0<n) (hP:P.length=q*n) (h1:BS key n P) (h2:BS key n Q):BS key n (P++Q):=fun i j hj hi he=>by
 by_cases hjp:j<P.length
 ·rw [List.getElem_append_left (by omega),List.getElem_append_left hjp];exact h1 i j hjp hi he
 ·have hq:q≤j / n:=by rw [Nat.le_div_iff_mul_le hn];omega
  have hip:P.length≤i:=by
   rcases Nat.lt_or_ge i P.length with h | h
   ·have:i / n<q:=by rw [Nat.div_lt_iff_lt_mul hn];omega
    omega
   ·exact h
  rw [List.getElem_append_right hip,List.getElem_append_right (by omega)];refine h2 (i-P.length) (j-P.length) (by simp at hj;omega) (by omega) ?_;have e1:i=(i-P.length)+q*n:=by omega
  have e2:j=(j-P.length)+q*n:=by omega
  rw [e1,e2,Nat.add_mul_div_right _ _ hn,Nat.add_mul_div_right _ _ hn] at he;omega
theorem BS.left {key:Cl→Int} {n:Nat} {P Q:List Cl} (h:BS key n (P++Q)):BS key n P:=fun i j hj hi he=>by
 have:=h i j (by simp;omega) hi he
 rwa [List.getElem_append_left (by omega),List.getElem_append_left hj] at this
theorem BS.right {key:Cl→Int} {n q:Nat} {P Q:List Cl} (hn:0<n) (hP:P.length=q*n) (h:BS key n (P++Q)):BS key n Q:=fun i j hj hi he=>by
 have:=h (P.length+i) (P.length+j) (by simp;omega) (by omega) (by rw [hP,Nat.add_comm,Nat.add_comm (q*n) j,Nat.add_mul_div_right _ _ hn,Nat.add_mul_div_right _ _ hn,he]);rw [List.getElem_append_right (by omega),List.getElem_append_right (by omega)] at this;simpa using this
theorem sym_in {key:Cl→Int} {cmp:Cl × Cl × Int→Prop} (hc:zsr key cmp) {A S T B:List Cl} {a m b:Int} (ha:a=(A.length:Int)) (hm:m=((A.length+S.length:Nat):Int)) (hb:b=((A.length+S.length+T.length:Nat):Int)) (hS:S≠[]) (hT:T≠[]) (h1:Srt key S) (h2:Srt key T)
  (hl:(A++S++T++B).length<4611686018427387904):za (A++S++T++B) a m b cmp (A++srt key (S++T)++B):=by
 subst ha;subst hm;subst hb;exact ⟨_,sym_n hc _ A S T B (Nat.le_refl _) hS hT h1 h2 hl⟩
section
variable {key : Cl → Int} {cmp : Cl × Cl × Int → Prop} {xs : List Cl} {r : List Cl}
theorem st_l2 (hc:zsr key cmp) (hn:xs.length<1152921504606846976) {bs:Nat} (hbs:0<bs) (hbn:bs<xs.length) {L1:List Cl→Int→Prop} (hL:∀Q,BS key (2*bs) Q→SEq key xs Q→L1 Q ((bs:Int)*2)):
  ∀(f:Nat) (P R:List Cl) (q:Nat),R.length≤f→P.length=q*(2*bs)→BS key (2*bs) P→BS key bs R→SEq key xs (P++R) →
   ∃k,zb.l2 (xs.length:Int) cmp (bs:Int) (zb.j2 L1 (xs.length:Int) cmp (bs:Int)) k (P++R) (P.length:Int) ((P.length:Int)+2*(bs:Int)):=by
 intro f
 induction f with
 | zero=>
  intro P R q hf hP h1 h2 h3;have:=List.eq_nil_of_length_eq_zero (show R.length=0 by omega);subst this;have hl:=h3.length;simp at hl;refine ⟨1,fun h=>absurd (dt0 h) (by omega),fun _=>⟨zi (by omega) (by omega),fun h=>absurd (dt0 h) (by omega),fun _=>⟨zi (by omega) (by omega), ?_⟩⟩⟩;rw [List.append_nil] at h3 ⊢;exact hL P h1 h3
 | succ f ih=>
  intro P R q hf hP h1 h2 h3;have hl:=h3.length;simp at hl
  by_cases hle:P.length+2*bs≤xs.length
  ·obtain ⟨S,R1,rfl,hS⟩:=zft R (show bs≤R.length by omega);simp at hl;obtain ⟨T,R2,rfl,hT⟩:=zft R1 (show bs≤R1.length by omega);simp at hl hf;have hSs:=h2.left.srt (by omega);have h2':=BS.right hbs (q:=1) (by omega) h2;have hTs:=h2'.left.srt (by omega);have h2'':=BS.right hbs (q:=1) (by omega) h2';have hP2:(P++srt key (S++T)).length=(q+1)*(2*bs):=by simp [zhe,hP,Nat.add_mul];omega
   obtain ⟨k,hk⟩:=ih (P++srt key (S++T)) R2 (q+1) (by omega) hP2 (BS.app (by omega) hP h1 (BS.of_srt (zi8 _ _))) h2'' (h3.trans (by
    have:=(SEq.refl key P).app ((zgv key (S++T)).app (SEq.refl key R2));simpa using this))
   refine ⟨k+1,fun _=>⟨zi (by omega) (by omega),P++srt key (S++T)++R2, ?_,zi (by omega) (by omega),zi (by omega) (by omega), ?_⟩,fun h=>absurd (by omega) (df0 h)⟩
   ·have:=sym_in hc (A:=P) (S:=S) (T:=T) (B:=R2) (a:=(P.length:Int)) (m:=(P.length:Int)+(bs:Int)) (b:=(P.length:Int)+2*(bs:Int)) rfl (by omega) (by omega) (by rintro rfl;simp at hS;omega) (by rintro rfl;simp at hT;omega) hSs hTs (by simp;omega);simpa using this
   ·have e:(((P++srt key (S++T)).length:Nat):Int)=(P.length:Int)+2*(bs:Int):=by simp [zhe];omega
    rw [e] at hk;exact hk
  ·by_cases hm:P.length+bs<xs.length
   ·obtain ⟨S,T,rfl,hS⟩:=zft R (show bs≤R.length by omega);simp at hl;have hSs:=h2.left.srt (by omega);have hTs:=(BS.right hbs (q:=1) (by omega) h2).srt (by omega);refine ⟨1,fun h=>absurd (dt0 h) (by omega),fun _=>⟨zi (by omega) (by omega),fun _=>⟨P++srt key (S++T)++[], ?_,zi (by omega) (by omega), ?_⟩,fun h=>absurd (by omega) (df0 h)⟩⟩
    ·have:=sym_in hc (A:=P) (S:=S) (T:=T) (B:=[]) (a:=(P.length:Int)) (m:=(P.length:Int)+(bs:Int)) (b:=(xs.length:Int)) rfl (by omega) (by omega) (by rintro rfl;simp at hS;omega) (by rintro rfl;simp at hl;omega) hSs hTs (by simp;omega);simpa using this
    ·rw [List.append_nil];exact hL _ (BS.app (by omega) hP h1 (BS.of_srt (zi8 _ _))) (h3.trans (by
      have:=(SEq.refl key P).app (zgv key (S++T));simpa using this))
   ·refine ⟨1,fun h=>absurd (dt0 h) (by omega),fun _=>⟨zi (by omega) (by omega),fun h=>absurd (dt0 h) (by omega),fun _=>⟨zi (by omega) (by omega), ?_⟩⟩⟩;exact hL _ (BS.app (by omega) hP h1 (BS.of_srt (h2.srt (by omega)))) h3
theorem st_l1 (hc:zsr key cmp) (hn:xs.length<1152921504606846976):∀(f:Nat) (bs:Nat) (Q:List Cl),xs.length-bs≤f→0<bs→BS key bs Q→SEq key xs Q →
  zb.l1 (xs.length:Int) cmp (zb.j1 (srt key xs)) (f+1) Q (bs:Int):=by
 intro f
 induction f with
 | zero=>
  intro bs Q hf hbs h1 h2;have hl:=h2.length;exact ⟨fun h=>absurd (dt0 h) (by omega),fun _=>(ziv (h1.srt (by omega)) h2).symm⟩
 | succ f ih=>
  intro bs Q hf hbs h1 h2;have hl:=h2.length
  by_cases hlt:bs<xs.length
  ·refine ⟨fun _=>⟨zi (by omega) (by omega), ?_⟩,fun h=>absurd (by omega) (df0 h)⟩;have:=st_l2 hc hn hbs hlt (L1:=zb.l1 (xs.length:Int) cmp (zb.j1 (srt key xs)) (f+1)) (fun Q' hb hs=>by
    have:=ih (2*bs) Q' (by omega) (by omega) hb hs
    rwa [show (((2*bs:Nat)):Int)=(bs:Int)*2 by omega] at this) Q.length [] Q 0 (Nat.le_refl _) (by simp) (fun i j hj=>by simp at hj) h1 (by simpa using h2)
   simpa using this
  ·exact ⟨fun h=>absurd (dt0 h) (by omega),fun _=>(ziv (h1.srt (by omega)) h2).symm⟩
theorem st_l3 (hc:zsr key cmp) (hn:xs.length<1152921504606846976):∀(f:Nat) (P R:List Cl) (q:Nat),R.length≤f→P.length=q*20→BS key 20 P→SEq key xs (P++R) →
  ∃k,zb.l3 (xs.length:Int) cmp (zb.j3 (xs.length:Int) cmp (srt key xs)) k (P++R) (P.length:Int) ((P.length:Int)+20):=by
 intro f;have fin:∀(P R:List Cl) (q:Nat),P.length=q*20→BS key 20 P→SEq key xs (P++R)→R.length≤20→zb.j3 (xs.length:Int) cmp (srt key xs) (P++R) (P.length:Int):=by
  intro P R q hP h1 h3 hR;have hl:=h3.length;simp at hl;have:=ins_in hc (A:=P) (S:=R) (B:=[]) (a:=(P.length:Int)) (b:=(xs.length:Int)) rfl (by omega) (by simp;omega);refine ⟨P++srt key R,by simpa using this,_,st_l1 hc hn xs.length 20 _ (by omega) (by omega) (BS.app (by omega) hP h1 (BS.of_srt (zi8 _ _))) (h3.trans ((SEq.refl key P).app (zgv key R)))⟩
 induction f with
 | zero=>
  intro P R q hf hP h1 h3;have hl:=h3.length;simp at hl;exact ⟨1,fun h=>absurd (dt0 h) (by omega),fun _=>fin P R q hP h1 h3 (by omega)⟩
 | succ f ih=>
  intro P R q hf hP h1 h3;have hl:=h3.length;simp at hl
  by_cases hle:P.length+20≤xs.length
  ·obtain ⟨S,R1,rfl,hS⟩:=zft R (show 20≤R.length by omega);simp at hl hf;have hP2:(P++srt key S).length=(q+1)*20:=by simp [zhe,hP,Nat.add_mul];omega
   obtain ⟨k,hk⟩:=ih (P++srt key S) R1 (q+1) (by omega) hP2 (BS.app (by omega) hP h1 (BS.of_srt (zi8 _ _))) (h3.trans (by
    have:=(SEq.refl key P).app ((zgv key S).app (SEq.refl key R1));simpa using this))
   refine ⟨k+1,fun _=>⟨P++srt key S++R1, ?_,zi (by omega) (by omega), ?_⟩,fun h=>absurd (by omega) (df0 h)⟩
   ·have:=ins_in hc (A:=P) (S:=S) (B:=R1) (a:=(P.length:Int)) (b:=(P.length:Int)+20) rfl (by omega) (by simp;omega);simpa using this
   ·have e:(((P++srt key S).length:Nat):Int)=(P.length:Int)+20:=by simp [zhe];omega
    rw [e] at hk;exact hk
  ·exact ⟨1,fun h=>absurd (dt0 h) (by omega),fun _=>fin P R q hP h1 h3 (by omega)⟩
theorem stable_in (hc:zsr key cmp) (hn:xs.length<1152921504606846976):zbk xs cmp (srt key xs):=by
 have:=st_l3 hc hn xs.length [] xs 0 (Nat.le_refl _) (by simp) (fun i j hj=>by simp at hj) (SEq.refl _ _);refine ⟨_, ?_,rfl⟩;unfold zb;simpa using this
end
end Go.Proofs.YtjdaaiodniicoaaGreatDoor.V
namespace Go.Proofs.YtjdaaiodniicoaaGreatDoor.V
open Go
set_option linter.unusedVariables false
theorem lk0_le (p:Cl):0≤lk0 p∧lk0 p≤255:=by
 unfold lk0
 by_cases h:0<p.count
 ·obtain ⟨n,h1,h2,_,_⟩:=zr0 h;rw [h2];simp;omega
 ·have:p.least=(0,false):=zim fun m hm=>by
   cases hb:p.has m
   ·rfl
   ·exact absurd (count_pos hm hb) h
  rw [this];simp
theorem split_cmp:zsr lk0 (fun q_=>zer q_.1 q_.2.1 (fun q_=>zeb q_.1 q_.2) q_.2.2):=fun x y=>by
 have h1:=lk0_le x;have h2:=lk0_le y;exact ⟨lk0 x,⟨_,zhm,rfl⟩,lk0 y,⟨_,zhm,rfl⟩,zi (by omega) (by omega),rfl⟩
theorem flat_len2 (a:Cl) (l:List Cl):(l.flatMap (zg9 a)).length≤2*l.length:=by
 induction l with
 | nil=>simp
 | cons p l ih=>
  rw [List.flatMap_cons,List.length_append];have:(zg9 a p).length≤2:=by
   have:=List.length_filter_le (fun q:Cl=>decide (0<q.count)) [p &&& a,p &&& ~~~ a];simpa [zg9] using this
  rw [List.length_cons];omega
theorem zn5 {ps:List Cl} {a:Cl} (hl:ps.length≤1073741823):zbc ps a (zn6 ps a):=by
 refine zh8 (P:=fun k (s:List Cl) v=>zbc.l1 ps a _ k s v) ps.length (fun i s=>s=(ps.take i).flatMap (zg9 a)) ?_ ?_ _ (by simp)
 ·rintro i s hi rfl;refine .inr ⟨_,rfl,fun k h=>⟨fun _=>⟨ps[i],by rw [zbm];simp [hi],_,zlo,_,zmu,_,zlo, ?_⟩,fun h=>absurd (by omega) (df h)⟩⟩;have hb:=flat_len2 a (ps.take i);simp only [List.length_take] at hb;refine zh8 (P:=fun k (s:List Cl) v=>zbc.l2 _ _ _ k s v) 2 (fun j s=>s=(ps.take i).flatMap (zg9 a)++([ps[i] &&& a,ps[i] &&& ~~~ a].take j).filter fun q=>decide (0<q.count)) ?_ ?_ _ (by simp)
  ·rintro j s hj rfl;have hlen:(([ps[i] &&& a,ps[i] &&& ~~~ a].take j).filter fun q=>decide (0<q.count)).length≤1:=by
    have:=List.length_filter_le (fun q:Cl=>decide (0<q.count)) ([ps[i] &&& a,ps[i] &&& ~~~ a].take j);simp at this;omega
   refine .inr ⟨_,rfl,fun k h=>⟨fun _=>⟨[ps[i] &&& a,ps[i] &&& ~~~ a][j],by rw [zbm];simp [hj],_,zp3,fun hc=>?_,fun hc=>?_⟩,fun h=>absurd (by simp;omega) (df h)⟩⟩
   ·have hc:=dt hc;rw [List.take_succ_eq_append_getElem (by simpa using hj),List.filter_append,List.filter_cons_of_pos (by simp;omega),List.filter_nil,← List.append_assoc] at h;exact ⟨by simp only [List.length_append,List.length_cons,List.length_nil];omega,zi (by omega) (by omega),h⟩
   ·have hc:=df hc;rw [List.take_succ_eq_append_getElem (by simpa using hj),List.filter_append,List.filter_cons_of_neg (by simp;omega),List.filter_nil,List.append_nil] at h;exact ⟨zi (by omega) (by omega),h⟩
  ·rintro s rfl k2;refine ⟨fun h=>absurd (dt h) (by simp),fun _=>⟨zi (by omega) (by omega), ?_⟩⟩;rw [List.take_succ_eq_append_getElem hi,List.flatMap_append] at h;simpa [zg9] using h
 ·rintro s rfl k;refine ⟨fun h=>absurd (dt h) (by omega),fun _=>⟨_,stable_in split_cmp ?_, ?_⟩⟩
  ·have:=flat_len2 a (ps.take ps.length);simp only [List.length_take,Nat.min_self] at this;omega
  ·simp [zn6]
theorem zn7 (l:List Cl) (i:Nat):(zg2 (l.take i)).length≤256:=by
 rw [splitP_eq];have:=heads_len (l.take i);simpa [parts] using this
theorem zpp {l:List Cl} (hl:l.length≤1073741823):zca l (zg2 l):=by
 refine ⟨_,zmu, ?_⟩;refine zh8 (P:=fun k (s:List Cl) v=>zca.l1 l _ k s v) l.length (fun i s=>s=zg2 (l.take i)) ?_ ?_ _ (by simp [zg2])
 ·rintro i s hi rfl;have:=zn7 l i;refine .inr ⟨_,rfl,fun k h=>⟨fun _=>⟨l[i],by rw [zbm];simp [hi],_,zn5 (by omega),zi (by omega) (by omega), ?_⟩,fun h=>absurd (by omega) (df h)⟩⟩;have e:zg2 (l.take i++[l[i]])=zn6 (zg2 (l.take i)) l[i]:=by unfold zg2;rw [List.foldl_append];rfl
  rw [List.take_succ_eq_append_getElem hi,e] at h;exact h
 ·rintro s rfl k;exact ⟨fun h=>absurd (dt h) (by omega),fun _=>by rw [List.take_length];rfl⟩
theorem zpr {l:List Cl} (hl:l.length≤1073741823):zcb l (zqj l):=by
 refine ⟨_,zpp hl, ?_⟩;have hlen:=zn7 l l.length;rw [List.take_length] at hlen;refine zh8 (P:=fun k (s:List Int) v=>zcb.l1 (zg2 l) _ k s v) (zg2 l).length (fun i s=>s=((zg2 l).take i).map lk0) ?_ ?_ _ (by simp)
 ·rintro i s hi rfl;refine .inr ⟨_,rfl,fun k h=>⟨fun _=>⟨(zg2 l)[i],by rw [zbm];simp [hi],_,zhm,by simp;omega,zi (by omega) (by omega), ?_⟩,fun h=>absurd (by omega) (df h)⟩⟩;rw [List.take_succ_eq_append_getElem hi,List.map_append] at h;exact h
 ·rintro s rfl k;exact ⟨fun h=>absurd (dt h) (by omega),fun _=>by rw [List.take_length];rfl⟩
theorem zpx {a b:List Int} (ha:a.length<9223372036854775807):zcd a b (decide (a=b)):=by
 refine ⟨fun h=>?_,fun h=>?_⟩
 ·simp at h;exact decide_eq_false fun e=>by subst e;omega
 ·have hl:a.length=b.length:=by simp at h;omega
  refine zh8 (P:=fun k (_:Unit) v=>zcd.l1 a b (decide (a=b)) _ k v) a.length (fun i _=>∀j (hj:j<i) (h1:j<a.length),a[j]=b[j]'(by omega)) ?_ ?_ () (by intro j hj;omega)
  ·intro i s hi hs;have hat:at? a (i:Int)=some a[i]:=by rw [zbm];simp [hi]
   have hbt:at? b (i:Int)=some (b[i]'(by omega)):=by rw [zbm];simp [show i<b.length by omega]
   by_cases he:a[i]=b[i]'(by omega)
   ·refine .inr ⟨(),fun j hj h1=>?_,fun k h=>⟨fun _=>⟨_,hat,_,hbt,fun h=>by simp [he] at h,fun _=>⟨zi (by omega) (by omega),h⟩⟩,fun h=>absurd (by omega) (df h)⟩⟩
    by_cases hji:j=i
    ·subst hji;exact he
    ·exact hs j (by omega) h1
   ·exact .inl fun k=>⟨fun _=>⟨_,hat,_,hbt,fun _=>decide_eq_false fun e=>he (by subst e;rfl),fun h=>by simp at h;exact absurd h he⟩,fun h=>absurd (by omega) (df h)⟩
  ·intro s hs k;refine ⟨fun h=>absurd (dt h) (by omega),fun _=>?_⟩;show decide (a=b)=true;exact decide_eq_true (List.ext_getElem hl fun j h1 h2=>hs j h1 h1)
theorem zop {a b:List SItem} (h:zp6 a) (k:zp6 b):zp6 (a++b):=fun x hx=>(List.mem_append.1 hx).elim (h x) (k x)
theorem pm_noend {d:List SNode} (hd:ROk d):∀(k:Nat) (i:Int),i<(k:Int)→∀p∈pm d i,zp6 p
 | 0,i,hi,p,hp=>by
  have:at? d i=none:=at_none (.inl (by omega));unfold pm at hp;rw [zis hd d.length 0 i] at hp
  ·simp [PM] at hp
  ·omega
  ·omega
 | k+1,i,hi,p,hp=>by
  have ih:=pm_noend hd k;cases hn:at? d i with
  | none=>
   exfalso;unfold pm at hp;cases hdl:d.length with
   | zero=>rw [hdl] at hp;simp [PM] at hp
   | succ m=>rw [hdl] at hp;simp [PM,hn] at hp
  | some n=>
   have one:∀x:SItem,x.1≠5→zp6 [x]:=fun x h y hy=>by rw [List.mem_singleton.1 hy];exact h
   have e1:pm d i=(PM d d.length i).1:=rfl;rw [e1,zit hd hn] at hp
   by_cases h1:n.1=1
   ·rw [if_pos h1] at hp;cases hp
   ·rw [if_neg h1] at hp
    by_cases h3:n.1=3
    ·rw [if_pos h3,List.mem_singleton] at hp;subst hp;exact one _ (by simp)
    ·rw [if_neg h3] at hp
     by_cases h4:n.1=4
     ·rw [if_pos h4] at hp;obtain ⟨⟨a,b⟩,c,e⟩:=hd.two _ n hn (.inl h4);rcases List.mem_append.1 hp with hp | hp
      ·obtain ⟨q,hq,rfl⟩:=List.mem_map.1 hp;exact zop (ih _ (by omega) q hq) (one _ (by simp))
      ·obtain ⟨L,hL,hp⟩:=List.mem_flatten.1 hp;rw [(List.mem_replicate.1 hL).2] at hp;exact ih _ (by omega) p hp
     ·rw [if_neg h4] at hp
      by_cases h5:n.1=5
      ·rw [if_pos h5] at hp;obtain ⟨⟨a,b⟩,c,e⟩:=hd.two _ n hn (.inr h5);rcases List.mem_append.1 hp with hp | hp
       ·exact ih _ (by omega) p hp
       ·exact ih _ (by omega) p hp
      ·rw [if_neg h5] at hp
       by_cases h6:n.1=6
       ·rw [if_pos h6] at hp;obtain ⟨a,b⟩:=hd.one _ n hn (.inl h6);obtain ⟨q,hq,rfl⟩:=List.mem_map.1 hp;exact zop (ih _ (by omega) q hq) (one _ (by simp))
       ·rw [if_neg h6] at hp
        by_cases h7:n.1=7
        ·rw [if_pos h7] at hp;obtain ⟨a,b⟩:=hd.one _ n hn (.inr (.inl h7));simp only at hp;split at hp
         ·obtain ⟨q,hq,rfl⟩:=List.mem_map.1 hp;exact zop (ih _ (by omega) q hq) (one _ (by simp))
         ·cases hp
        ·rw [if_neg h7,List.mem_singleton] at hp;subst hp;exact one _ (by simp)
def shJ (c:Int) (x:SItem):SItem:=if x.1=5 then x else shI c x
def shT (c:Int) (s:List SItem):List SItem:=s.map (shJ c)
theorem zkp (c:Int) (a b:List SItem):shT c (a++b)=shT c a++shT c b:=List.map_append ..
theorem shT_noend {c:Int} {s:List SItem} (h:zp6 s):shS c s=shT c s:=List.map_congr_left fun x hx=>by unfold shJ;rw [if_neg (h x hx)]
section
variable {l l' : List SNode} {c : Int} (h : Emb l l' c) (hl : ROk l) (hl' : ROk l')
include h hl hl'
theorem pmI_emb {x:SItem} (hx:ze0 l x=true):pmI l' (shJ c x)=(pmI l x).map (shT c)∧nwI l' (shJ c x)=nwI l x:=by
 by_cases h5:x.1=5
 ·have e:shJ c x=x:=by unfold shJ;rw [if_pos h5]
  rw [e];unfold pmI nwI;simp [h5]
 ·obtain ⟨n,hn,hk⟩:=zfh hx h5;have e:shJ c x=shI c x:=by unfold shJ;rw [if_neg h5]
  rw [e];have pmT:∀(i:Int) m,at? l i=some m→pm l' (i+c)=(pm l i).map (shT c)∧nw l' (i+c)=nw l i:=fun i m hm=>by
   obtain ⟨p1,p2⟩:=PM_emb h hl hl' (i.toNat+1) i m (by have:=zbq hm;omega) hm;refine ⟨?_,p2⟩;rw [p1];exact List.map_congr_left fun p hp=>shT_noend (pm_noend hl (i.toNat+1) i (by have:=zbq hm;omega) p hp)
  rcases hk with h1 | ⟨h2,h7⟩ | ⟨h3,_⟩ | ⟨h4,_⟩
  ·have:=pmT _ n hn;unfold pmI nwI;have e1:(shI c x).1=1:=h1;rw [if_pos e1,if_pos h1,if_pos e1,if_pos h1];exact this
  ·obtain ⟨m,hm,f1,f2,f3,f4,f5⟩:=h.get hn;obtain ⟨a,b⟩:=hl.one _ n hn (.inr (.inl h7));obtain ⟨m1,hm1⟩:=zdg hn a b;obtain ⟨p1,_⟩:=pmT _ m1 hm1;have e1:(shI c x).1=2:=h2;have A:pmI l' (shI c x)=if 0<x.2.2.2 then (pm l' m.2.1).map (·++[(2,x.2.1+c,max (x.2.2.1-1) 0,x.2.2.2-1)]) else []:=by
    unfold pmI;rw [if_neg (by rw [e1];decide),if_pos e1,show (shI c x).2.1=x.2.1+c from rfl,hm];rfl
   have B:pmI l x=if 0<x.2.2.2 then (pm l n.2.1).map (·++[(2,x.2.1,max (x.2.2.1-1) 0,x.2.2.2-1)]) else []:=by
    unfold pmI;rw [if_neg (by rw [h2];decide),if_pos h2,hn]
   have C:nwI l' (shI c x)=nwI l x:=by
    unfold nwI;have k1:¬ (shI c x).1=1:=by rw [e1];decide
    have k2:¬ x.1=1:=by rw [h2];decide
    rw [if_neg k1,if_pos e1,if_neg k2,if_pos h2];rfl
   refine ⟨?_,C⟩;rw [A,B];split
   ·rw [f2 (by omega),p1,List.map_map,List.map_map];refine List.map_congr_left fun q _=>?_;simp only [Function.comp];rw [zkp];rfl
   ·rfl
  ·unfold pmI nwI;have e1:(shI c x).1=3:=h3;rw [if_neg (by omega),if_neg (by omega),if_neg (by omega),if_neg (by omega),if_neg (by omega),if_neg (by omega)];rw [if_neg (by omega),if_neg (by omega),if_neg (by omega),if_neg (by omega),if_neg (by omega),if_neg (by omega)];refine ⟨?_,rfl⟩;simp [shT,e]
  ·unfold pmI nwI;have e1:(shI c x).1=4:=h4;rw [if_neg (by omega),if_neg (by omega),if_neg (by omega),if_neg (by omega),if_neg (by omega),if_neg (by omega)];rw [if_neg (by omega),if_neg (by omega),if_neg (by omega),if_neg (by omega),if_neg (by omega),if_neg (by omega)];refine ⟨?_,rfl⟩;simp [shT,e]
theorem hds_emb:∀s:List SItem,zd6 l s=true→hds l' (shT c s)=(hds l s).map (shT c)
 | [],_=>rfl
 | x::rest,hf=>by
  obtain ⟨h1,h2⟩:=zdp hf;obtain ⟨p,q⟩:=pmI_emb h hl hl' h1;have ih:=hds_emb rest h2;show (pmI l' (shJ c x)).map (·++shT c rest)++(List.replicate (nwI l' (shJ c x)) (hds l' (shT c rest))).flatten=((pmI l x).map (·++rest)++(List.replicate (nwI l x) (hds l rest)).flatten).map (shT c);rw [p,q,ih,List.map_append,List.map_map,List.map_map,← rep_map]
  congr 1
  refine List.map_congr_left fun t _=>?_;simp only [Function.comp];rw [zkp]
omit h hl hl' in
theorem lowF_sh (c:Int) (s:List SItem):zds (shT c s)=(shT c (zds s).1,(zds s).2):=by
 have b:∀x:SItem,badI (shJ c x)=badI x:=fun x=>by
  unfold shJ
  split
  ·rfl
  ·rfl
 have l:∀x:SItem,zi3 (shJ c x)=shJ c (zi3 x):=fun x=>by
  by_cases h5:x.1=5
  ·have e1:zi3 x=(x.1,x.2.1,x.2.2.1-1,x.2.2.2):=by unfold zi3;rw [if_pos h5]
   have e2:shJ c x=x:=by unfold shJ;rw [if_pos h5]
   have e3:shJ c (zi3 x)=zi3 x:=by unfold shJ;rw [if_pos (by rw [e1];exact h5)]
   rw [e2,e3]
  ·have e1:zi3 x=x:=by unfold zi3;rw [if_neg h5]
   have e2:shJ c x=shI c x:=by unfold shJ;rw [if_neg h5]
   rw [e1,e2]
   unfold zi3
   rw [if_neg (show ¬ (shI c x).1=5 from h5)]
 unfold zds
 have e:(shT c s).any badI=s.any badI:=by
  unfold shT
  rw [List.any_map]
  congr 1
  funext x
  exact b x
 rw [e]
 split
 ·rfl
 ·simp only [shT,List.map_map]
  congr 1
  exact List.map_congr_left fun x _=>l x
omit hl hl' in
theorem readF_emb {t:List SItem} (hf:zd6 l t=true) (hr:rdy l t=true) (b:Int):zba l' (shT c t) b=(shT c (zba l t b).1,(zba l t b).2):=by
 cases t with
 | nil=>rfl
 | cons x rest=>
  obtain ⟨n,hn,hm,hk⟩:=zih hf hr
  have h5:x.1≠5:=by omega
  have e:shJ c x=shI c x:=by unfold shJ;rw [if_neg h5]
  have es:shT c (x::rest)=shI c x::shT c rest:=by show shJ c x::_=_;rw [e];rfl
  have hm':=h.at' _ _ hn
  have n1:(zmb c n).1=n.1:=rfl
  have nt:(zmb c n).2.2.2.2.2=n.2.2.2.2.2:=rfl
  have x1:(shI c x).1=x.1:=rfl
  have x2:(shI c x).2.1=x.2.1+c:=rfl
  have x3:(shI c x).2.2=x.2.2:=rfl
  have five:∀v:Int,shJ c (5,0,v,0)=(5,0,v,0):=fun v=>rfl
  have a4:4≤n.1→(zmb c n).2.1=n.2.1+c:=fun h4=>by unfold zmb;rw [if_pos h4]
  rw [es]
  unfold zba
  simp only [lowF_sh,x2,hm',hn,x1,n1,nt,x3]
  by_cases hl0:(zds rest).2=false
  ·rw [if_pos hl0,if_pos hl0];rfl
  ·rw [if_neg hl0,if_neg hl0]
   by_cases h3:x.1=3
   ·rw [if_pos h3,if_pos h3]
    split
    ·split
     ·rw [zkp];rfl
     ·rw [zkp];rfl
    ·rfl
   ·rw [if_neg h3,if_neg h3]
    by_cases h4:x.1=4
    ·have h9:n.1=9:=by omega
     rw [if_pos h4,if_pos h4,a4 (by omega),zkp];rfl
    ·rw [if_neg h4,if_neg h4]
     by_cases h8:n.1=8
     ·rw [if_pos h8,if_pos h8,a4 (by omega),zkp];rfl
     ·rw [if_neg h8,if_neg h8]
      by_cases h9:n.1=9
      ·rw [if_pos h9,if_pos h9,zkp];rfl
      ·rw [if_neg h9,if_neg h9]
       split <;> rfl
theorem wyn_emb:∀(w:List Int) (s:List SItem),(∀b∈w,InR .u8 b)→zd6 l s=true→wyn l' w (shT c s)=wyn l w s
 | [],s,_,hf=>by
  show (hds l' (shT c s)).count []=(hds l s).count [];rw [hds_emb h hl hl' s hf,zc1,zc1,zd3];refine ze3 fun t _=>?_;cases t with
  | nil=>rfl
  | cons x t=>rfl
 | b::w,s,hw,hf=>by
  show zb6 _ (hds l' (shT c s))=zb6 _ (hds l s);rw [hds_emb h hl hl' s hf,zd3];refine ze3 fun t ht=>?_;obtain ⟨L,⟨k,hk⟩,hp⟩:=zqt hl s hf;obtain ⟨h3,h4⟩:=lv_vs hl (n0:=s.length) k s L hk (Vs.start hf (Nat.le_refl _)) t (hp.mem_iff.2 ht);rw [readF_emb h h3.form h4 b];cases hr:(zba l t b).2
  ·rfl
  ·simp only [if_true];exact wyn_emb w _ (fun e he=>hw e (by simp [he])) (form_read hl h3.form h4 (hw b (by simp)))
theorem node_emb {i:Int} {n:SNode} (hn:at? l i=some n) {w:List Int} (hw:∀b∈w,InR .u8 b):zbr l' (i+c) w=zbr l i w:=by
 have:=wyn_emb h hl hl' w [(1,i,0,0)] hw (zfi (zhb ⟨n,hn⟩) rfl);exact this
end
end Go.Proofs.YtjdaaiodniicoaaGreatDoor.V
namespace Go.Proofs.YtjdaaiodniicoaaGreatDoor.V
open Go
set_option linter.unusedVariables false
theorem zgc {α:Type} {xs:List α} {i:Nat} (h:i<xs.length):at? xs (i:Int)=some xs[i]:=by rw [zbm];exact List.getElem?_eq_getElem h
theorem item_StartS {d:List SNode} (h:d≠[]) (hl:d.length≤1000):zj6 d (stS d):=by
 have:=List.length_pos_iff.2 h;exact ⟨zi (by omega) (by omega),rfl⟩
theorem zht {d:List SNode} {s:List SItem} (h:Sm d s) {c:Int} (hc:InR .u8 c) {t:List SItem} (ht:t∈zct d c s):t.length≤1000:=by
 have:=(step_ok h.rt.toROk h.form hc t ht).2;have:=h.slen;have:=h.len;omega
theorem zob {d:List SNode} {l:List (List SItem)} (hl:∀s∈l,Sm d s) (hn:l.length≤2000000000) (hc:(zsh d l).length*32≤140737488355328):zbv d l (zsh d l):=by
 refine zh8 (P:=fun k out v=>zbv.l1 d l _ k out v) l.length (fun i out=>out=zsh d (l.take i)) ?_ ?_ _ (by simp [zsh])
 ·rintro i out hi rfl;have e:zsh d (l.take (i+1))=zsh d (l.take i)++clsA d l[i]:=by
   unfold zsh;rw [List.take_succ_eq_append_getElem hi,List.flatMap_append];simp
  refine .inr ⟨_,rfl,fun k hk=>⟨fun _=>⟨_,zgc hi,_,(clsA_in (hl _ (List.getElem_mem hi))).1, ?_,zi (by omega) (by omega),by rw [← e];exact hk⟩,fun h=>absurd (by omega) (df h)⟩⟩;have h2:zsh d l=zsh d (l.take (i+1))++zsh d (l.drop (i+1)):=by unfold zsh;rw [← List.flatMap_append,List.take_append_drop]
  have h3:=congrArg List.length h2;rw [e,List.length_append,List.length_append] at h3;omega
 ·rintro out rfl k;refine ⟨fun h=>absurd (dt h) (by omega),fun _=>?_⟩;show zsh d l=_;rw [List.take_length]
theorem sets_Once_in {l:List Cl} (hn:l.length≤140737488351232) (ho:(zf6 l).length≤2147483647):zc4 l (zf6 l):=by
 have hpre:∀i,(zf6 (l.take i)).length≤(zf6 l).length:=fun i=>by
  refine zkt (zon _) fun x hx=>(zhx l).2 (List.mem_of_mem_take ((zhx _).1 hx))
 refine zh8 (P:=fun k (s:List (Cl × Bool) × List Cl) v=>zc4.l1 l _ k s.1 s.2 v) l.length (fun i s=>s.2=zf6 (l.take i)∧∀x,zd4 s.1 x false=decide (x∈l.take i)) ?_ ?_ ([],[]) ⟨by simp [zf6],fun x=>by simp [zd4]⟩
 ·rintro i ⟨met,out⟩ hi ⟨h1,h2⟩;simp only at h1 h2;subst h1;have htk:l.take (i+1)=l.take i++[l[i]]:=List.take_succ_eq_append_getElem hi;have hnext:∀x,zd4 (zf4 met l[i] true) x false=decide (x∈l.take (i+1)):=fun x=>by
   rw [zov,h2,htk]
   by_cases hx:l[i]=x
   ·rw [if_pos hx];exact (decide_eq_true (List.mem_append.2 (.inr (by rw [← hx];exact List.mem_singleton.2 rfl)))).symm
   ·rw [if_neg hx];exact decide_eq_decide.2 ⟨fun h=>List.mem_append.2 (.inl h),fun h=>(List.mem_append.1 h).resolve_right fun e=>hx (List.mem_singleton.1 e).symm⟩
  have hp1:=hpre (i+1)
  by_cases hm:l[i]∈l.take i
  ·refine .inr ⟨(zf4 met l[i] true,zf6 (l.take i)),⟨?_,hnext⟩,fun k hk=>⟨fun _=>⟨_,zgc hi,fun h=>?_,fun _=>⟨zi (by omega) (by omega),hk⟩⟩,fun h=>absurd (by omega) (df h)⟩⟩
   ·rw [htk,zj1,if_pos ((zhx _).2 hm)]
   ·rw [h2,decide_eq_true hm] at h;cases h
  ·have e:zf6 (l.take (i+1))=zf6 (l.take i)++[l[i]]:=by rw [htk,zj1,if_neg fun h=>hm ((zhx _).1 h)]
   refine .inr ⟨(zf4 met l[i] true,zf6 (l.take i)++[l[i]]),⟨e.symm,hnext⟩,fun k hk=>⟨fun _=>⟨_,zgc hi,fun _=>⟨?_,zi (by omega) (by omega),hk⟩,fun h=>?_⟩,fun h=>absurd (by omega) (df h)⟩⟩
   ·rw [e] at hp1;simp only [List.length_append,List.length_cons,List.length_nil] at hp1 ⊢;omega
   ·rw [h2,decide_eq_false hm] at h;cases h
 ·rintro ⟨met,out⟩ ⟨h1,h2⟩ k;simp only at h1;subst h1;refine ⟨fun h=>absurd (dt h) (by omega),fun _=>?_⟩;show zf6 l=_;rw [List.take_length]
theorem Sm.short {d:List SNode} {s:List SItem} (h:Sm d s):s.length≤1000:=by have:=h.slen;omega
end Go.Proofs.YtjdaaiodniicoaaGreatDoor.V
