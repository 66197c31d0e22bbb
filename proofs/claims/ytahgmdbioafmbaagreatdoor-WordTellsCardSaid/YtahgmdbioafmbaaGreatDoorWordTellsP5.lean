/-
  The texts that the law's proof needs, part 5.
-/
import Derived.Test.YtahgmdbioafmbaaGreatDoorWordTellsP4

namespace Go.Proofs.YtahgmdbioafmbaaGreatDoor.V
open Go
set_option linter.unusedVariables false
theorem exl {ρ:Type} {γ:Sort _} {P:γ→ρ→Prop} (c:γ) (h:∃r,P c r):∃r,∃c,P c r:=let ⟨r,h⟩:=h;⟨r,c,h⟩
theorem zni {ρ:Type} {A:Prop} {B:ρ→Prop} (a:A) (h:∃r,B r):∃r,A∧B r:=let ⟨r,h⟩:=h;⟨r,a,h⟩
theorem pick {ρ:Type} [Inhabited ρ] {b:Bool} {X Y:ρ→Prop} (h1:b=true→∃r,X r) (h2:b=false→∃r,Y r):∃r,(b=true→X r)∧(b=false→Y r):=by
 cases b
 ·obtain ⟨r,h⟩:=h2 rfl;exact ⟨r,(fun h=>by cases h),fun _=>h⟩
 ·obtain ⟨r,h⟩:=h1 rfl;exact ⟨r,fun _=>h,(fun h=>by cases h)⟩
def sumT (l:List SNode):Nat:=(l.map fun n=>n.2.2.2.2.2.2.length).sum
theorem sumT_le {l:List SNode} (h:∀n∈l,n.2.2.2.2.2.2.length≤140737488351232):sumT l≤l.length*140737488351232:=by
 induction l with
 | nil=>simp [sumT]
 | cons x l ih=>
  have h1:=h x (by simp);have h2:=ih fun n hn=>h n (by simp [hn]);simp only [sumT,List.map_cons,List.sum_cons,List.length_cons] at h2 ⊢;omega
theorem few_ex {d:List SNode} (ht:∀n∈d,n.2.2.2.2.2.2.length≤140737488351232):∃r,zdr d r∧(r=true→d.length≤100):=by
 refine ⟨decide ((d.length:Int)≤100)&&decide (((sumT (d.take (min d.length 200)):Nat):Int)≤2000), ?_,fun h=>?_⟩
 ·refine zf2 (P:=fun k (s:Int) v=>zdr.l1 d _ k s v) (min d.length 200) (fun i s=>s=((sumT (d.take i):Nat):Int)) ?_ ?_ _ (by simp [sumT])
  ·rintro i s hi rfl;have hd:i<d.length:=by omega
   have h1:=sumT_le (l:=d.take i) fun n hn=>ht n (List.mem_of_mem_take hn);have h2:=ht _ (List.getElem_mem hd);have h3:(d.take i).length=i:=by simp;omega
   rw [h3] at h1;have h4:i*140737488351232≤200*140737488351232:=Nat.mul_le_mul_right _ (by omega);have e:sumT (d.take (i+1))=sumT (d.take i)+d[i].2.2.2.2.2.2.length:=by
    unfold sumT;rw [List.take_succ_eq_append_getElem hd,List.map_append,List.sum_append];simp only [List.map_cons,List.map_nil,List.sum_cons,List.sum_nil,Nat.add_zero]
   refine .inr ⟨_,rfl,fun k h=>⟨true,by simp;omega,fun _=>⟨d[i],by rw [zbw];simp [hd],zh (by omega) (by omega),zh (by omega) (by omega), ?_⟩,(fun h=>by cases h)⟩⟩;rw [e] at h;simpa using h
  ·rintro s rfl k;exact ⟨false,by simp;omega,(fun h=>by cases h),fun _=>⟨_,rfl,rfl⟩⟩
 ·simp only [Bool.and_eq_true,decide_eq_true_eq] at h;omega
theorem byte_in {s:Str} {i:Int} (h0:0≤i) (h1:i<(s.length:Int)):∃c,zej s i=some c:=by
 obtain ⟨x,hx,_⟩:=zpn h0 h1;exact ⟨_,by unfold zej;rw [hx];rfl⟩
theorem in_ex (s:Str) {i:Int} (f t:Int) (h0:0≤i):∃r,zf5 s i f t r:=by
 by_cases h1:i<(s.length:Int)
 ·obtain ⟨c,hc⟩:=byte_in h0 h1;exact ⟨_,c,fun _=>hc,_,rfl,c,fun _=>hc,rfl⟩
 ·exact ⟨_,0,fun h=>absurd (dt h) h1,_,rfl,0,fun h=>absurd h (by simp [h1]),rfl⟩
theorem utf8_ex {s:Str} (hl:s.length≤140737488351232):∃r,zbs s r:=by
 have key:∀(m:Nat) (i:Int),0≤i→(s.length:Int)+4-i≤m→i≤(s.length:Int)+4→∃q:Bool × Nat,zbs.l1 s q.1 (zbs.j1 q.1) q.2 i:=by
  intro m
  induction m with
  | zero=>
   intro i h0 h1 h2;exact ⟨(true,1),fun h=>absurd (dt h) (by omega),fun _=>rfl⟩
  | succ m ih=>
   intro i h0 h1 h2
   suffices h:∃q:Bool × Nat,zbs.l1 s q.1 (zbs.j1 q.1) (q.2+1) i by
    obtain ⟨q,hq⟩:=h;exact ⟨(q.1,q.2+1),hq⟩
   unfold zbs.l1;refine pick (fun hd=>?_) (fun hd=>⟨(true,0),rfl⟩);have hlt:=dt hd;obtain ⟨c,hc⟩:=byte_in h0 hlt;obtain ⟨r17,h17⟩:=in_ex s (i:=i+1) 128 191 (by omega);obtain ⟨r21,h21⟩:=in_ex s (i:=i+2) 128 191 (by omega);obtain ⟨r25,h25⟩:=in_ex s (i:=i+3) 128 191 (by omega);obtain ⟨r35,h35⟩:=in_ex s (i:=i+1) 160 191 (by omega);obtain ⟨r44,h44⟩:=in_ex s (i:=i+1) 128 159 (by omega);obtain ⟨r49,h49⟩:=in_ex s (i:=i+1) 144 191 (by omega);obtain ⟨r58,h58⟩:=in_ex s (i:=i+1) 128 143 (by omega);have i1:InR .i64 (i+1):=zh (by omega) (by omega);have i2:InR .i64 (i+2):=zh (by omega) (by omega);have i3:InR .i64 (i+3):=zh (by omega) (by omega);have i4:InR .i64 (i+4):=zh (by omega) (by omega);have g1:=ih (i+1) (by omega) (by omega) (by omega);have g2:=ih (i+2) (by omega) (by omega) (by omega);have g3:=ih (i+3) (by omega) (by omega) (by omega);have g4:=ih (i+4) (by omega) (by omega) (by omega);refine exl c (zni hc (zni i1 (exl r17 (zni h17 (zni i2 (exl r21 (zni h21 (zni i3 (exl r25 (zni h25 (pick (fun _=>zni i1 g1) (fun _=>?_))))))))))));refine exl _ (zni rfl (pick (fun _=>zni i2 g2) (fun _=>?_)));refine zni (fun _=>i1) (exl r35 (zni (fun _=>h35) (pick (fun _=>zni i3 g3) (fun _=>?_))));refine exl _ (zni rfl (pick (fun _=>zni i3 g3) (fun _=>?_)));refine zni (fun _=>i1) (exl r44 (zni (fun _=>h44) (pick (fun _=>zni i3 g3) (fun _=>?_))));refine zni (fun _=>i1) (exl r49 (zni (fun _=>h49) (pick (fun _=>zni i4 g4) (fun _=>?_))));refine exl _ (zni rfl (pick (fun _=>zni i4 g4) (fun _=>?_)));refine zni (fun _=>i1) (exl r58 (zni (fun _=>h58) (pick (fun _=>zni i4 g4) (fun _=>?_))))
   exact ⟨(false,0),rfl⟩
 obtain ⟨q,hq⟩:=key (s.length+4) 0 (by omega) (by omega) (by omega);exact ⟨q.1,q.2,hq⟩
theorem text_ex {s:Str} (hl:s.length≤140737488351232):∃r,zcy s r∧(r=true→s≠[]):=by
 obtain ⟨u,hu⟩:=utf8_ex hl;have tne:∀u:Bool,(decide (0<(s.length:Int))&&u)=true→s≠[]:=fun u h e=>by subst e;simp at h
 have key:∀(m:Nat) (i:Int),0≤i→(s.length:Int)-i≤m→i≤(s.length:Int)→∃q:Bool × Nat,zcy.l1 s q.1 (zcy.j1 s q.1) q.2 i∧(q.1=true→s≠[]):=by
  intro m
  induction m with
  | zero=>
   intro i h0 h1 h2;exact ⟨(decide (0<(s.length:Int))&&u,1),⟨fun h=>absurd (dt h) (by omega),fun _=>⟨u,fun _=>hu,rfl⟩⟩,tne u⟩
  | succ m ih=>
   intro i h0 h1 h2
   by_cases hlt:i<(s.length:Int)
   ·obtain ⟨c,hc⟩:=byte_in h0 hlt
    by_cases h34:c=34
    ·exact ⟨(false,1),⟨fun _=>⟨c,hc,fun _=>rfl,fun h=>by simp [h34] at h⟩,fun h=>absurd hlt (df h)⟩,(fun h=>by cases h)⟩
    ·obtain ⟨q,hq,hq2⟩:=ih (i+1) (by omega) (by omega) (by omega);exact ⟨(q.1,q.2+1),⟨fun _=>⟨c,hc,fun h=>by simp at h;exact absurd h h34,fun _=>⟨zh (by omega) (by omega),hq⟩⟩,fun h=>absurd hlt (df h)⟩,hq2⟩
   ·exact ⟨(decide (0<(s.length:Int))&&u,1),⟨fun h=>absurd (dt h) hlt,fun _=>⟨u,fun _=>hu,rfl⟩⟩,tne u⟩
 obtain ⟨q,hq,hq2⟩:=key s.length 0 (by omega) (by omega) (by omega);exact ⟨q.1,⟨q.2,hq⟩,hq2⟩
inductive Tr (l:List SNode):Int→Int→Prop
 | leaf {i:Int} {e:SNode} (he:at? l i=some e) (hk:e.1=1∨e.1=2∨e.1=3) (hx:e.1=3→e.2.2.2.2.2.2≠[]) (h0:e.2.1=0∧e.2.2.1=0):Tr l i i
 | one {f i:Int} {e:SNode} (he:at? l i=some e) (hk:e.1=6∨e.1=7∨e.1=8∨e.1=9) (ha:e.2.1=i-1) (hb:e.2.2.1=0) (hr:e.1=7→0≤e.2.2.2.1∧e.2.2.2.1≤e.2.2.2.2.1∧e.2.2.2.2.1≤255) (h:Tr l f (i-1)):Tr l f i
 | two {f p i:Int} {e:SNode} (he:at? l i=some e) (hk:e.1=4∨e.1=5) (ha:e.2.1=p-1) (hb:e.2.2.1=i-1) (h1:Tr l p (i-1)) (h2:Tr l f (p-1)):Tr l f i
theorem Tr.le {l:List SNode} {f i:Int} (h:Tr l f i):0≤f∧f≤i:=by
 induction h with
 | leaf he _ _ _=>exact ⟨(zb6 he).1,Int.le_refl _⟩
 | one _ _ _ _ _ _ ih=>omega
 | two _ _ _ _ _ _ i1 i2=>omega
theorem Tr.lt {l:List SNode} {f i:Int} (h:Tr l f i):i<(l.length:Int):=by
 cases h with
 | leaf he _ _ _=>exact (zb6 he).2
 | one he _ _ _ _ _=>exact (zb6 he).2
 | two he _ _ _ _ _=>exact (zb6 he).2
theorem Tr.sub {l:List SNode} {f i:Int} (h:Tr l f i):∀k,f≤k→k≤i→∃g,Tr l g k∧f≤g:=by
 induction h with
 | leaf he hk hx h0=>
  rename_i i e
  intro k h1 h2;obtain rfl:k=i:=by omega
  exact ⟨k,.leaf he hk hx h0,Int.le_refl _⟩
 | one he hk ha hb hr h ih=>
  rename_i f i e
  intro k h1 h2
  by_cases hki:k=i
  ·subst hki;exact ⟨f,.one he hk ha hb hr h,Int.le_refl _⟩
  ·exact ih k h1 (by omega)
 | two he hk ha hb h1 h2 i1 i2=>
  rename_i f p i e
  intro k k1 k2;have l1:=h1.le;have l2:=h2.le
  by_cases hki:k=i
  ·subst hki;exact ⟨f,.two he hk ha hb h1 h2,Int.le_refl _⟩
  ·by_cases hkp:p≤k
   ·obtain ⟨g,g1,g2⟩:=i1 k hkp (by omega);exact ⟨g,g1,by omega⟩
   ·exact i2 k k1 (by omega)
def zm4 (l:List SNode) (i r:Int):Prop:=r = -1∨Tr l r i
theorem first_ex {l:List SNode} (hl:l.length≤1000) (ht:∀n∈l,n.2.2.2.2.2.2.length≤140737488351232):∀(m:Nat) (i:Int),i<(m:Int)→-1≤i→i<(l.length:Int)→∃r,zz.n (m+1) l i r∧zm4 l i r:=by
 intro m
 induction m with
 | zero=>
  intro i h1 h2 h3;exact ⟨-1,⟨fun _=>rfl,fun h=>absurd (by omega) (df h)⟩,.inl rfl⟩
 | succ m ih=>
  intro i h1 h2 h3
  by_cases h0:i<0
  ·exact ⟨-1,⟨fun _=>rfl,fun h=>absurd h0 (df h)⟩,.inl rfl⟩
  ·obtain ⟨e,he,hm⟩:=zpn (xs:=l) (i:=i) (by omega) h3;have i1:InR .i64 (i-1):=zh (by omega) (by omega);obtain ⟨p,hp,hpo⟩:=ih (i-1) (by omega) (by omega) (by omega);have one:∀w:SNode,(e=w→w.2.1=i-1∧(w.1=6∨w.1=7∨w.1=8∨w.1=9)∧(w.1=7→0≤w.2.2.2.1∧w.2.2.2.1≤w.2.2.2.2.1∧w.2.2.2.2.1≤255)∧w.2.2.1=0)→∃r,zz.j1 (zz.n (m+1)) l i r e w∧zm4 l i r:=by
    intro w hw
    by_cases hew:e=w
    ·refine ⟨p,⟨i1,p,hp,fun h=>by simp [hew] at h,fun _=>rfl⟩, ?_⟩;rcases hpo with rfl | p0
     ·exact .inl rfl
     ·obtain ⟨w1,w2,w3,w4⟩:=hw hew;exact .inr (.one he (by rw [hew];exact w2) (by rw [hew];exact w1) (by rw [hew];exact w4) (by rw [hew];exact w3) p0)
    ·exact ⟨-1,⟨i1,p,hp,fun _=>rfl,fun h=>by simp at h;exact absurd h hew⟩,.inl rfl⟩
   have two:(e.1=4∨e.1=5)→∃r,zz.j2 (zz.n (m+1)) l i r e true∧zm4 l i r:=by
    intro hk
    by_cases hp0:p<0
    ·exact ⟨-1,⟨fun _=>⟨i1,i1,p,hp,fun _=>rfl,fun h=>absurd hp0 (df h)⟩,(fun h=>by cases h)⟩,.inl rfl⟩
    ·have htr:Tr l p (i-1):=by
      rcases hpo with rfl | h
      ·omega
      ·exact h
     have p1:=htr.le;obtain ⟨q,hq,hqo⟩:=ih (p-1) (by omega) (by omega) (by omega);have j1:InR .i64 (p-1):=zh (by omega) (by omega)
     by_cases hew:e=(e.1,p-1,i-1,0,0,(0#256),([]:Str))
     ·refine ⟨q,⟨fun _=>⟨i1,i1,p,hp,fun h=>absurd (dt h) hp0,fun _=>⟨j1,j1,q,hq,false, ?_,(fun h=>by cases h),fun _=>rfl⟩⟩,(fun h=>by cases h)⟩, ?_⟩
      ·have:(e != (e.1,p-1,i-1,0,0,(0#256),([]:Str)))=false:=by rw [← hew];simp
       exact this.symm
      ·rcases hqo with rfl | q0
       ·exact .inl rfl
       ·exact .inr (.two he hk (by rw [hew]) (by rw [hew]) htr q0)
     ·refine ⟨-1,⟨fun _=>⟨i1,i1,p,hp,fun h=>absurd (dt h) hp0,fun _=>⟨j1,j1,q,hq,true, ?_,fun _=>rfl,(fun h=>by cases h)⟩⟩,(fun h=>by cases h)⟩,.inl rfl⟩;exact (bne_iff_ne.2 hew).symm
   have three:(e.1=6∨e.1=7∨e.1=8∨e.1=9)→∃r,zz.j3 (zz.n (m+1)) l i r e true∧zm4 l i r:=by
    intro hk
    by_cases h7:e.1=7
    ·by_cases hb:((decide (e.2.2.2.1<0))||(decide (e.2.2.2.2.1<e.2.2.2.1))||(decide (255<e.2.2.2.2.1)))=true
     ·exact ⟨-1,⟨fun _=>⟨i1,fun _=>⟨_,rfl,fun _=>rfl,fun h=>by rw [hb] at h;cases h⟩,fun h=>by simp [h7] at h⟩,(fun h=>by cases h)⟩,.inl rfl⟩
     ·obtain ⟨r,hr1,hr2⟩:=one (e.1,i-1,0,e.2.2.2.1,e.2.2.2.2.1,(0#256),([]:Str)) fun _=>⟨rfl,hk,fun _=>by
       simp only [Bool.or_eq_true,decide_eq_true_eq,not_or] at hb;exact ⟨by show (0:Int)≤e.2.2.2.1;omega,by show e.2.2.2.1≤e.2.2.2.2.1;omega,by show e.2.2.2.2.1≤255;omega⟩,rfl⟩
      exact ⟨r,⟨fun _=>⟨i1,fun _=>⟨_,rfl,fun h=>absurd h hb,fun _=>hr1⟩,fun h=>by simp [h7] at h⟩,(fun h=>by cases h)⟩,hr2⟩
    ·obtain ⟨r,hr1,hr2⟩:=one (e.1,i-1,0,0,0,(0#256),([]:Str)) fun _=>⟨rfl,hk,fun h=>absurd h h7,rfl⟩;exact ⟨r,⟨fun _=>⟨i1,fun h=>by simp at h;exact absurd h h7,fun _=>hr1⟩,(fun h=>by cases h)⟩,hr2⟩
   have ne:∀{a b:Int},a≠b→(a==b)=true→False:=fun h k=>h (eq_of_beq k);have last:∀b:Bool,(b=true↔e.1=9)→e.1≠6→e.1≠7→e.1≠8→∃r,zz.j3 (zz.n (m+1)) l i r e b∧zm4 l i r:=by
    intro b hb n6 n7 n8;cases b
    ·have n9:e.1≠9:=fun h=>by have:=hb.2 h;cases this
     by_cases h4:e.1=4
     ·obtain ⟨r,hr1,hr2⟩:=two (.inl h4);exact ⟨r,⟨(fun h=>by cases h),fun _=>⟨fun h=>by rw [h];exact hr1,fun h=>by simp [h4] at h⟩⟩,hr2⟩
     ·by_cases h5:e.1=5
      ·obtain ⟨r,hr1,hr2⟩:=two (.inr h5);have e5:(e.1==5)=true:=by simp [h5]
       exact ⟨r,⟨(fun h=>by cases h),fun _=>⟨fun h=>by simp at h;exact absurd h h4,fun _=>by rw [e5];exact hr1⟩⟩,hr2⟩
      ·have e5:(e.1==5)=false:=by simp [h5]
       exact ⟨-1,⟨(fun h=>by cases h),fun _=>⟨fun h=>by simp at h;exact absurd h h4,fun _=>by rw [e5];exact ⟨(fun h=>by cases h),fun _=>rfl⟩⟩⟩,.inl rfl⟩
    ·exact three (.inr (.inr (.inr (hb.1 rfl))))
   suffices h:∃r,(∃e6:SNode,at? l i=some e6∧_)∧zm4 l i r by
    obtain ⟨r,hr,ho⟩:=h;exact ⟨r,⟨fun h=>absurd (dt h) h0,fun _=>hr⟩,ho⟩
   by_cases k1:e.1=1
   ·by_cases hw:e=(e.1,0,0,0,0,(0#256),([]:Str))
    ·exact ⟨i,⟨e,he,fun _=>⟨fun h=>by rw [← hw] at h;simp at h,fun _=>rfl⟩,fun h=>by simp [k1] at h⟩,.inr (.leaf he (.inl k1) (fun h=>by omega) ⟨by rw [hw],by rw [hw]⟩)⟩
    ·exact ⟨-1,⟨e,he,fun _=>⟨fun _=>rfl,fun h=>by simp at h;exact absurd h hw⟩,fun h=>by simp [k1] at h⟩,.inl rfl⟩
   ·by_cases k2:e.1=2
    ·by_cases hw:e=(e.1,0,0,0,0,e.2.2.2.2.2.1,([]:Str))
     ·exact ⟨i,⟨e,he,fun h=>(ne k1 h).elim,fun _=>⟨fun _=>⟨false,by rw [← hw];simp,(fun h=>by cases h),fun _=>rfl⟩,fun h=>by simp [k2] at h⟩⟩,.inr (.leaf he (.inr (.inl k2)) (fun h=>by omega) ⟨by rw [hw],by rw [hw]⟩)⟩
     ·exact ⟨-1,⟨e,he,fun h=>(ne k1 h).elim,fun _=>⟨fun _=>⟨true,(bne_iff_ne.2 hw).symm,fun _=>rfl,(fun h=>by cases h)⟩,fun h=>by simp [k2] at h⟩⟩,.inl rfl⟩
    ·by_cases k3:e.1=3
     ·obtain ⟨t,htx,htn⟩:=text_ex (ht e hm);cases t
      ·exact ⟨-1,⟨e,he,fun h=>(ne k1 h).elim,fun _=>⟨fun h=>(ne k2 h).elim,fun _=>⟨fun _=>⟨false,htx,fun _=>rfl,(fun h=>by cases h)⟩,fun h=>by simp [k3] at h⟩⟩⟩,.inl rfl⟩
      ·by_cases hw:e=(e.1,0,0,0,0,(0#256),e.2.2.2.2.2.2)
       ·exact ⟨i,⟨e,he,fun h=>(ne k1 h).elim,fun _=>⟨fun h=>(ne k2 h).elim,fun _=>⟨fun _=>⟨true,htx,(fun h=>by cases h),fun _=>⟨false,by rw [← hw];simp,(fun h=>by cases h),fun _=>rfl⟩⟩,fun h=>by simp [k3] at h⟩⟩⟩,.inr (.leaf he (.inr (.inr k3)) (fun _=>htn rfl) ⟨by rw [hw],by rw [hw]⟩)⟩
       ·exact ⟨-1,⟨e,he,fun h=>(ne k1 h).elim,fun _=>⟨fun h=>(ne k2 h).elim,fun _=>⟨fun _=>⟨true,htx,(fun h=>by cases h),fun _=>⟨true,(bne_iff_ne.2 hw).symm,fun _=>rfl,(fun h=>by cases h)⟩⟩,fun h=>by simp [k3] at h⟩⟩⟩,.inl rfl⟩
     ·by_cases k6:e.1=6
      ·obtain ⟨r,hr1,hr2⟩:=three (.inl k6);exact ⟨r,⟨e,he,fun h=>(ne k1 h).elim,fun _=>⟨fun h=>(ne k2 h).elim,fun _=>⟨fun h=>(ne k3 h).elim,fun _=>⟨fun h=>by rw [h];exact hr1,fun h=>by simp [k6] at h⟩⟩⟩⟩,hr2⟩
      ·by_cases k7:e.1=7
       ·obtain ⟨r,hr1,hr2⟩:=three (.inr (.inl k7));exact ⟨r,⟨e,he,fun h=>(ne k1 h).elim,fun _=>⟨fun h=>(ne k2 h).elim,fun _=>⟨fun h=>(ne k3 h).elim,fun _=>⟨fun h=>(ne k6 h).elim,fun _=>⟨fun h=>by rw [h];exact hr1,fun h=>by simp [k7] at h⟩⟩⟩⟩⟩,hr2⟩
       ·by_cases k8:e.1=8
        ·obtain ⟨r,hr1,hr2⟩:=three (.inr (.inr (.inl k8)));exact ⟨r,⟨e,he,fun h=>(ne k1 h).elim,fun _=>⟨fun h=>(ne k2 h).elim,fun _=>⟨fun h=>(ne k3 h).elim,fun _=>⟨fun h=>(ne k6 h).elim,fun _=>⟨fun h=>(ne k7 h).elim,fun _=>⟨fun h=>by rw [h];exact hr1,fun h=>by simp [k8] at h⟩⟩⟩⟩⟩⟩,hr2⟩
        ·obtain ⟨r,hr1,hr2⟩:=last (e.1==9) beq_iff_eq k6 k7 k8;exact ⟨r,⟨e,he,fun h=>(ne k1 h).elim,fun _=>⟨fun h=>(ne k2 h).elim,fun _=>⟨fun h=>(ne k3 h).elim,fun _=>⟨fun h=>(ne k6 h).elim,fun _=>⟨fun h=>(ne k7 h).elim,fun _=>⟨fun h=>(ne k8 h).elim,fun _=>hr1⟩⟩⟩⟩⟩⟩,hr2⟩
theorem form_ex {d:List SNode} (hl:d.length≤1000) (ht:∀n∈d,n.2.2.2.2.2.2.length≤140737488351232):∃r,zkh d r∧(r=true→Tr d 0 ((d.length:Int)-1)):=by
 obtain ⟨r,hr,ho⟩:=first_ex hl ht d.length ((d.length:Int)-1) (by omega) (by omega) (by omega);refine ⟨_,⟨fun _=>zh (by omega) (by omega),r,fun _=>⟨_,hr⟩,rfl⟩,fun h=>?_⟩;simp only [Bool.and_eq_true,decide_eq_true_eq,beq_iff_eq] at h;rcases ho with rfl | h2
 ·omega
 ·rw [h.2] at h2;exact h2
def powW (a:Nat) (t:Nat):Nat:=if t=0 then 1 else if a=0 then 0 else if a=1 then 1 else 2
theorem powW_le (a t:Nat):powW a t≤2:=by
 unfold powW;split
 ·omega
 ·split
  ·omega
  ·split <;> omega
theorem powW_step {a:Nat} (ha:a≤2) (t:Nat):min 2 (powW a t*a)=powW a (t+1):=by
 have:a=0∨a=1∨a=2:=by omega
 unfold powW
 by_cases ht:t=0
 ·subst ht;rcases this with rfl | rfl | rfl <;> simp
 ·rcases this with rfl | rfl | rfl <;> simp [ht]
def sumW (a lo:Nat):Nat→Nat
 | 0=>0
 | m+1=>min 2 (sumW a lo m+powW a (lo+m))
theorem sumW_le (a lo m:Nat):sumW a lo m≤2:=by
 cases m with
 | zero=>simp [sumW]
 | succ m=>simp only [sumW];omega
theorem sumW_zero (a lo:Nat):∀m,sumW a lo m≠0↔∃t,t<m∧powW a (lo+t)≠0
 | 0=>by simp [sumW]
 | m+1=>by
  have ih:=sumW_zero a lo m;simp only [sumW];constructor
  ·intro h
   by_cases h1:sumW a lo m≠0
   ·obtain ⟨t,h2,h3⟩:=ih.1 h1;exact ⟨t,by omega,h3⟩
   ·exact ⟨m,by omega,by omega⟩
  ·rintro ⟨t,h1,h2⟩
   by_cases htm:t=m
   ·subst htm;omega
   ·have:=ih.2 ⟨t,by omega,h2⟩;omega
theorem zoz {a t:Nat}:powW a t≠0↔t=0∨a≠0:=by
 unfold powW
 by_cases h1:t=0
 ·simp [h1]
 ·by_cases h2:a=0
  ·simp [h1,h2]
  ·rw [if_neg h1,if_neg h2];split <;> simp [h1,h2]
structure NOk (d:List SNode):Prop where
 two:∀(i:Int) n,at? d i=some n→(n.1=4∨n.1=5)→(0≤n.2.1∧n.2.1<i)∧(0≤n.2.2.1∧n.2.2.1<i)
 one:∀(i:Int) n,at? d i=some n→(n.1=6∨n.1=7∨n.1=8∨n.1=9)→0≤n.2.1∧n.2.1<i
 rep:∀(i:Int) n,at? d i=some n→n.1=7→0≤n.2.2.2.1∧n.2.2.2.1≤n.2.2.2.2.1∧n.2.2.2.2.1≤255
 kind:∀(i:Int) n,at? d i=some n→1≤n.1∧n.1≤9
 ntx:∀(i:Int) n,at? d i=some n→n.1=3→n.2.2.2.2.2.2≠[]
theorem Tr.node {l:List SNode} {f i:Int} (h:Tr l f i) {n:SNode} (hn:at? l i=some n):
  ((n.1=4∨n.1=5)→(0≤n.2.1∧n.2.1<i)∧(0≤n.2.2.1∧n.2.2.1<i))∧((n.1=6∨n.1=7∨n.1=8∨n.1=9)→0≤n.2.1∧n.2.1<i)∧(n.1=7→0≤n.2.2.2.1∧n.2.2.2.1≤n.2.2.2.2.1∧n.2.2.2.2.1≤255)∧(1≤n.1∧n.1≤9)∧(n.1=3→n.2.2.2.2.2.2≠[]):=by
 cases h with
 | leaf he hk hx h0=>
  rw [hn] at he;cases he;exact ⟨fun h=>by omega,fun h=>by omega,fun h=>by omega,by omega,hx⟩
 | one he hk ha hb hr h=>
  rw [hn] at he;cases he;have:=h.le;exact ⟨fun h=>by omega,fun h=>by omega,hr,by omega,fun h=>by omega⟩
 | two he hk ha hb h1 h2=>
  rw [hn] at he;cases he;have:=h1.le;have:=h2.le;exact ⟨fun h=>by omega,fun h=>by omega,fun h=>by omega,by omega,fun h=>by omega⟩
theorem Tr.at {d:List SNode} (h:Tr d 0 ((d.length:Int)-1)) {i:Int} {n:SNode} (hn:at? d i=some n):∃g,Tr d g i:=by
 have hb:=zb6 hn;obtain ⟨g,hg,_⟩:=h.sub i hb.1 (by omega);exact ⟨g,hg⟩
theorem Tr.nok {d:List SNode} (h:Tr d 0 ((d.length:Int)-1)):NOk d:=
 ⟨fun i n hn=>let ⟨g,hg⟩:=h.at hn;(hg.node hn).1,fun i n hn=>let ⟨g,hg⟩:=h.at hn;(hg.node hn).2.1,fun i n hn=>let ⟨g,hg⟩:=h.at hn;(hg.node hn).2.2.1,fun i n hn=>let ⟨g,hg⟩:=h.at hn;(hg.node hn).2.2.2.1,fun i n hn=>let ⟨g,hg⟩:=h.at hn;(hg.node hn).2.2.2.2⟩
def WV (d:List SNode):Nat→Int→Nat
 | 0,_=>0
 | k+1,i=>match at? d i with
  | none=>0
  | some n=>
   if n.1=1 then 1
   else if n.1=4 then min 2 (WV d k n.2.1*WV d k n.2.2.1)
   else if n.1=5 then min 2 (WV d k n.2.1+WV d k n.2.2.1)
   else if n.1=6 then (if 0<WV d k n.2.1 then 2 else 1)
   else if n.1=7 then sumW (WV d k n.2.1) n.2.2.2.1.toNat (n.2.2.2.2.1+1-n.2.2.2.1).toNat
   else 0
theorem WV_le (d:List SNode) (k:Nat) (i:Int):WV d k i≤2:=by
 cases k with
 | zero=>simp [WV]
 | succ k=>
  unfold WV;cases at? d i with
  | none=>simp
  | some n=>
   simp only;split
   ·omega
   ·split
    ·omega
    ·split
     ·omega
     ·split
      ·split <;> omega
      ·split
       ·exact sumW_le _ _ _
       ·omega
theorem zm3 {d:List SNode} (hd:NOk d):∀(k k':Nat) (i:Int),i<(k:Int)→i<(k':Int)→WV d k i=WV d k' i
 | 0,k',i,h,h'=>by
  have:at? d i=none:=by
   unfold at?;rw [if_neg (by omega)]
  cases k' <;> simp [WV,this]
 | k+1,0,i,h,h'=>by
  have:at? d i=none:=by
   unfold at?;rw [if_neg (by omega)]
  simp [WV,this]
 | k+1,k'+1,i,h,h'=>by
  cases hn:at? d i with
  | none=>simp only [WV,hn]
  | some n=>
   simp only [WV,hn]
   by_cases h4:n.1=4
   ·obtain ⟨⟨a,b⟩,c,e⟩:=hd.two _ n hn (.inl h4);rw [zm3 hd k k' n.2.1 (by omega) (by omega),zm3 hd k k' n.2.2.1 (by omega) (by omega)]
   ·by_cases h5:n.1=5
    ·obtain ⟨⟨a,b⟩,c,e⟩:=hd.two _ n hn (.inr h5);rw [zm3 hd k k' n.2.1 (by omega) (by omega),zm3 hd k k' n.2.2.1 (by omega) (by omega)]
    ·by_cases h6:n.1=6∨n.1=7
     ·obtain ⟨a,b⟩:=hd.one _ n hn (by omega);rw [zm3 hd k k' n.2.1 (by omega) (by omega)];simp [h4,h5]
     ·simp only [not_or] at h6;simp [h4,h5,h6.1,h6.2]
def wv (d:List SNode) (i:Int):Nat:=WV d d.length i
theorem wv_at {d:List SNode} (hd:NOk d) {i:Int} {n:SNode} (hn:at? d i=some n):wv d i =
  (if n.1=1 then 1
   else if n.1=4 then min 2 (wv d n.2.1*wv d n.2.2.1)
   else if n.1=5 then min 2 (wv d n.2.1+wv d n.2.2.1)
   else if n.1=6 then (if 0<wv d n.2.1 then 2 else 1)
   else if n.1=7 then sumW (wv d n.2.1) n.2.2.2.1.toNat (n.2.2.2.2.1+1-n.2.2.2.1).toNat
   else 0):=by
 obtain ⟨hb0,hb1⟩:=zb6 hn;unfold wv;rw [zm3 hd d.length (d.length+1) i hb1 (by omega)];simp only [WV,hn]
theorem nz_atN {d:List SNode} (hd:NOk d) {i:Int} {n:SNode} (h:at? d i=some n):nz d i =
  (if n.1=1 then true else if n.1=4 then nz d n.2.1&&nz d n.2.2.1 else if n.1=5 then nz d n.2.1||nz d n.2.2.1 else if n.1=6 then true else if n.1=7 then decide (n.2.2.2.1=0)||nz d n.2.1 else false):=by
 obtain ⟨k,rfl,hk⟩:=znr h;have e:=nzL_at hk;have e2:nz d (k:Int)=nzN ((nzL d).take k) n:=by unfold nz;rw [zbw,e];rfl
 rw [e2];unfold nzN
 by_cases h1:n.1=1
 ·simp [h1]
 ·by_cases h4:n.1=4
  ·obtain ⟨⟨a,b⟩,c,e⟩:=hd.two _ n h (.inl h4);rw [if_neg h1,if_pos h4,if_neg h1,if_pos h4,zh4 a b,zh4 c e];rfl
  ·by_cases h5:n.1=5
   ·obtain ⟨⟨a,b⟩,c,e⟩:=hd.two _ n h (.inr h5);rw [if_neg h1,if_neg h4,if_pos h5,if_neg h1,if_neg h4,if_pos h5,zh4 a b,zh4 c e];rfl
   ·by_cases h6:n.1=6
    ·simp [h6]
    ·by_cases h7:n.1=7
     ·obtain ⟨a,b⟩:=hd.one _ n h (.inr (.inl h7));rw [if_neg h1,if_neg h4,if_neg h5,if_neg h6,if_pos h7,if_neg h1,if_neg h4,if_neg h5,if_neg h6,if_pos h7,zh4 a b];rfl
     ·simp [h1,h4,h5,h6,h7]
theorem wv_nz {d:List SNode} (hd:NOk d):∀(k:Nat) (i:Int) (n:SNode),i<(k:Int)→at? d i=some n→(wv d i≠0↔nz d i=true)
 | 0,i,n,hi,hn=>by have:=zb6 hn;omega
 | k+1,i,n,hi,hn=>by
  have ih:=wv_nz hd k;rw [wv_at hd hn,nz_atN hd hn]
  by_cases h1:n.1=1
  ·simp [h1]
  ·by_cases h4:n.1=4
   ·obtain ⟨⟨a,b⟩,c,e⟩:=hd.two _ n hn (.inl h4);obtain ⟨m1,hm1⟩:=zea hn a b;obtain ⟨m2,hm2⟩:=zea hn c e;rw [if_neg h1,if_pos h4,if_neg h1,if_pos h4,Bool.and_eq_true,← ih _ m1 (by omega) hm1,← ih _ m2 (by omega) hm2,← Nat.mul_ne_zero_iff];omega
   ·by_cases h5:n.1=5
    ·obtain ⟨⟨a,b⟩,c,e⟩:=hd.two _ n hn (.inr h5);obtain ⟨m1,hm1⟩:=zea hn a b;obtain ⟨m2,hm2⟩:=zea hn c e;rw [if_neg h1,if_neg h4,if_pos h5,if_neg h1,if_neg h4,if_pos h5,Bool.or_eq_true,← ih _ m1 (by omega) hm1,← ih _ m2 (by omega) hm2];omega
    ·by_cases h6:n.1=6
     ·simp [h6];split <;> omega
     ·by_cases h7:n.1=7
      ·obtain ⟨a,b⟩:=hd.one _ n hn (.inr (.inl h7));obtain ⟨r0,r1,r2⟩:=hd.rep _ n hn h7;obtain ⟨m1,hm1⟩:=zea hn a b;rw [if_neg h1,if_neg h4,if_neg h5,if_neg h6,if_pos h7,if_neg h1,if_neg h4,if_neg h5,if_neg h6,if_pos h7,sumW_zero,Bool.or_eq_true,← ih _ m1 (by omega) hm1,decide_eq_true_eq];constructor
       ·rintro ⟨t,h1,h2⟩;rcases zoz.1 h2 with h3 | h3
        ·exact .inl (by omega)
        ·exact .inr h3
       ·rintro (h3 | h3)
        ·exact ⟨0,by omega,zoz.2 (.inl (by omega))⟩
        ·exact ⟨0,by omega,zoz.2 (.inr h3)⟩
      ·simp [h1,h4,h5,h6,h7]
theorem min_mul (x y:Nat):min 2 (min 2 x*min 2 y)=min 2 (x*y):=by
 rcases Nat.lt_or_ge x 2 with h | h
 ·have:x=0∨x=1:=by omega
  rcases this with rfl | rfl <;> simp
 ·rcases Nat.lt_or_ge y 2 with h' | h'
  ·have:y=0∨y=1:=by omega
   rcases this with rfl | rfl <;> simp
  ·have:2*2≤x*y:=Nat.mul_le_mul h h';rw [Nat.min_eq_left h,Nat.min_eq_left h'];omega
theorem ROk.nok {d:List SNode} (h:ROk d):NOk d:=⟨h.two,h.one,h.rep,h.kind,h.ntx⟩
theorem ways_l3 {l:List Int} {a:Nat} (ha:a≤2) {e:SNode} (h1:at? l e.2.1=some (a:Int)) {t:Nat} (ht:t≤255) {Z:Int→Prop} (hZ:Z (powW a t:Int)):
  ∀(m v:Nat),v+m=t→∃k,zp.l3 l e t Z k (powW a v:Int) v
 | 0,v,hv=>by
  obtain rfl:v=t:=by omega
  exact ⟨1,fun h=>absurd (dt h) (by omega),fun _=>hZ⟩
 | m+1,v,hv=>by
  obtain ⟨k,hk⟩:=ways_l3 ha h1 ht hZ m (v+1) (by omega);have e1:(min 2 ((powW a v:Int)*(a:Int)))=(powW a (v+1):Int):=by
   have:=Int.natCast_mul (powW a v) a;rw [← powW_step ha v];omega
  have hle:=powW_le a v;have hle2:powW a v*a≤4:=by
   have:=Nat.mul_le_mul hle ha;omega
  exact ⟨k+1,fun _=>⟨a,h1,zh (by omega) (by rw [← Int.natCast_mul];omega),zh (by omega) (by omega),by rw [e1];exact hk⟩,fun h=>absurd (by omega) (df h)⟩
theorem ways_l2 {l:List Int} {a:Nat} (ha:a≤2) {e:SNode} (h1:at? l e.2.1=some (a:Int)) {lo hi:Nat} (hlo:e.2.2.2.1=lo) (hhi:e.2.2.2.2.1=hi) (hh:hi≤255) {Z:Int→Prop} (hZ:Z (sumW a lo (hi+1-lo):Int)):
  ∀(m j:Nat),j+m=hi+1-lo→∃k,zp.l2 l e Z k (sumW a lo j:Int) ((lo+j:Nat):Int)
 | 0,j,hj=>by
  obtain rfl:j=hi+1-lo:=by omega
  exact ⟨1,fun h=>absurd (dt h) (by omega),fun _=>hZ⟩
 | m+1,j,hj=>by
  obtain ⟨k,hk⟩:=ways_l2 ha h1 hlo hhi hh hZ m (j+1) (by omega);have hs:=sumW_le a lo j;have hp:=powW_le a (lo+j);have e1:(min 2 ((sumW a lo j:Int)+(powW a (lo+j):Int)))=(sumW a lo (j+1):Int):=by simp only [sumW];omega
  obtain ⟨k3,hk3⟩:=ways_l3 ha h1 (t:=lo+j) (by omega) (Z:=zp.j3 (zp.l2 l e Z k) (sumW a lo j:Int) ((lo+j:Nat):Int)) ⟨zh (by omega) (by omega),zh (by omega) (by omega),by
   rw [e1];have:(((lo+j:Nat):Int)+1)=((lo+(j+1):Nat):Int):=by omega
   rw [this];exact hk⟩ (lo+j) 0 (by omega)
  have e0:(powW a 0:Int)=1:=rfl;rw [e0] at hk3;exact ⟨k+1,fun _=>⟨k3,hk3⟩,fun h=>absurd (by omega) (df h)⟩
theorem zsg {d:List SNode} (hl:d.length≤1000) (hd:NOk d) {i:Nat} (h1:i<d.length):zp d (i:Int) (wv d (i:Int):Int):=by
 have hat:∀(k:Nat) (a:Int),0≤a→a<(k:Int)→at? ((List.range k).map fun (j:Nat)=>(wv d (j:Int):Int)) a=some (wv d a:Int):=fun k a h0 h1=>by
  obtain ⟨j,rfl⟩:∃j:Nat,a=(j:Int):=⟨a.toNat,by omega⟩;rw [zbw,List.getElem?_map,List.getElem?_range (by omega)];rfl
 have key:∀(m:Nat) (k:Nat),k+m=i+1→∃f,zp.l1 d (i:Int) (zp.j1 (i:Int) (wv d (i:Int):Int)) f ((List.range k).map fun (j:Nat)=>(wv d (j:Int):Int)) (k:Int):=by
  intro m
  induction m with
  | zero=>
   intro k hk;exact ⟨1,fun h=>absurd (dt h) (by omega),fun _=>⟨_,hat k _ (by omega) (by omega),rfl⟩⟩
  | succ m ih=>
   intro k hk;obtain ⟨f,hf⟩:=ih (k+1) (by omega);obtain ⟨e,he,_⟩:=zpn (xs:=d) (i:=(k:Int)) (by omega) (by omega);have hw:=wv_at hd he;have next:∀w:Nat,min 2 w=wv d (k:Int)→zp.j2 (zp.l1 d (i:Int) (zp.j1 (i:Int) (wv d (i:Int):Int)) f) ((List.range k).map fun (j:Nat)=>(wv d (j:Int):Int)) (k:Int) (w:Int):=fun w hw=>by
    refine ⟨by simp;omega,zh (by omega) (by omega), ?_⟩;have e1:(min 2 (w:Int))=(wv d (k:Int):Int):=by rw [← hw];omega
    rw [e1];have e2:((List.range k).map fun (j:Nat)=>(wv d (j:Int):Int))++[(wv d (k:Int):Int)]=(List.range (k+1)).map fun (j:Nat)=>(wv d (j:Int):Int):=by
     rw [List.range_succ,List.map_append];rfl
    rw [e2];exact hf
   have ne:∀{a b:Int},a≠b→(a==b)=true→False:=fun h k=>h (eq_of_beq k);refine ⟨f+1,fun _=>⟨e,he,fun h=>?_,fun k1=>⟨fun h=>?_,fun k4=>⟨fun h=>?_,fun k5=>⟨fun h=>?_,fun k6=>⟨fun h=>?_,fun k7=>?_⟩⟩⟩⟩⟩,fun h=>absurd (by omega) (df h)⟩
   ·have h1:e.1=1:=eq_of_beq h;exact next 1 (by rw [hw,if_pos h1];rfl)
   ·have h1:e.1≠1:=by simpa using k1
    have h4:e.1=4:=eq_of_beq h;rw [if_neg h1,if_pos h4] at hw;obtain ⟨⟨a0,a1⟩,b0,b1⟩:=hd.two _ e he (.inl h4);have l1:=WV_le d d.length e.2.1;have l2:=WV_le d d.length e.2.2.1;have hm:wv d e.2.1*wv d e.2.2.1≤4:=by have:=Nat.mul_le_mul l1 l2;exact this
    refine ⟨_,hat k _ a0 a1,_,hat k _ b0 b1,zh (by rw [← Int.natCast_mul];omega) (by rw [← Int.natCast_mul];omega), ?_⟩;rw [← Int.natCast_mul];exact next _ hw.symm
   ·have h1:e.1≠1:=by simpa using k1
    have h4:e.1≠4:=by simpa using k4
    have h5:e.1=5:=eq_of_beq h;rw [if_neg h1,if_neg h4,if_pos h5] at hw;obtain ⟨⟨a0,a1⟩,b0,b1⟩:=hd.two _ e he (.inr h5);have l1:=WV_le d d.length e.2.1;have l2:=WV_le d d.length e.2.2.1;unfold wv at *;refine ⟨_,hat k _ a0 a1,_,hat k _ b0 b1,zh (by omega) (by omega), ?_⟩;exact next (WV d d.length e.2.1+WV d d.length e.2.2.1) hw.symm
   ·have h1:e.1≠1:=by simpa using k1
    have h4:e.1≠4:=by simpa using k4
    have h5:e.1≠5:=by simpa using k5
    have h6:e.1=6:=eq_of_beq h;rw [if_neg h1,if_neg h4,if_neg h5,if_pos h6] at hw;obtain ⟨a0,a1⟩:=hd.one _ e he (.inl h6);refine ⟨_,hat k _ a0 a1,fun h=>?_,fun h=>?_⟩
    ·exact next 2 (by rw [hw,if_pos (by have:=dt h;omega)];rfl)
    ·exact next 1 (by rw [hw,if_neg (by have:=df h;omega)];rfl)
   ·have h1:e.1≠1:=by simpa using k1
    have h4:e.1≠4:=by simpa using k4
    have h5:e.1≠5:=by simpa using k5
    have h6:e.1≠6:=by simpa using k6
    have h7:e.1=7:=eq_of_beq h;rw [if_neg h1,if_neg h4,if_neg h5,if_neg h6,if_pos h7] at hw;obtain ⟨a0,a1⟩:=hd.one _ e he (.inr (.inl h7));obtain ⟨r0,r1,r2⟩:=hd.rep _ e he h7;have hs:=sumW_le (wv d e.2.1) e.2.2.2.1.toNat (e.2.2.2.2.1+1-e.2.2.2.1).toNat;have e1:(e.2.2.2.2.1+1-e.2.2.2.1).toNat=e.2.2.2.2.1.toNat+1-e.2.2.2.1.toNat:=by omega
    have:=ways_l2 (l:=(List.range k).map fun (j:Nat)=>(wv d (j:Int):Int)) (WV_le d d.length e.2.1) (e:=e) (hat k _ a0 a1) (lo:=e.2.2.2.1.toNat) (hi:=e.2.2.2.2.1.toNat) (by omega) (by omega) (by omega)
     (Z:=zp.j2 (zp.l1 d (i:Int) (zp.j1 (i:Int) (wv d (i:Int):Int)) f) ((List.range k).map fun (j:Nat)=>(wv d (j:Int):Int)) (k:Int))
     (next _ (by rw [hw,e1];rw [e1] at hs;exact Nat.min_eq_right hs)) (e.2.2.2.2.1.toNat+1-e.2.2.2.1.toNat) 0 (by omega)
    have e2:((e.2.2.2.1.toNat+0:Nat):Int)=e.2.2.2.1:=by omega
    rw [e2] at this;exact this
   ·have h1:e.1≠1:=by simpa using k1
    have h4:e.1≠4:=by simpa using k4
    have h5:e.1≠5:=by simpa using k5
    have h6:e.1≠6:=by simpa using k6
    have h7:e.1≠7:=by simpa using k7
    rw [if_neg h1,if_neg h4,if_neg h5,if_neg h6,if_neg h7] at hw;exact next 0 (by rw [hw];rfl)
 obtain ⟨f,hf⟩:=key (i+1) 0 (by omega);exact ⟨f,by simpa using hf⟩
theorem first8_ok {d:List SNode} (hl:d.length≤1000) (hd:NOk d):∃r,zci d r∧(r.2=false→∀(i:Int) n,at? d i=some n→(n.1=6∨n.1=7)→nz d n.2.1=false):=by
 have key:∀(m i:Nat),i+m=d.length→(∀(k:Int) n,k<(i:Int)→at? d k=some n→(n.1=6∨n.1=7)→nz d n.2.1=false)→∃q:(Int × Bool) × Nat,zci.l1 d q.1 (zci.j1 q.1) q.2 (i:Int)∧(q.1.2=false→∀(i:Int) n,at? d i=some n→(n.1=6∨n.1=7)→nz d n.2.1=false):=by
  intro m
  induction m with
  | zero=>
   intro i hi hk;exact ⟨((0,false),1),⟨fun h=>absurd (dt h) (by omega),fun _=>rfl⟩,fun _ k n hn=>hk k n (by have:=zb6 hn;omega) hn⟩
  | succ m ih=>
   intro i hi hk;obtain ⟨e,he,_⟩:=zpn (xs:=d) (i:=(i:Int)) (by omega) (by omega);have hw:∃w,((((e.1==6)||(e.1==7)))=true→zp d e.2.1 w∧(w=0→nz d e.2.1=false)):=by
    by_cases hkk:e.1=6∨e.1=7
    ·obtain ⟨a0,a1⟩:=hd.one _ e he (by omega);obtain ⟨mm,hm⟩:=zea he a0 a1;obtain ⟨j,hj⟩:∃j:Nat,e.2.1=(j:Int):=⟨e.2.1.toNat,by omega⟩;refine ⟨(wv d e.2.1:Int),fun _=>⟨?_,fun h0=>?_⟩⟩
     ·rw [hj];exact zsg hl hd (by omega)
     ·have:=wv_nz hd (d.length) e.2.1 mm (by omega) hm;cases hz:nz d e.2.1
      ·rfl
      ·have:=this.2 hz;omega
    ·exact ⟨0,fun h=>absurd (by simpa using h) hkk⟩
   obtain ⟨w,hw⟩:=hw;cases hb:(((e.1==6)||(e.1==7))&&(w != 0))
   ·obtain ⟨q,hq,hq2⟩:=ih (i+1) (by omega) (fun k n hki hn hkk=>by
     by_cases hk2:k=(i:Int)
     ·subst hk2;rw [he] at hn;cases hn;have h6:((e.1==6)||(e.1==7))=true:=by simpa using hkk
      rw [h6] at hb;simp at hb;exact (hw h6).2 hb
     ·exact hk k n (by omega) hn hkk)
    exact ⟨(q.1,q.2+1),⟨fun _=>⟨e,he,e,fun _=>he,w,fun h=>(hw h).1,(fun h=>by rw [hb] at h;cases h),fun _=>⟨zh (by omega) (by omega),by simpa using hq⟩⟩,fun h=>absurd (by omega) (df h)⟩,hq2⟩
   ·exact ⟨(((i:Int),true),1),⟨fun _=>⟨e,he,e,fun _=>he,w,fun h=>(hw h).1,fun _=>rfl,fun h=>by rw [hb] at h;cases h⟩,fun h=>absurd (by omega) (df h)⟩,(fun h=>by cases h)⟩
 obtain ⟨q,hq,hq2⟩:=key d.length 0 (by omega) (fun k n hk hn=>by have:=zb6 hn;omega);exact ⟨q.1,⟨q.2,hq⟩,hq2⟩
structure Rt (d:List SNode):Prop extends ROk d where
 tr:Tr d 0 ((d.length:Int)-1)
theorem Rt.ne {d:List SNode} (h:Rt d):d≠[]:=fun e=>by
 have:=h.tr.le;subst e;simp at this
theorem right_ok {d:List SNode} (hl:d.length≤1000) (ht:∀n∈d,n.2.2.2.2.2.2.length≤140737488351232):∃r,ziw d r∧(r=true→Rt d):=by
 obtain ⟨f,hf,ho⟩:=form_ex hl ht;cases f
 ·exact ⟨false,⟨false,hf,fun _=>rfl,(fun h=>by cases h)⟩,(fun h=>by cases h)⟩
 ·have hd:=(ho rfl).nok;obtain ⟨w,hw,hw2⟩:=first8_ok hl hd;refine ⟨!w.2,⟨true,hf,(fun h=>by cases h),fun _=>⟨w,hw,rfl⟩⟩,fun h=>?_⟩;have:=hw2 (by simpa using h);exact ⟨⟨hd.two,hd.one,hd.rep,hd.kind,hd.ntx,this⟩,ho rfl⟩
def CV (d:List SNode):Nat→Int→List (List SItem)
 | 0,_=>[]
 | k+1,i=>match at? d i with
  | none=>[]
  | some n=>
   if n.1=1 then []
   else if n.1=3 then [[(3,i,0,0)]]
   else if n.1=4 then (CV d k n.2.1).map (·++[(1,n.2.2.1,0,0)])++CV d k n.2.2.1
   else if n.1=5 then CV d k n.2.1++CV d k n.2.2.1
   else if n.1=6 then (CV d k n.2.1).map (·++[(1,i,0,0)])
   else if n.1=7 then (CV d k n.2.1).map (·++[(2,i,max (n.2.2.2.1-1) 0,n.2.2.2.2.1-1)])
   else [[(1,i,0,0)]]
theorem PM_CV (d:List SNode):∀(k:Nat) (i:Int),∀p∈(PM d k i).1,p∈CV d k i
 | 0,i,p,hp=>by simp [PM] at hp
 | k+1,i,p,hp=>by
  unfold PM at hp;unfold CV;cases hn:at? d i with
  | none=>rw [hn] at hp;simp at hp
  | some n=>
   rw [hn] at hp;have a:=PM_CV d k n.2.1;have b:=PM_CV d k n.2.2.1;simp only at hp ⊢
   by_cases h1:n.1=1
   ·simp [h1] at hp
   ·rw [if_neg h1] at hp ⊢
    by_cases h3:n.1=3
    ·rw [if_pos h3] at hp ⊢;exact hp
    ·rw [if_neg h3] at hp ⊢
     by_cases h4:n.1=4
     ·rw [if_pos h4] at hp ⊢;rcases List.mem_append.1 hp with hp | hp
      ·obtain ⟨q,hq,rfl⟩:=List.mem_map.1 hp;exact List.mem_append.2 (.inl (List.mem_map.2 ⟨q,a q hq,rfl⟩))
      ·obtain ⟨l,hl,hp⟩:=List.mem_flatten.1 hp;rw [List.mem_replicate.1 hl |>.2] at hp;exact List.mem_append.2 (.inr (b p hp))
     ·rw [if_neg h4] at hp ⊢
      by_cases h5:n.1=5
      ·rw [if_pos h5] at hp ⊢;rcases List.mem_append.1 hp with hp | hp
       ·exact List.mem_append.2 (.inl (a p hp))
       ·exact List.mem_append.2 (.inr (b p hp))
      ·rw [if_neg h5] at hp ⊢
       by_cases h6:n.1=6
       ·rw [if_pos h6] at hp ⊢;obtain ⟨q,hq,rfl⟩:=List.mem_map.1 hp;exact List.mem_map.2 ⟨q,a q hq,rfl⟩
       ·rw [if_neg h6] at hp ⊢
        by_cases h7:n.1=7
        ·rw [if_pos h7] at hp ⊢;simp only at hp;split at hp
         ·obtain ⟨q,hq,rfl⟩:=List.mem_map.1 hp;exact List.mem_map.2 ⟨q,a q hq,rfl⟩
         ·cases hp
        ·rw [if_neg h7] at hp ⊢;exact hp
def CI (d:List SNode) (x:SItem):List (List SItem):=
 if x.1=1 then CV d d.length x.2.1
 else if x.1=2 then (match at? d x.2.1 with | some n=>(CV d d.length n.2.1).map (·++[(2,x.2.1,max (x.2.2.1-1) 0,x.2.2.2-1)]) | none=>[])
 else [[x]]
def CS (d:List SNode):List SItem→List (List SItem)
 | []=>[[]]
 | x::rest=>(CI d x).map (·++rest)++CS d rest
theorem pmI_CI (d:List SNode) (x:SItem):∀p∈pmI d x,p∈CI d x:=by
 intro p hp;unfold pmI at hp;unfold CI
 by_cases h1:x.1=1
 ·rw [if_pos h1] at hp ⊢;exact PM_CV d _ _ p hp
 ·rw [if_neg h1] at hp ⊢
  by_cases h2:x.1=2
  ·rw [if_pos h2] at hp ⊢;cases hn:at? d x.2.1 with
   | none=>rw [hn] at hp;cases hp
   | some n=>
    rw [hn] at hp;simp only at hp ⊢;split at hp
    ·obtain ⟨q,hq,rfl⟩:=List.mem_map.1 hp;exact List.mem_map.2 ⟨q,PM_CV d _ _ q hq,rfl⟩
    ·cases hp
  ·rw [if_neg h2] at hp ⊢;split at hp
   ·cases hp
   ·exact hp
theorem hds_CS (d:List SNode):∀(s:List SItem),∀t∈hds d s,t∈CS d s
 | [],t,ht=>ht
 | x::rest,t,ht=>by
  rcases List.mem_append.1 ht with ht | ht
  ·obtain ⟨q,hq,rfl⟩:=List.mem_map.1 ht;exact List.mem_append.2 (.inl (List.mem_map.2 ⟨q,pmI_CI d x q hq,rfl⟩))
  ·obtain ⟨l,hl,hp⟩:=List.mem_flatten.1 ht;rw [List.mem_replicate.1 hl |>.2] at hp;exact List.mem_append.2 (.inr (hds_CS d rest t hp))
structure BrOk (l:List SBranch):Prop where
 many:∀b∈l,0≤b.2∧b.2≤2
 len:∀b∈l,b.1.length≤1000
theorem zks {s:List SItem} {many:Int}:∀(l:List SBranch) (i:Nat),(∀b∈l.take i,¬ zfd s b.1=0∧¬ zfd s b.1<0)→zm2 s many l=l.take i++zm2 s many (l.drop i)
 | l,0,_=>rfl
 | [],i+1,_=>by simp
 | b::l,i+1,h=>by
  have hb:=h b (by simp)
  conv=>lhs;unfold zm2
  rw [if_neg hb.1,if_neg hb.2,zks l i fun c hc=>h c (by simp [hc])];rfl
theorem zjk {l:List SBranch} (hs:l.Pairwise (fun a b=>zfd a.1 b.1<0)) (hb:BrOk l) (hl:l.length≤2000000000) {s:List SItem} (hsl:s.length≤1000) {many:Int} (hm:0≤many∧many≤2):zb0 l s many (zm2 s many l):=by
 refine zri (P:=fun k (q:List SBranch × Bool) v=>zb0.l1 l s many _ k q.1 q.2 v) l.length
  (fun i q=>(q.2=false→q.1=l.take i∧∀b∈l.take i,¬ zfd s b.1=0∧¬ zfd s b.1<0)∧(q.2=true→q.1++l.drop i=zm2 s many l∧∀b∈l.drop i,zfd s b.1<0)) ?_ ?_ ([],false) ⟨fun _=>⟨by simp,by simp⟩,(fun h=>by cases h)⟩
 ·rintro i ⟨out,done⟩ k hi ⟨h1,h2⟩ hk;have hol:out.length≤l.length+1:=by
   cases done
   ·have k1:=(h1 rfl).1;simp only at k1;rw [k1];simp;omega
   ·have:=congrArg List.length (h2 rfl).1;have h3:=addB_len s many l;simp at this;omega
  have hbm:l[i]∈l:=List.getElem_mem hi;have hmb:=hb.many _ hbm;have hlb:=hb.len _ hbm;have hat:at? l (i:Int)=some l[i]:=by rw [zbw];simp [hi]
  have hdr:l.drop i=l[i]::l.drop (i+1):=(List.getElem_cons_drop hi).symm;have htk:l.take (i+1)=l.take i++[l[i]]:=List.take_succ_eq_append_getElem hi;have hsrt:∀b∈l.drop (i+1),zfd l[i].1 b.1<0:=by
   have:=hs.sublist (List.drop_sublist i l);rw [hdr,List.pairwise_cons] at this;exact this.1
  refine ⟨fun _=>⟨l[i],hat,_,zi8 hsl hlb,fun h0=>?_,fun h0=>⟨fun hc=>?_,fun hc=>?_⟩⟩,fun h=>absurd (by omega) (df h)⟩
  ·have e0:zfd s l[i].1=0:=by simpa using h0
   refine ⟨l[i],hat,zh (by omega) (by omega),by simp;omega,zh (by omega) (by omega),hk (out++[(s,min 2 (l[i].2+many))],true) ⟨(fun h=>by cases h),fun _=>?_⟩⟩;cases done
   ·obtain ⟨k1,k2⟩:=h1 rfl;simp only at k1;refine ⟨?_,fun b hbb=>by rw [zen.1 e0];exact hsrt b hbb⟩;rw [zks l i k2,hdr,k1]
    conv=>rhs;unfold zm2
    rw [if_pos e0];simp
   ·obtain ⟨k1,k2⟩:=h2 rfl;have:=k2 l[i] (hdr ▸ List.mem_cons_self);omega
  ·simp only [Bool.and_eq_true,decide_eq_true_eq,Bool.not_eq_true'] at hc;obtain ⟨c1,c2⟩:=hc;subst c2;obtain ⟨k1,k2⟩:=h1 rfl;simp only at k1;refine ⟨by simp;omega,l[i],hat,by simp;omega,zh (by omega) (by omega),hk (out++[(s,many)]++[l[i]],true) ⟨(fun h=>by cases h),fun _=>⟨?_,fun b hbb=>zg0 c1 (hsrt b hbb)⟩⟩⟩;rw [zks l i k2,hdr,k1]
   conv=>rhs;unfold zm2
   rw [if_neg (by omega),if_pos c1];simp
  ·have e0:¬ zfd s l[i].1=0:=by simpa using h0
   refine ⟨l[i],hat,by simp;omega,zh (by omega) (by omega),hk (out++[l[i]],done) ⟨fun hd=>?_,fun hd=>?_⟩⟩
   ·simp only at hd;subst hd;obtain ⟨k1,k2⟩:=h1 rfl;simp only at k1;simp only [Bool.not_false,Bool.and_true,decide_eq_false_iff_not] at hc;refine ⟨by rw [htk,k1],fun b hbb=>?_⟩;rw [htk] at hbb;rcases List.mem_append.1 hbb with hbb | hbb
    ·exact k2 b hbb
    ·rw [List.mem_singleton.1 hbb];exact ⟨e0,hc⟩
   ·simp only at hd;subst hd;obtain ⟨k1,k2⟩:=h2 rfl;refine ⟨?_,fun b hbb=>k2 b (hdr ▸ List.mem_cons_of_mem _ hbb)⟩;rw [← k1,hdr];simp
 ·rintro ⟨out,done⟩ ⟨h1,h2⟩ k;refine ⟨fun h=>absurd (dt h) (by omega),fun _=>⟨fun hd=>?_,fun hd=>?_⟩⟩
  ·have hd':done=false:=by simpa using hd
   subst hd';obtain ⟨k1,k2⟩:=h1 rfl;simp only at k1;rw [List.take_length] at k1;refine ⟨by rw [k1];simp;omega, ?_⟩;rw [zks l l.length k2,k1];simp [zm2]
  ·have hd':done=true:=by simpa using hd
   subst hd';obtain ⟨k1,k2⟩:=h2 rfl;rw [← k1];simp
theorem Can.brok {f:List SItem→Nat} {B:List SBranch} (h:Can f B) (hl:∀t,f t≠0→t.length≤1000):BrOk B:=
 ⟨fun b hb=>by have:=(h.many hb).2.2;omega,fun b hb=>hl _ (h.many hb).2.1⟩
theorem into_in {d:List SNode} (hd:ROk d) (hdl:d.length≤400) (hd0:∃n,at? d 0=some n) (U:List (List SItem)) (hU:U.length≤1000000000) (hU1:∀t∈U,t.length≤1000):∀(h:Nat) (s:List SItem) (L:List (List SItem)),lv d h s=some L→Vs d 400 s→∀(f:List SItem→Nat) (B:List SBranch),Can f B→(∀t,f t≠0→t∈U)→(∀t∈L,t∈U)→∃r,zbv.n h d s B r∧Can (fun t=>f t+L.count t) r
 | 0,s,L,hL,_,_,_,_,_,_=>by simp [lv] at hL
 | h+1,s,L,hL,hv,f,B,hB,hf,hLU=>by
  have hlen:=hv.len;have hBl:=zpl hB hf;have hBo:=hB.brok fun t ht=>hU1 t (hf t ht);cases hr:rdy d s with
  | true=>
   have e:L=[s]:=by
    unfold lv at hL;rw [if_pos hr] at hL;exact (Option.some.inj hL).symm
   subst e;refine ⟨zm2 s 1 B,⟨true,hr ▸ zkz hv.form hd0,fun _=>⟨s,zto (by simp) (by omega),_,zjk hB.srt hBo (by omega) (by omega) (by omega),rfl⟩,(fun h=>by cases h)⟩, ?_⟩;refine (hB.add s (n:=1) (by omega)).congr fun t=>?_;simp only [List.count_singleton,beq_iff_eq]
   by_cases ht:t=s
   ·subst ht;simp
   ·simp [ht,Ne.symm ht]
  | false=>
   have hopn:=hv.opn hd hr;obtain ⟨ls,hls,hlf⟩:∃ls,(opn d s).mapM (lv d h)=some ls∧ls.flatten=L:=by
    unfold lv at hL;rw [if_neg (by rw [hr];simp)] at hL;exact Option.map_eq_some_iff.1 hL
   have hlsl:ls.length=(opn d s).length:=zn1 hls;have hol:=opn_len (d:=d) s;have key:∀(m i:Nat) (B':List SBranch),i+m=(opn d s).length→Can (fun t=>f t+(ls.take i).flatten.count t) B'→∃(r:List SBranch) (k:Nat),zbv.l1 (zbv.n h) d (opn d s) (zbv.j1 r) k B' (i:Int)∧Can (fun t=>f t+L.count t) r:=by
    intro m
    induction m with
    | zero=>
     intro i B' hi hB';refine ⟨B',1,⟨fun h=>absurd (dt h) (by omega),fun _=>rfl⟩, ?_⟩;rw [List.take_of_length_le (by omega),hlf] at hB';exact hB'
    | succ m ih=>
     intro i B' hi hB';have hil:i<(opn d s).length:=by omega
     obtain ⟨li,h1,h2⟩:=zsz hls hil;have hsub:∀t∈li,t∈L:=fun t ht=>by
      rw [← hlf];exact List.mem_flatten.2 ⟨li,List.mem_of_getElem? h2,ht⟩
     have hsub2:∀t,(ls.take i).flatten.count t≠0→t∈U:=fun t ht=>by
      have hp:t∈(ls.take i).flatten:=List.count_pos_iff.1 (by omega);obtain ⟨l,hl,ht⟩:=List.mem_flatten.1 hp;exact hLU t (by rw [← hlf];exact List.mem_flatten.2 ⟨l,List.mem_of_mem_take hl,ht⟩)
     obtain ⟨r1,hr1,hr2⟩:=into_in hd hdl hd0 U hU hU1 h _ li h1 (hopn _ (List.getElem_mem hil)) _ B' hB' (fun t ht=>by
      by_cases h0:f t=0
      ·exact hsub2 t (by omega)
      ·exact hf t h0) (fun t ht=>hLU t (hsub t ht))
     obtain ⟨r,k,hk1,hk2⟩:=ih (i+1) r1 (by omega) (hr2.congr fun t=>by rw [take_flat h2,List.count_append,Nat.add_assoc]);exact ⟨r,k+1,⟨fun _=>⟨_,by rw [zbw];simp [hil],r1,hr1,zh (by omega) (by omega),by simpa using hk1⟩,fun h=>absurd (by omega) (df h)⟩,hk2⟩
   obtain ⟨r,k,hk1,hk2⟩:=key (opn d s).length 0 B (by omega) (hB.congr fun t=>by simp);exact ⟨r,⟨false,hr ▸ zkz hv.form hd0,(fun h=>by cases h),fun _=>⟨_,zr9 hd hv.form hr (by omega) hd0,k,hk1⟩⟩,hk2⟩
theorem zq5 {α:Type} [BEq α] [LawfulBEq α]:∀(n:Nat) (l:List α),l.length≤n→l.eraseDups.Nodup
 | _,[],_=>by simp
 | 0,x::l,h=>by simp at h
 | n+1,x::l,h=>by
  rw [List.eraseDups_cons,List.nodup_cons];refine ⟨fun hx=>?_,zq5 n _ (Nat.le_trans (List.length_filter_le _ _) (by simpa using h))⟩;have:=List.mem_eraseDups.1 hx;simp at this
theorem CV_tr {d:List SNode} {f i:Int} (h:Tr d f i):∀k,((CV d k i).length:Int)≤i-f+1:=by
 induction h with
 | leaf he hk hx h0=>
  rename_i i e
  intro k;cases k with
  | zero=>simp [CV]
  | succ k=>
   unfold CV;rw [he];simp only;rcases hk with h | h | h
   ·simp [h]
   ·simp [h]
   ·simp [h]
 | one he hk ha hb hr t ih=>
  rename_i f i e
  intro k;have hle:=t.le;cases k with
  | zero=>simp [CV];omega
  | succ k=>
   have:=ih k;unfold CV;rw [he];simp only;rw [if_neg (by omega),if_neg (by omega),if_neg (by omega),if_neg (by omega),ha];split
   ·rw [List.length_map];omega
   ·split
    ·rw [List.length_map];omega
    ·simp;omega
 | two he hk ha hb t1 t2 i1 i2=>
  rename_i f p i e
  intro k;have h1:=t1.le;have h2:=t2.le;cases k with
  | zero=>simp [CV];omega
  | succ k=>
   have a1:=i1 k;have a2:=i2 k;unfold CV;rw [he];simp only;rw [if_neg (by omega),if_neg (by omega),ha,hb];split
   ·rw [List.length_append,List.length_map];omega
   ·split
    ·rw [List.length_append];omega
    ·omega
theorem CV_few {d:List SNode} (h:Rt d) (k:Nat) (i:Int):(CV d k i).length≤d.length+1:=by
 cases hn:at? d i with
 | none=>cases k <;> simp [CV,hn]
 | some n=>
  obtain ⟨g,hg⟩:=h.tr.at hn;have h1:=CV_tr hg k;have h2:=hg.le;have h3:=hg.lt;omega
theorem CS_few {d:List SNode} (h:Rt d):∀s:List SItem,(CS d s).length≤s.length*(d.length+1)+1
 | []=>by simp [CS]
 | x::rest=>by
  have h1:=CS_few h rest;have h2:(CI d x).length≤d.length+1:=by
   unfold CI;split
   ·exact CV_few h _ _
   ·split
    ·split
     ·rw [List.length_map];exact CV_few h _ _
     ·simp
    ·simp
  simp only [CS,List.length_append,List.length_map,List.length_cons,Nat.succ_mul];omega
structure Sm (d:List SNode) (s:List SItem):Prop where
 rt:Rt d
 len:d.length≤24
 txt:∀n∈d,n.2.2.2.2.2.2.length≤140737488351232
 form:zez d s=true
 slen:s.length≤400
theorem Sm.dok {d:List SNode} {s:List SItem} (h:Sm d s):DOk d:=⟨by have:=h.len;omega,fun n hn=>by have:=h.txt n hn;omega⟩
theorem Sm.ne {d:List SNode} {s:List SItem} (h:Sm d s):∃n,at? d 0=some n:=by
 have:=h.rt.ne;cases d with
 | nil=>exact absurd rfl this
 | cons n d=>exact ⟨n,rfl⟩
theorem Sm.vs {d:List SNode} {s:List SItem} (h:Sm d s):Vs d 400 s:=Vs.start h.form (by have:=h.slen;omega)
theorem zmz {d:List SNode} {s:List SItem} (h:Sm d s):∃B,zf0 d s B∧zfy d s B∧Can (fun t=>(hds d s).count t) B:=by
 have hd:=h.rt.toROk;obtain ⟨L,⟨k,hk⟩,hp⟩:=hds_lv hd s h.form;have hU:(CS d s).length≤1000000000:=by
  have h1:=CS_few h.rt s;have h4:s.length*(d.length+1)≤400*25:=Nat.mul_le_mul h.slen (by have:=h.len;omega);omega
 have hLU:∀t∈L,t∈CS d s:=fun t ht=>hds_CS d s t (hp.mem_iff.1 ht);have hvs:=lv_vs hd k s L hk h.vs;have hLU2:∀t∈L,t∈L.eraseDups:=fun t ht=>List.mem_eraseDups.2 ht;have hUl:L.eraseDups.length≤1000000000:=Nat.le_trans (ziy (zq5 _ L (Nat.le_refl _)) fun t ht=>hLU t (List.mem_eraseDups.1 ht)) hU;have hU1:∀t∈L.eraseDups,t.length≤1000:=fun t ht=>by
  have:=(hvs t (List.mem_eraseDups.1 ht)).1.len;have:=h.len;omega
 obtain ⟨B,hB1,hB2⟩:=into_in hd (by have:=h.len;omega) h.ne L.eraseDups hUl hU1 k s L hk h.vs (fun _=>0) [] Can.nil (fun t ht=>absurd rfl ht) hLU2;have hB3:Can (fun t=>L.count t) B:=hB2.congr fun t=>by simp
 have hBl:=zpl hB3 (U:=L.eraseDups) fun t ht=>hLU2 t (List.count_pos_iff.1 (by omega));exact ⟨B,⟨hd,h.dok,by have:=h.len;omega,h.rt.ne,h.form,by have:=h.slen;omega,by omega,k,L,hk,hB3⟩,⟨B,⟨k,hB1⟩,rfl⟩,hB3.congr fun t=>by rw [hp.count_eq]⟩
theorem zs9 {s:List SItem} (hs:s.length≤1000) (hr:∀x∈s,ItR x):zcz s (zd9 s):=by
 refine ⟨s,clone_in hs, ?_⟩;refine zf2 (P:=fun k (t:List SItem) v=>zcz.l1 s (zd9 s) _ k t v) s.length (fun i t=>t=(s.take i).map zmb++s.drop i∧(s.take i).any zma=false) ?_ ?_ _ ⟨by simp,by simp⟩
 ·rintro i t hi ⟨rfl,hb⟩;have hl:((s.take i).map zmb).length=i:=by simp;omega
  have hat:at? ((s.take i).map zmb++s.drop i) (i:Int)=some s[i]:=by
   rw [zbw,List.getElem?_append_right (by omega),hl,Nat.sub_self];simp [hi]
  have hset:∀y,((s.take i).map zmb++s.drop i).set i y=(s.take i).map zmb++[y]++s.drop (i+1):=fun y=>by
   rw [List.set_append_right _ _ (by omega),hl,Nat.sub_self,List.drop_eq_getElem_cons hi,List.set_cons_zero];simp
  have hnext:(s.take (i+1)).map zmb++s.drop (i+1)=(s.take i).map zmb++[zmb s[i]]++s.drop (i+1):=by
   rw [List.take_succ_eq_append_getElem hi,List.map_append];rfl
  have hri:=(hr _ (List.getElem_mem hi)).2.2.1;rw [zjv] at hri
  by_cases h5:s[i].1=5
  ·by_cases hlo:s[i].2.2.1≤0
   ·have hbad:zma s[i]=true:=by simp [zma,h5,hlo]
    refine .inl fun k=>⟨fun _=>⟨_,hat,fun h=>by simp [h5] at h,fun _=>⟨fun _=>?_,fun h=>absurd hlo (df h)⟩⟩,fun h=>absurd (by omega) (df h)⟩;unfold zd9;rw [if_pos (any_of hi hbad)]
   ·have hbad:zma s[i]=false:=by simp [zma,hlo]
    refine .inr ⟨_,⟨rfl,by rw [zn7 hi,hb,hbad];rfl⟩,fun k h=>⟨fun _=>⟨_,hat,fun h=>by simp [h5] at h,fun _=>⟨fun h=>absurd (dt h) hlo,fun _=>⟨_,hat,zh (by omega) (by omega),_,hat,zh (by omega) (by omega), ?_⟩⟩⟩,fun h=>absurd (by omega) (df h)⟩⟩;rw [hnext] at h;rw [Int.toNat_natCast,hset];have e:zmb s[i]=(s[i].1,s[i].2.1,s[i].2.2.1-1,s[i].2.2.2):=by unfold zmb;rw [if_pos h5]
    rw [← e];exact h
  ·have hbad:zma s[i]=false:=by simp [zma,h5]
   refine .inr ⟨_,⟨rfl,by rw [zn7 hi,hb,hbad];rfl⟩,fun k h=>⟨fun _=>⟨_,hat,fun _=>⟨zh (by omega) (by omega), ?_⟩,fun h=>by simp at h;exact absurd h h5⟩,fun h=>absurd (by omega) (df h)⟩⟩;rw [hnext] at h;have e:zmb s[i]=s[i]:=by unfold zmb;rw [if_neg h5]
   rw [e] at h;rw [List.drop_eq_getElem_cons hi];simpa using h
 ·rintro t ⟨rfl,hb⟩ k;refine ⟨fun h=>absurd (dt h) (by omega),fun _=>?_⟩;rw [List.take_length] at hb;show zd9 s=_;unfold zd9;rw [if_neg (by rw [hb];simp)];simp
theorem zqb {s:List SItem} (hs:s.length≤1000) (hr:∀x∈s,ItR x):zbh s (zd9 s):=by
 refine zf2 (P:=fun k (t:List SItem) v=>zbh.l1 s (zd9 s) _ k t v) s.length (fun i t=>t=(s.take i).map zmb∧(s.take i).any zma=false) ?_ ?_ _ ⟨by simp,by simp⟩
 ·rintro i t hi ⟨rfl,hb⟩;have hl:((s.take i).map zmb).length=i:=by simp;omega
  have hat:at? s (i:Int)=some s[i]:=by rw [zbw];simp [hi]
  have hnext:(s.take (i+1)).map zmb=(s.take i).map zmb++[zmb s[i]]:=by
   rw [List.take_succ_eq_append_getElem hi,List.map_append];rfl
  have hri:=(hr _ (List.getElem_mem hi)).2.2.1;rw [zjv] at hri;have hj:∀k,zbh.l1 s (zd9 s) (zbh.j1 (zd9 s)) k ((s.take (i+1)).map zmb) ((i:Int)+1)→zbh.j2 (zbh.l1 s (zd9 s) (zbh.j1 (zd9 s)) k) ((s.take i).map zmb) (i:Int) (zmb s[i]):=fun k h=>by
   refine ⟨by rw [hl];simp only [List.length_cons,List.length_nil];omega,zh (by omega) (by omega), ?_⟩;rw [hnext] at h;exact h
  by_cases h5:s[i].1=5
  ·by_cases hlo:s[i].2.2.1≤0
   ·have hbad:zma s[i]=true:=by simp [zma,h5,hlo]
    refine .inl fun k=>⟨fun _=>⟨_,hat,fun _=>⟨fun _=>?_,fun h=>absurd hlo (df h)⟩,fun h=>by simp [h5] at h⟩,fun h=>absurd (by omega) (df h)⟩;unfold zd9;rw [if_pos (any_of hi hbad)]
   ·have hbad:zma s[i]=false:=by simp [zma,hlo]
    refine .inr ⟨_,⟨rfl,by rw [zn7 hi,hb,hbad];rfl⟩,fun k h=>⟨fun _=>⟨_,hat,fun _=>⟨fun h=>absurd (dt h) hlo,fun _=>⟨zh (by omega) (by omega), ?_⟩⟩,fun h=>by simp [h5] at h⟩,fun h=>absurd (by omega) (df h)⟩⟩;have:=hj k h;unfold zmb at this;rw [if_pos h5] at this;exact this
  ·have hbad:zma s[i]=false:=by simp [zma,h5]
   refine .inr ⟨_,⟨rfl,by rw [zn7 hi,hb,hbad];rfl⟩,fun k h=>⟨fun _=>⟨_,hat,fun h=>by simp at h;exact absurd h h5,fun _=>?_⟩,fun h=>absurd (by omega) (df h)⟩⟩;have:=hj k h;unfold zmb at this;rw [if_neg h5] at this;exact this
 ·rintro t ⟨rfl,hb⟩ k;refine ⟨fun h=>absurd (dt h) (by omega),fun _=>?_⟩;rw [List.take_length] at hb;show zd9 s=_;unfold zd9;rw [if_neg (by rw [hb];simp),List.take_length]
theorem znh {a:Cl} {n:Nat} (hn:n<256):zgi a (n:Int) (a.has n):=by
 refine ⟨⟨by omega,by omega⟩,_,rfl, ?_⟩;rw [show ((n:Int) / 64)=((n / 64:Nat):Int) by omega,show ((n:Int) % 64)=((n % 64:Nat):Int) by omega];show _=(andI (zqx (((a.word ((n / 64:Nat):Int).toNat):Nat):Int) _) 1==1);rw [Int.toNat_natCast,shr_bit (Nat.mod_lt _ (by omega)),has_w hn]
theorem zng {a:Cl} {c:Int} (hc:InR .u8 c):zgi a c (a.has c.toNat):=by
 obtain ⟨n,hn,rfl⟩:=u8_of hc;simpa using znh (a:=a) hn
theorem zi3 {a:Cl} {i:Nat} (hi:i<256):zgi a ((i:Int) % 256) (a.has i):=by
 rw [show ((i:Int) % 256)=(i:Int) by omega];exact znh hi
theorem class_Add_in {a:Cl} {l:List Int} (hl:∀x∈l,InR .u8 x) (hn:l.length<9223372036854775807):zdk a l (a.addL l):=by
 refine zf2 (P:=fun k (s:Cl) v=>zdk.l1 l _ k s v) l.length (fun i s=>s=a.addL (l.take i)) ?_ ?_ a (by simp [Cl.addL])
 ·rintro i s hi rfl;refine .inr ⟨a.addL (l.take (i+1)),rfl,fun k h=>?_⟩;refine ⟨fun _=>?_,fun h=>absurd (by omega) (df h)⟩;obtain ⟨n,hn,he⟩:=u8_of (hl l[i] (List.getElem_mem hi));refine ⟨l[i],by rw [zbw];simp [hi], ?_, ?_,zh (by omega) (by omega), ?_⟩
  ·rw [he];omega
  ·rw [he];omega
  ·rw [he,show ((n:Int) / 64)=((n / 64:Nat):Int) by omega,show ((n:Int) % 64)=((n % 64:Nat):Int) by omega,put_words hn];have:(a.addL (l.take i)).put n=a.addL (l.take (i+1)):=by
    rw [List.take_succ_eq_append_getElem hi];simp [Cl.addL,he]
   rw [this];exact h
 ·rintro s rfl k;exact ⟨fun h=>absurd (dt h) (by omega),fun _=>by simp [zdk.j1]⟩
theorem zpk {f t:Int}:zd2 f t (Cl.row f t):=by
 refine zf2 (P:=fun k (s:Cl) v=>zd2.l1 f t _ k s v) 256 (fun i s=>∀n,n<256→s.has n=(decide (n<i)&&(Cl.row f t).has n)) ?_ ?_ _ (by intro n _;simp [has_zero])
 ·intro i s hi hs;refine .inr ⟨if (decide (f≤(i:Int))&&decide ((i:Int)≤t))=true then s.put i else s, ?_,fun k h=>?_⟩
  ·intro n hn;split
   ·rename_i hc
    rw [has_put hi,hs n hn,has_row hn]
    by_cases e:i=n
    ·subst e;simp [hc]
    ·simp only [e,decide_false,Bool.or_false]
     congr 1
     apply decide_eq_decide.2;omega
   ·rename_i hc
    rw [hs n hn,has_row hn]
    by_cases e:i=n
    ·subst e;simp [hc]
    ·congr 1
     apply decide_eq_decide.2;omega
  ·refine ⟨fun _=>?_,fun h=>absurd (by omega) (df h)⟩;rw [show ((i:Int) % 256)=i by omega];refine ⟨_,rfl,fun hc=>?_,fun hc=>?_⟩
   ·rw [if_pos hc] at h;refine ⟨s.put i, ?_,zh (by omega) (by omega),h⟩;have:=class_Add_in (a:=s) (l:=[(i:Int)]) (by simpa using u8_nat hi) (by simp);simpa [Cl.addL] using this
   ·rw [if_neg (by simp [hc])] at h;exact ⟨zh (by omega) (by omega),h⟩
 ·intro s hs k;refine ⟨fun h=>absurd (dt h) (by omega),fun _=>?_⟩;show Cl.row f t=s;apply Cl.ext;intro c hc;rw [hs c hc];simp [hc]
theorem words_up {P:Nat→Cl→Int→Prop} {a r:Cl} (g:Nat→Nat→Nat)
  (hr:∀i,i<4→r.word i=g i (a.word i))
  (hs:∀k (i:Nat) (s:Cl) (v:Int),i<4→s.word i=a.word i→v=((g i (a.word i):Nat):Int)→P k (s.setw (i:Int) v) ((i:Int)+1)→P (k+1) s (i:Int))
  (hx:∀k,P (k+1) r 4):∃k,P k a 0:=by
 refine zf2 (P:=P) 4 (fun i s=>∀j,j<4→s.word j=if j<i then r.word j else a.word j) ?_ ?_ a (by intro j hj;simp)
 ·intro i s hi h;have hv:((g i (a.word i):Nat):Int).toNat<2 ^ 64:=by rw [Int.toNat_natCast,← hr i hi];exact r.word_lt i
  refine .inr ⟨s.setw (i:Int) ((g i (a.word i):Nat):Int),fun j hj=>?_,fun k hk=>hs k i s _ hi (by rw [h i hi];simp) rfl hk⟩;rw [zoo hv j hj,h j hj]
  by_cases e:j=i
  ·subst e;simp [hr j hj]
  ·rw [if_neg e]
   by_cases e2:j<i
   ·rw [if_pos e2,if_pos (by omega)]
   ·rw [if_neg e2,if_neg (by omega)]
 ·intro s h k;have:s=r:=Cl.ext_words fun i hi=>by rw [h i hi,if_pos hi]
  subst this;exact hx k
theorem zjb {r:Cl} {i v:Nat} (hi:i<4) (hv:v<2 ^ 64) (h:∀j,j<64→r.has (64*i+j)=v.testBit j):r.word i=v:=by
 apply Nat.eq_of_testBit_eq;intro j;rw [Cl.word_bit]
 by_cases hj:j<64
 ·simp [hj,h j hj]
 ·have:v<2 ^ j:=Nat.lt_of_lt_of_le hv (Nat.pow_le_pow_right (by omega) (by omega));simp [hj,Nat.testBit_lt_two_pow this]
theorem zf9 {a:Cl} {n:Nat} (hn:n<256):zcv a (n:Int) (a.has n):=by
 refine ⟨by omega,⟨by omega,by omega⟩, ?_⟩;have hw:Cl.w a ((n:Int) / 64)=((a.word (n / 64):Nat):Int):=by
  rw [show ((n:Int) / 64)=((n / 64:Nat):Int) by omega];rfl
 rw [hw];refine zf2 (P:=fun k (s:Int) v=>zcv.l1 (n:Int) _ k s v) (n % 64) (fun i s=>s=((a.word (n / 64) / 2 ^ i:Nat):Int)) ?_ ?_ _ (by simp)
 ·rintro i s hi rfl;refine .inr ⟨_,rfl,fun k h=>⟨by omega,fun _=>⟨zh (by omega) (by omega), ?_⟩,fun h=>absurd (by omega) (df h)⟩⟩;rw [Nat.pow_succ,← Nat.div_div_eq_div_mul,Int.natCast_ediv] at h;exact h
 ·rintro s rfl k;refine ⟨by omega,fun h=>absurd (dt h) (by omega),fun _=>?_⟩;show a.has n=_;rw [has_w hn,Nat.testBit_eq_decide_div_mod_eq];rcases Nat.mod_two_eq_zero_or_one (a.word (n / 64) / 2 ^ (n % 64)) with h | h
  ·rw [h,show (((a.word (n / 64) / 2 ^ (n % 64):Nat):Int) % 2)=0 by omega];rfl
  ·rw [h,show (((a.word (n / 64) / 2 ^ (n % 64):Nat):Int) % 2)=1 by omega];rfl
theorem zna {a:Cl} {c:Int} (hc:InR .u8 c):zcv a c (a.has c.toNat):=by
 obtain ⟨n,hn,rfl⟩:=u8_of hc;simpa using zf9 (a:=a) hn
theorem ref01_Of_l2 {l:List Bool} (hl:l.length=256) {w:Nat} (hw:w<4) {X:Cl→Prop} {s:Cl} (h0:s.word w=0) (hX:∀t:Cl,(∀j,j<4→t.word j=if j=w then ze8 (fun j=>l.getD (64*w+j) false) 64 else s.word j)→X t):
  ∃k,zbz.l2 l (w:Int) X k s 1 0:=by
 refine zf2 (P:=fun k (s:Cl × Int) v=>zbz.l2 l (w:Int) X k s.1 s.2 v) 64
  (fun i t=>(∀j,j<4→t.1.word j=if j=w then ze8 (fun j=>l.getD (64*w+j) false) i else s.word j)∧t.2=((2 ^ i % 2 ^ 64:Nat):Int)) ?_ ?_ (s,1) ?_
 ·rintro i ⟨t,b⟩ hi ⟨h1,h2⟩;simp only at h1 h2;subst h2;have hb:=zpm (fun j=>l.getD (64*w+j) false) (i+1);have hp:2 ^ (i+1)≤2 ^ 64:=Nat.pow_le_pow_right (by omega) (by omega);have hp2:2 ^ i<2 ^ 64:=Nat.pow_lt_pow_right (by omega) hi;have hbit:IntKind.wrap .u64 (((2 ^ i % 2 ^ 64:Nat):Int)*2)=((2 ^ (i+1) % 2 ^ 64:Nat):Int):=by
   rw [znu,Nat.mod_eq_of_lt hp2,Nat.pow_succ];omega
  have hat:at? l (64*(w:Int)+(i:Int))=some (l.getD (64*w+i) false):=by
   rw [show (64*(w:Int)+(i:Int))=((64*w+i:Nat):Int) by omega,zbw,List.getElem?_eq_getElem (by omega)];simp [List.getD,List.getElem?_eq_getElem (show 64*w+i<l.length by omega)]
  cases he:l.getD (64*w+i) false
  ·refine .inr ⟨(t,((2 ^ (i+1) % 2 ^ 64:Nat):Int)),⟨fun j hj=>?_,rfl⟩,fun k h=>⟨fun _=>⟨zh (by omega) (by omega),zh (by omega) (by omega),_,hat,fun hc=>(by rw [he] at hc;cases hc),fun _=>⟨zh (by omega) (by omega), ?_⟩⟩,fun h=>absurd (by omega) (df h)⟩⟩
   ·simp only;rw [h1 j hj];split
    ·simp only [ze8,he,cond_false]
    ·rfl
   ·rw [hbit];exact h
  ·refine .inr ⟨(t.setw (w:Int) ((ze8 (fun j=>l.getD (64*w+j) false) (i+1):Nat):Int),((2 ^ (i+1) % 2 ^ 64:Nat):Int)),⟨fun j hj=>?_,rfl⟩,fun k h=>⟨fun _=>⟨zh (by omega) (by omega),zh (by omega) (by omega),_,hat,fun _=>⟨⟨by omega,by omega⟩,⟨by omega,by omega⟩,zh (by omega) (by omega), ?_⟩,fun hc=>(by rw [he] at hc;cases hc)⟩,fun h=>absurd (by omega) (df h)⟩⟩
   ·simp only;rw [zoo (by rw [Int.toNat_natCast];omega) j hj,Int.toNat_natCast];split
    ·rfl
    ·rename_i e;rw [h1 j hj,if_neg e]
   ·have hww:(Cl.w t (w:Int))=((ze8 (fun j=>l.getD (64*w+j) false) i:Nat):Int):=by
     show ((t.word ((w:Int).toNat):Nat):Int)=_;rw [Int.toNat_natCast,h1 w hw,if_pos rfl]
    have hsum:IntKind.wrap .u64 (Cl.w t (w:Int)+((2 ^ i % 2 ^ 64:Nat):Int))=((ze8 (fun j=>l.getD (64*w+j) false) (i+1):Nat):Int):=by
     have e2:ze8 (fun j=>l.getD (64*w+j) false) (i+1)=2 ^ i+ze8 (fun j=>l.getD (64*w+j) false) i:=by simp only [ze8,he,cond_true]
     rw [hww,znu,Nat.mod_eq_of_lt hp2];omega
    rw [hbit,hsum];exact h
 ·rintro ⟨t,b⟩ ⟨h1,_⟩ k;exact ⟨fun h=>absurd (dt h) (by omega),fun _=>hX t h1⟩
 ·refine ⟨fun j hj=>?_,by rfl⟩;split
  ·rename_i e;subst e;simpa [ze8] using h0
  ·rfl
theorem ofL_word {l:List Bool} {w:Nat} (hw:w<4):(Cl.ofL l).word w=ze8 (fun j=>l.getD (64*w+j) false) 64:=by
 refine zjb hw (zpm _ 64) fun j hj=>?_;rw [has_ofL (by omega),zrd];simp [hj]
theorem ref01_Of_in {l:List Bool} (hl:l.length=256):zbz l (Cl.ofL l):=by
 refine zf2 (P:=fun k (s:Cl) v=>zbz.l1 l _ k s v) 4 (fun i s=>∀j,j<4→s.word j=if j<i then (Cl.ofL l).word j else 0) ?_ ?_ _ ?_
 ·intro i s hi h;refine .inr ⟨Cl.ofWords (if 0<i+1 then (Cl.ofL l).word 0 else 0) (if 1<i+1 then (Cl.ofL l).word 1 else 0) (if 2<i+1 then (Cl.ofL l).word 2 else 0) (if 3<i+1 then (Cl.ofL l).word 3 else 0), ?_,fun k hk=>⟨fun _=>?_,fun h=>absurd (by omega) (df h)⟩⟩
  ·have hb:∀(c:Prop) [Decidable c] (k:Nat),(if c then (Cl.ofL l).word k else 0)<2 ^ 64:=fun c _ k=>by
    split
    ·exact Cl.word_lt _ _
    ·omega
   obtain ⟨e0,e1,e2,e3⟩:=Cl.ofWords_word (hb (0<i+1) 0) (hb (1<i+1) 1) (hb (2<i+1) 2) (hb (3<i+1) 3);intro j hj
   match j,hj with
   | 0,_=>exact e0
   | 1,_=>exact e1
   | 2,_=>exact e2
   | 3,_=>exact e3
  ·refine ref01_Of_l2 hl hi (by rw [h i hi,if_neg (by omega)]) fun t ht=>?_;refine ⟨zh (by omega) (by omega), ?_⟩;have hb:∀(c:Prop) [Decidable c] (k:Nat),(if c then (Cl.ofL l).word k else 0)<2 ^ 64:=fun c _ k=>by
    split
    ·exact Cl.word_lt _ _
    ·omega
   obtain ⟨e0,e1,e2,e3⟩:=Cl.ofWords_word (hb (0<i+1) 0) (hb (1<i+1) 1) (hb (2<i+1) 2) (hb (3<i+1) 3);have key:∀j,j<4→t.word j=if j<i+1 then (Cl.ofL l).word j else 0:=fun j hj=>by
    rw [ht j hj]
    by_cases e:j=i
    ·subst e;rw [if_pos rfl,if_pos (by omega),ofL_word hj]
    ·rw [if_neg e,h j hj]
     by_cases e2:j<i
     ·rw [if_pos e2,if_pos (by omega)]
     ·rw [if_neg e2,if_neg (by omega)]
   have:t=_:=Cl.ext_words (x:=t) (y:=Cl.ofWords (if 0<i+1 then (Cl.ofL l).word 0 else 0) (if 1<i+1 then (Cl.ofL l).word 1 else 0) (if 2<i+1 then (Cl.ofL l).word 2 else 0) (if 3<i+1 then (Cl.ofL l).word 3 else 0)) fun j hj=>by
    rw [key j hj]
    match j,hj with
    | 0,_=>exact e0.symm
    | 1,_=>exact e1.symm
    | 2,_=>exact e2.symm
    | 3,_=>exact e3.symm
   rw [this];exact hk
 ·intro s h k;refine ⟨fun h=>absurd (dt h) (by omega),fun _=>?_⟩;show Cl.ofL l=s;exact Cl.ext_words fun j hj=>by rw [h j hj,if_pos hj]
 ·intro j hj;simp [Cl.word]
theorem ofL_set {l:List Bool} {f:Nat→Bool} (h:∀n,n<256→l[n]?=some (f n)):Cl.ofL l=Cl.of f:=by
 apply Cl.ext;intro c hc;rw [has_ofL hc,Cl.of_has _ hc];simp [List.getD,h c hc]
theorem zjm {f t:Int} (hf:InR .u8 f) (ht:InR .u8 t):zc9 f t (Cl.row f t):=by
 obtain ⟨f,hf1,rfl⟩:=u8_of hf;obtain ⟨t,ht1,rfl⟩:=u8_of ht;refine run (P:=fun k (s:List Bool × Int)=>zc9.l1 (t:Int) _ k s.1 s.2)
  (fun s=>s.1.length=256∧∃i:Nat,s.2=i∧f≤i∧(i≤t+1∨i=f)∧∀n,n<256→s.1[n]?=some (decide (f≤n)&&decide (n<i))) (fun s=>257-s.2.toNat) ?_ (List.replicate 256 false,(f:Int)) ?_
 ·rintro ⟨l,i'⟩ ⟨hl,i,hi,h1,h2,h3⟩;simp only at hl hi h3;subst hi
  by_cases hc:i≤t
  ·refine .inr ⟨(l.set i true,((i+1:Nat):Int)),⟨by simpa using hl,i+1,rfl,by omega,by omega,fun n hn=>?_⟩, ?_,fun k h=>⟨fun _=>⟨l[i]'(by omega),by rw [zbw];exact List.getElem?_eq_getElem (by show i<l.length;omega),zh (by simp only;omega) (by simp only;omega), ?_⟩,fun h=>absurd (by show (i:Int)≤(t:Int);omega) (df h)⟩⟩
   ·simp only [List.getElem?_set];split
    ·rename_i e;subst e;simp [show i<l.length by omega,h1]
    ·rename_i e
     rw [h3 n hn];congr 2;apply decide_eq_decide.2;omega
   ·simp only [Int.toNat_natCast];omega
   ·simpa using h
  ·refine .inl fun k=>⟨fun h=>absurd (dt h) (by simp only;omega),fun _=>⟨Cl.ofL l,ref01_Of_in hl, ?_⟩⟩;rw [ofL_set h3];apply Cl.ext;intro c hc2;rw [has_row hc2,Cl.of_has _ hc2]
   by_cases e:f≤c
   ·have e3:(decide (c<i):Bool)=decide (c≤t):=decide_eq_decide.2 (by omega);rw [e3]
    congr 1
    ·apply decide_eq_decide.2;omega
    ·apply decide_eq_decide.2;omega
   ·rw [decide_eq_false (show ¬ (f:Int)≤(c:Int) by omega),decide_eq_false e];simp
 ·refine ⟨List.length_replicate,f,rfl,Nat.le_refl _,by omega,fun n hn=>?_⟩;show (List.replicate 256 false)[n]?=_;rw [List.getElem?_replicate,if_pos hn]
  by_cases e:f≤n
  ·simp [show ¬ n<f by omega]
  ·simp [e]
def zbd (d:List SNode) (s:List SItem) (c:Int):List SItem × Bool:=
 match s with
 | []=>([],false)
 | x::rest=>
  if (zd9 rest).2=false then ([],false)
  else match at? d x.2.1 with
   | none=>([],false)
   | some n=>
    if x.1=3 then (if zej n.2.2.2.2.2.2 x.2.2.1=some c then ((if x.2.2.1+1<(n.2.2.2.2.2.2.length:Int) then [(3,x.2.1,x.2.2.1+1,0)] else [])++(zd9 rest).1,true) else ([],false))
    else if x.1=4 then ([(1,n.2.1,0,0),(5,0,256*x.2.2.1+c,0)]++(zd9 rest).1,true)
    else if n.1=8 then ([(1,n.2.1,0,0),(5,0,c,0)]++(zd9 rest).1,true)
    else if n.1=9 then ([(4,x.2.1,c,0)]++(zd9 rest).1,true)
    else if n.2.2.2.2.2.1.has c.toNat=true then ((zd9 rest).1,true) else ([],false)
theorem zs0 (s:List SItem):(zd9 s).1.length≤s.length:=by unfold zd9;split <;> simp
theorem zlq (d:List SNode) (s:List SItem) (c:Int):(zbd d s c).1.length≤s.length+1:=by
 cases s with
 | nil=>simp [zbd]
 | cons x rest=>
  have:=zs0 rest;unfold zbd;simp only;split
  ·simp
  ·cases at? d x.2.1 with
   | none=>simp
   | some n=>
    simp only [List.length_cons];split
    ·split
     ·split <;> simp <;> omega
     ·simp
    ·split
     ·simp;omega
     ·split
      ·simp;omega
      ·split
       ·simp;omega
       ·split <;> simp;omega
theorem itR_form {d:List SNode} (hd:ROk d) (hl:d.length≤1000) (ht:∀n∈d,n.2.2.2.2.2.2.length≤140737488351232) {x:SItem} (hx:zfm d x=true):ItR x:=by
 unfold zfm at hx;split at hx
 ·rename_i h5
  simp only [Bool.and_eq_true,beq_iff_eq,decide_eq_true_eq] at hx;exact ⟨zh (by omega) (by omega),zh (by omega) (by omega),zh (by omega) (by omega),zh (by omega) (by omega)⟩
 ·cases hn:at? d x.2.1 with
  | none=>rw [hn] at hx;cases hx
  | some n=>
   rw [hn] at hx;have hb:=zb6 hn;have hm:n∈d:=by
    obtain ⟨k,_,hk⟩:=znr hn;exact List.mem_of_getElem? hk
   have htn:=ht n hm;simp only at hx;split at hx
   ·rename_i h1
    simp only [Bool.and_eq_true,beq_iff_eq] at hx;exact ⟨zh (by omega) (by omega),zh (by omega) (by omega),zh (by omega) (by omega),zh (by omega) (by omega)⟩
   ·split at hx
    ·rename_i h2
     simp only [Bool.and_eq_true,beq_iff_eq,decide_eq_true_eq] at hx;have:=hd.rep _ n hn hx.1.1.1;exact ⟨zh (by omega) (by omega),zh (by omega) (by omega),zh (by omega) (by omega),zh (by omega) (by omega)⟩
    ·split at hx
     ·rename_i h3
      simp only [Bool.and_eq_true,beq_iff_eq,decide_eq_true_eq] at hx;exact ⟨zh (by omega) (by omega),zh (by omega) (by omega),zh (by omega) (by omega),zh (by omega) (by omega)⟩
     ·split at hx
      ·rename_i h4
       simp only [Bool.and_eq_true,beq_iff_eq,decide_eq_true_eq] at hx;exact ⟨zh (by omega) (by omega),zh (by omega) (by omega),zh (by omega) (by omega),zh (by omega) (by omega)⟩
      ·cases hx
theorem itR_all {d:List SNode} (hd:ROk d) (hl:d.length≤1000) (ht:∀n∈d,n.2.2.2.2.2.2.length≤140737488351232) {s:List SItem} (hs:zez d s=true):∀x∈s,ItR x:=by
 intro x hx;unfold zez at hs;rw [List.all_eq_true] at hs;exact itR_form hd hl ht (hs x hx)
theorem zls {d:List SNode} {x:SItem} {rest:List SItem} (hf:zez d (x::rest)=true) (hr:rdy d (x::rest)=true):∃n,at? d x.2.1=some n∧n∈d∧((x.1=1∧(n.1=2∨n.1=8∨n.1=9))∨(x.1=3∧n.1=3∧x.2.2.2=0∧0≤x.2.2.1∧x.2.2.1<(n.2.2.2.2.2.2.length:Int))∨(x.1=4∧n.1=9∧0≤x.2.2.1∧x.2.2.1≤255)):=by
 have hx:=(zd7 hf).1;have h5:x.1≠5:=fun h=>by simp [rdy,h] at hr
 obtain ⟨n,hn,_⟩:=zgf hx h5;have hm:n∈d:=by
  obtain ⟨k,_,hk⟩:=znr hn;exact List.mem_of_getElem? hk
 refine ⟨n,hn,hm, ?_⟩;unfold zfm at hx;rw [if_neg h5,hn] at hx;simp only [rdy,hn,Bool.or_eq_true,beq_iff_eq,Bool.and_eq_true] at hr;simp only at hx;rcases hr with (h3 | h4) | ⟨h1,h2⟩
 ·rw [if_neg (by omega),if_neg (by omega),if_pos h3] at hx;simp only [Bool.and_eq_true,beq_iff_eq,decide_eq_true_eq] at hx;exact .inr (.inl ⟨h3,hx.1.1.1,hx.1.1.2,hx.1.2,hx.2⟩)
 ·rw [if_neg (by omega),if_neg (by omega),if_neg (by omega),if_pos h4] at hx;simp only [Bool.and_eq_true,beq_iff_eq,decide_eq_true_eq] at hx;exact .inr (.inr ⟨h4,hx.1.1.1,hx.1.2,hx.2⟩)
 ·exact .inl ⟨h1,by omega⟩
theorem ztm {s:Str} {i:Int} (h0:0≤i) (h1:i<(s.length:Int)):∃c,zej s i=some c∧InR .u8 c:=by
 obtain ⟨x,hx,_⟩:=zpn h0 h1;refine ⟨(x.toNat:Int),by unfold zej;rw [hx];rfl,zge.2 ⟨by omega, ?_⟩⟩;have:=x.toNat_lt;omega
theorem next_Read_in {d:List SNode} (hd:ROk d) (hl:d.length≤1000) (ht:∀n∈d,n.2.2.2.2.2.2.length≤140737488351232) {s:List SItem} (hs:s.length≤1000) (hf:zez d s=true) (hr:rdy d s=true) {c:Int} (hc:InR .u8 c):zlx d s c (zbd d s c):=by
 cases s with
 | nil=>exact ⟨fun _=>rfl,fun h=>by simp at h⟩
 | cons x rest=>
  have hls:rest.length≤1000:=by simp at hs;omega
  have hcr:=zge.1 hc;obtain ⟨n,hn,hm,hk⟩:=zls hf hr;have htn:=ht n hm;have hlow:=zs9 hls (itR_all hd hl ht (zd7 hf).2);have hlen:=zs0 rest;refine ⟨fun h=>by simp at h;omega,fun _=>⟨⟨by omega,by simp;omega⟩,zd9 rest,hlow,x,rfl,fun hb=>?_,fun hb=>⟨x,rfl,n,hn,x,rfl, ?_⟩⟩⟩
  ·have hmh:zie gfmS x.1=true:=by rcases hk with ⟨h,_⟩ | ⟨h,_⟩ | ⟨h,_⟩ <;> rw [h] <;> rfl
   rw [hmh] at hb;simp only [Bool.not_true,Bool.or_false,Bool.not_eq_true'] at hb;unfold zbd;simp only;rw [if_pos hb]
  ·simp only [Bool.or_eq_false_iff,Bool.not_eq_false'] at hb;have hb1:¬ (zd9 rest).2=false:=by rw [hb.1];simp
   have cat:∀l:List SItem,l.length≤2→zg [l,(zd9 rest).1] (l++(zd9 rest).1):=fun l h=>zrb (by omega) (by omega);rcases hk with ⟨h1,h2⟩ | ⟨h3,h4,h5,h6,h7⟩ | ⟨h4,h9,h6,h7⟩
   ·-- a node
    have e1:zex gfmS x.1 none=zex gfmS 1 none:=by rw [h1]
    rw [e1];rcases h2 with h2 | h2 | h2
    ·by_cases hh:n.2.2.2.2.2.1.has c.toNat=true
     ·have hrd:zbd d (x::rest) c=([]++(zd9 rest).1,true):=by
       unfold zbd;simp only [hn];rw [if_neg hb1,if_neg (by omega),if_neg (by omega),if_neg (by omega),if_neg (by omega),if_pos hh];rfl
      rw [hrd];refine ⟨([],true),.inl ⟨rfl,fun h=>by simp [h2] at h,fun _=>⟨fun h=>by simp [h2] at h,fun _=>⟨_,zng hc,by rw [hh]⟩⟩⟩,fun h=>by simp at h,fun _=>⟨_,cat [] (by simp),rfl⟩⟩
     ·have hh':n.2.2.2.2.2.1.has c.toNat=false:=by simpa using hh
      have hrd:zbd d (x::rest) c=([],false):=by
       unfold zbd;simp only [hn];rw [if_neg hb1,if_neg (by omega),if_neg (by omega),if_neg (by omega),if_neg (by omega),if_neg hh]
      rw [hrd];exact ⟨([],false),.inl ⟨rfl,fun h=>by simp [h2] at h,fun _=>⟨fun h=>by simp [h2] at h,fun _=>⟨_,zng hc,by rw [hh']⟩⟩⟩,fun _=>rfl,fun h=>by simp at h⟩
    ·have hrd:zbd d (x::rest) c=([(1,n.2.1,0,0),(5,0,c,0)]++(zd9 rest).1,true):=by
      unfold zbd;simp only [hn];rw [if_neg hb1,if_neg (by omega),if_neg (by omega),if_pos h2]
     rw [hrd];exact ⟨([(1,n.2.1,0,0),(5,0,c,0)],true),.inl ⟨rfl,fun _=>⟨_,rfl,rfl⟩,fun h=>by simp [h2] at h⟩,fun h=>by simp at h,fun _=>⟨_,cat _ (by simp),rfl⟩⟩
    ·have hrd:zbd d (x::rest) c=([(4,x.2.1,c,0)]++(zd9 rest).1,true):=by
      unfold zbd;simp only [hn];rw [if_neg hb1,if_neg (by omega),if_neg (by omega),if_neg (by omega),if_pos h2]
     rw [hrd];exact ⟨([(4,x.2.1,c,0)],true),.inl ⟨rfl,fun h=>by simp [h2] at h,fun _=>⟨fun _=>rfl,fun h=>by simp [h2] at h⟩⟩,fun h=>by simp at h,fun _=>⟨_,cat _ (by simp),rfl⟩⟩
   ·-- a text
    have e1:zex gfmS x.1 none=zex gfmS 3 none:=by rw [h3]
    rw [e1];obtain ⟨b,hb2,_⟩:=ztm h6 h7;obtain ⟨xk,xi,xl,xh⟩:=x;simp only at h3 h5 h6 h7 hb2 hn;subst h3;subst h5
    by_cases hbc:b=c
    ·subst hbc
     by_cases hlast:xl+1<(n.2.2.2.2.2.2.length:Int)
     ·have hrd:zbd d ((3,xi,xl,0)::rest) b=([(3,xi,xl+1,0)]++(zd9 rest).1,true):=by
       unfold zbd;simp only [hn];rw [if_neg hb1,if_pos trivial,if_pos hb2,if_pos hlast]
      rw [hrd];refine ⟨([(3,xi,xl+1,0)],true),.inr (.inl ⟨rfl,zh (by show _≤xl+1;omega) (by show xl+1≤_;omega),_,rfl,fun h=>?_,fun _=>⟨b,hb2,by simp⟩⟩),fun h=>by simp at h,fun _=>⟨_,cat _ (by simp),rfl⟩⟩;simp at h;omega
     ·have hrd:zbd d ((3,xi,xl,0)::rest) b=([]++(zd9 rest).1,true):=by
       unfold zbd;simp only [hn];rw [if_neg hb1,if_pos trivial,if_pos hb2,if_neg hlast]
      rw [hrd];refine ⟨([],true),.inr (.inl ⟨rfl,zh (by show _≤xl+1;omega) (by show xl+1≤_;omega),_,rfl,fun _=>⟨b,hb2,by simp⟩,fun h=>?_⟩),fun h=>by simp at h,fun _=>⟨_,cat _ (by simp),rfl⟩⟩;simp at h;omega
    ·have hne:¬ zej n.2.2.2.2.2.2 xl=some c:=by rw [hb2];simpa using hbc
     have hrd:zbd d ((3,xi,xl,0)::rest) c=([],false):=by
      unfold zbd;simp only [hn];rw [if_neg hb1,if_pos trivial,if_neg hne]
     rw [hrd];have hbeq:(b==c)=false:=by simpa using hbc
     by_cases hlast:xl+1=(n.2.2.2.2.2.2.length:Int)
     ·refine ⟨([],false),.inr (.inl ⟨rfl,zh (by show _≤xl+1;omega) (by show xl+1≤_;omega),_,rfl,fun _=>⟨b,hb2,by rw [hbeq]⟩,fun h=>?_⟩),fun _=>rfl,fun h=>by simp at h⟩;simp at h;omega
     ·refine ⟨([(3,xi,xl+1,0)],false),.inr (.inl ⟨rfl,zh (by show _≤xl+1;omega) (by show xl+1≤_;omega),_,rfl,fun h=>?_,fun _=>⟨b,hb2,by rw [hbeq]⟩⟩),fun _=>rfl,fun h=>by simp at h⟩;simp at h;omega
   ·-- half a number
    have e1:zex gfmS x.1 none=zex gfmS 4 none:=by rw [h4]
    rw [e1];have hrd:zbd d (x::rest) c=([(1,n.2.1,0,0),(5,0,256*x.2.2.1+c,0)]++(zd9 rest).1,true):=by
     unfold zbd;simp only [hn];rw [if_neg hb1,if_neg (by omega),if_pos h4]
    rw [hrd];exact ⟨([(1,n.2.1,0,0),(5,0,256*x.2.2.1+c,0)],true),.inr (.inr ⟨rfl,zh (by show _≤256*x.2.2.1;omega) (by show 256*x.2.2.1≤_;omega),zh (by show _≤256*x.2.2.1+c;omega) (by show 256*x.2.2.1+c≤_;omega),_,rfl,rfl⟩),fun h=>by simp at h,fun _=>⟨_,cat _ (by simp),rfl⟩⟩
theorem zr5 {d:List SNode} (hd:ROk d) (hl:d.length≤1000) (ht:∀n∈d,n.2.2.2.2.2.2.length≤140737488351232) {s:List SItem} (hs:s.length≤1000) (hf:zez d s=true) (hr:rdy d s=true) {c:Int} (hc:InR .u8 c):zkd d s c (zbd d s c):=by
 cases s with
 | nil=>exact ⟨fun _=>rfl,fun h=>by simp at h⟩
 | cons x rest=>
  have hls:rest.length≤1000:=by simp at hs;omega
  have hcr:=zge.1 hc;obtain ⟨n,hn,hm,hk⟩:=zls hf hr;have htn:=ht n hm;have hlow:=zqb hls (itR_all hd hl ht (zd7 hf).2);have hlen:=zs0 rest;refine ⟨fun h=>by simp at h;omega,fun _=>⟨⟨by omega,by simp;omega⟩,zd9 rest,hlow,fun hb=>?_,fun hb=>⟨x,rfl,n,hn, ?_⟩⟩⟩
  ·simp only [Bool.not_eq_true'] at hb;unfold zbd;simp only;rw [if_pos hb]
  ·simp only [Bool.not_eq_false'] at hb;have hb1:¬ (zd9 rest).2=false:=by rw [hb];simp
   rcases hk with ⟨h1,h2⟩ | ⟨h3,h4,h5,h6,h7⟩ | ⟨h4,h9,h6,h7⟩
   ·refine ⟨fun h=>by simp [h1] at h,fun _=>⟨fun h=>by simp [h1] at h,fun _=>?_⟩⟩;rcases h2 with h2 | h2 | h2
    ·refine ⟨fun h=>by simp [h2] at h,fun _=>⟨fun h=>by simp [h2] at h,fun _=>⟨_,zna hc,fun hh=>?_,fun hh=>⟨by simp;omega, ?_⟩⟩⟩⟩
     ·have hh':¬ n.2.2.2.2.2.1.has c.toNat=true:=by simpa using hh
      unfold zbd;simp only [hn];rw [if_neg hb1,if_neg (by omega),if_neg (by omega),if_neg (by omega),if_neg (by omega),if_neg hh']
     ·have hh':n.2.2.2.2.2.1.has c.toNat=true:=by simpa using hh
      unfold zbd;simp only [hn];rw [if_neg hb1,if_neg (by omega),if_neg (by omega),if_neg (by omega),if_neg (by omega),if_pos hh'];rfl
    ·refine ⟨fun _=>⟨by simp;omega, ?_⟩,fun h=>by simp [h2] at h⟩;unfold zbd;simp only [hn];rw [if_neg hb1,if_neg (by omega),if_neg (by omega),if_pos h2]
    ·refine ⟨fun h=>by simp [h2] at h,fun _=>⟨fun _=>⟨by simp;omega, ?_⟩,fun h=>by simp [h2] at h⟩⟩;unfold zbd;simp only [hn];rw [if_neg hb1,if_neg (by omega),if_neg (by omega),if_neg (by omega),if_pos h2]
   ·obtain ⟨b,hb2,_⟩:=ztm h6 h7;refine ⟨fun _=>⟨b,hb2,fun hbc=>?_,fun hbc=>⟨zh (by omega) (by omega),_,rfl,fun hl2=>⟨zh (by omega) (by omega),by simp;omega, ?_⟩,fun hl2=>⟨by simp;omega, ?_⟩⟩⟩,fun h=>by simp [h3] at h⟩
    ·have hne:¬ zej n.2.2.2.2.2.2 x.2.2.1=some c:=by rw [hb2];simpa using hbc
     unfold zbd;simp only [hn];rw [if_neg hb1,if_pos h3,if_neg hne]
    ·have he:zej n.2.2.2.2.2.2 x.2.2.1=some c:=by rw [hb2];simpa using hbc
     unfold zbd;simp only [hn];rw [if_neg hb1,if_pos h3,if_pos he,if_pos (dt hl2)]
    ·have he:zej n.2.2.2.2.2.2 x.2.2.1=some c:=by rw [hb2];simpa using hbc
     unfold zbd;simp only [hn];rw [if_neg hb1,if_pos h3,if_pos he,if_neg (df hl2)]
   ·refine ⟨fun h=>by simp [h4] at h,fun _=>⟨fun _=>⟨zh (by omega) (by omega),zh (by omega) (by omega),by simp;omega, ?_⟩,fun h=>by simp [h4] at h⟩⟩;unfold zbd;simp only [hn];rw [if_neg hb1,if_neg (by omega),if_pos h4]
def zq7 (c:Int) (n:SNode):SNode:=(n.1,if 4≤n.1 then n.2.1+c else n.2.1,if n.1=4∨n.1=5 then n.2.2.1+c else n.2.2.1,n.2.2.2.1,n.2.2.2.2.1,n.2.2.2.2.2.1,n.2.2.2.2.2.2)
def zpq (c:Int) (l:List SNode):List SNode:=l.map (zq7 c)
theorem zix (c:Int) (l:List SNode):(zpq c l).length=l.length:=List.length_map ..
theorem moved_in {l:List SNode} {c:Int} (hl:l.length≤1000) (hr:∀n∈l,InR .i64 (n.2.1+c)∧InR .i64 (n.2.2.1+c)):zbc l c (zpq c l):=by
 refine zf2 (P:=fun k (o:List SNode) v=>zbc.l1 l c _ k o v) l.length (fun i o=>o=zpq c (l.take i)) ?_ ?_ [] (by simp [zpq])
 ·rintro i o hi rfl;have hat:at? l (i:Int)=some l[i]:=by rw [zbw];simp [hi]
  obtain ⟨r1,r2⟩:=hr _ (List.getElem_mem hi);have e:zpq c (l.take (i+1))=zpq c (l.take i)++[zq7 c l[i]]:=by
   unfold zpq;rw [List.take_succ_eq_append_getElem hi,List.map_append];rfl
  have hll:(zpq c (l.take i)).length=i:=by rw [zix];simp;omega
  refine .inr ⟨_,rfl,fun k hk=>⟨fun _=>⟨l[i],hat, ?_⟩,fun h=>absurd (by omega) (df h)⟩⟩;rw [e] at hk;have last:∀w:SNode,w=zq7 c l[i]→zbc.j2 (zbc.l1 l c (zbc.j1 (zpq c l)) k) (zpq c (l.take i)) (i:Int) w:=by
   rintro w rfl;exact ⟨by rw [hll];simp;omega,zh (by omega) (by omega),hk⟩
  generalize l[i]=n at *;obtain ⟨k0,a,b,lo,hi2,cl,tx⟩:=n;simp only at r1 r2;refine ⟨fun h4=>⟨r1,fun h5=>⟨r2,last _ ?_⟩,fun h5=>last _ ?_⟩,fun h4=>⟨fun h5=>?_,fun h5=>last _ ?_⟩⟩
  ·have:=dt h4;simp only at this;simp only [Bool.or_eq_true,beq_iff_eq] at h5;simp only [zq7,if_pos this,if_pos h5]
  ·have:=dt h4;simp only at this;simp only [Bool.or_eq_false_iff,beq_eq_false_iff_ne] at h5;have h5':¬ (k0=4∨k0=5):=by omega
   simp only [zq7,if_pos this,if_neg h5']
  ·exfalso;have:=df h4;simp only at this;simp only [Bool.or_eq_true,beq_iff_eq] at h5;omega
  ·have:=df h4;simp only at this;have h5':¬ (k0=4∨k0=5):=by omega
   simp only [zq7,if_neg this,if_neg h5']
 ·rintro o rfl k;refine ⟨fun h=>absurd (dt h) (by omega),fun _=>?_⟩;show zpq c l=zpq c (l.take l.length);rw [List.take_length]
theorem movN_zero (n:SNode):zq7 0 n=n:=by
 obtain ⟨k,a,b,r⟩:=n;simp [zq7]
theorem movL_zero (l:List SNode):zpq 0 l=l:=by
 unfold zpq;rw [show zq7 0=id from funext movN_zero,List.map_id]
def zlv (k:Int) (a b:List SNode):List SNode:=(a++zpq (a.length:Int) b)++[(k,(a.length:Int)-1,((a.length:Int)+(b.length:Int))-1,0,0,(0#256),([]:Str))]
def wrapD (k:Int) (a:List SNode):List SNode:=a++[(k,(a.length:Int)-1,0,0,0,(0#256),([]:Str))]
structure Sma (d:List SNode):Prop where
 a:∀n∈d,0≤n.2.1∧n.2.1≤(d.length:Int)
 b:∀n∈d,0≤n.2.2.1∧n.2.2.1≤(d.length:Int)
theorem Tr.parts {l:List SNode} {f i:Int} (h:Tr l f i) {n:SNode} (hn:at? l i=some n):(0≤n.2.1∧n.2.1≤i)∧(0≤n.2.2.1∧n.2.2.1≤i):=by
 have hb:=zb6 hn;cases h with
 | leaf he hk hx h0=>rw [hn] at he;cases he;omega
 | one he hk ha hb hr h=>rw [hn] at he;cases he;have:=h.le;omega
 | two he hk ha hb h1 h2=>rw [hn] at he;cases he;have:=h1.le;have:=h2.le;omega
theorem mem_at {α:Type} {l:List α} {x:α} (h:x∈l):∃i:Int,at? l i=some x:=by
 obtain ⟨i,hi,e⟩:=List.mem_iff_getElem.1 h;exact ⟨(i:Int),by rw [zbw];simp [hi,e]⟩
theorem Tr.sma {d:List SNode} (h:Tr d 0 ((d.length:Int)-1)):Sma d:=by
 constructor
 all_goals
  intro n hn;obtain ⟨i,hi⟩:=mem_at hn;obtain ⟨g,hg⟩:=h.at hi;have:=hg.parts hi;have:=zb6 hi;omega
theorem moved_ok {d:List SNode} (h:Tr d 0 ((d.length:Int)-1)) (hl:d.length≤1000) {c:Int} (h0:0≤c) (h1:c≤1000):zbc d c (zpq c d):=
 moved_in hl fun n hn=>by
  have:=h.sma.a n hn;have:=h.sma.b n hn;exact ⟨zh (by omega) (by omega),zh (by omega) (by omega)⟩
theorem Pair_in {k:Int} {a b:List SNode} (ha:Tr a 0 ((a.length:Int)-1)) (hb:Tr b 0 ((b.length:Int)-1)) (la:a.length≤1000) (lb:b.length≤1000):zkg k a b (zlv k a b):=by
 refine ⟨_,moved_ok ha la (Int.le_refl 0) (by omega),_,moved_ok hb lb (c:=(a.length:Int)) (by omega) (by omega),by rw [zix,zix];omega,zh (by omega) (by omega),zh (by omega) (by omega),zh (by omega) (by omega),by rw [List.length_append,zix,zix];simp;omega, ?_⟩;rw [movL_zero];rfl
structure Emb (l l':List SNode) (c:Int):Prop where
 nn:0≤c
 at':∀i n,at? l i=some n→at? l' (i+c)=some (zq7 c n)
theorem Tr.emb {l l':List SNode} {c:Int} (h:Emb l l' c) {f i:Int} (t:Tr l f i):Tr l' (f+c) (i+c):=by
 induction t with
 | leaf he hk hx h0=>
  rename_i i e
  have e1:zq7 c e=e:=by
   obtain ⟨k,a,b,r⟩:=e;simp only at hk;simp only [zq7,if_neg (show ¬ 4≤k by omega),if_neg (show ¬ (k=4∨k=5) by omega)]
  exact .leaf (e1 ▸ h.at' _ _ he) hk hx h0
 | one he hk ha hb hr t ih=>
  rename_i f i e
  refine .one (h.at' _ _ he) hk ?_ ?_ hr (by have e:i-1+c=i+c-1:=by omega
                                             rw [← e];exact ih)
  ·simp only [zq7];rw [if_pos (by omega)];omega
  ·simp only [zq7];rw [if_neg (by omega)];exact hb
 | two he hk ha hb t1 t2 i1 i2=>
  rename_i f p i e
  refine .two (p:=p+c) (h.at' _ _ he) hk ?_ ?_ (by have e:i-1+c=i+c-1:=by omega
                                                   rw [← e];exact i1) (by have e:p-1+c=p+c-1:=by omega
                                                                          rw [← e];exact i2)
  ·simp only [zq7];rw [if_pos (by omega)];omega
  ·simp only [zq7];rw [if_pos (by omega)];omega
theorem Emb.get {l l':List SNode} {c:Int} (h:Emb l l' c) {i:Int} {n:SNode} (hn:at? l i=some n):∃m,at? l' (i+c)=some m∧m.1=n.1∧(4≤n.1→m.2.1=n.2.1+c)∧(n.1=4∨n.1=5→m.2.2.1=n.2.2.1+c)∧m.2.2.2.1=n.2.2.2.1∧m.2.2.2.2.1=n.2.2.2.2.1:=
 ⟨zq7 c n,h.at' _ _ hn,rfl,fun h=>if_pos h,fun h=>if_pos h,rfl,rfl⟩
theorem nz_emb {l l':List SNode} {c:Int} (h:Emb l l' c) (hl:NOk l) (hl':NOk l'):∀(k:Nat) (i:Int) (n:SNode),i<(k:Int)→at? l i=some n→nz l' (i+c)=nz l i
 | 0,i,n,hi,hn=>by have:=zb6 hn;omega
 | k+1,i,n,hi,hn=>by
  have ih:=nz_emb h hl hl' k;obtain ⟨m,hm,f1,f2,f3,f4,f5⟩:=h.get hn;rw [nz_atN hl hn,nz_atN hl' hm,f1,f4]
  by_cases h1:n.1=1
  ·rw [if_pos h1,if_pos h1]
  ·rw [if_neg h1,if_neg h1]
   by_cases h4:n.1=4
   ·obtain ⟨⟨a,b⟩,c',e⟩:=hl.two _ n hn (.inl h4);obtain ⟨m1,hm1⟩:=zea hn a b;obtain ⟨m2,hm2⟩:=zea hn c' e;rw [if_pos h4,if_pos h4,f2 (by omega),f3 (.inl h4),ih _ m1 (by omega) hm1,ih _ m2 (by omega) hm2]
   ·rw [if_neg h4,if_neg h4]
    by_cases h5:n.1=5
    ·obtain ⟨⟨a,b⟩,c',e⟩:=hl.two _ n hn (.inr h5);obtain ⟨m1,hm1⟩:=zea hn a b;obtain ⟨m2,hm2⟩:=zea hn c' e;rw [if_pos h5,if_pos h5,f2 (by omega),f3 (.inr h5),ih _ m1 (by omega) hm1,ih _ m2 (by omega) hm2]
    ·rw [if_neg h5,if_neg h5]
     by_cases h6:n.1=6
     ·rw [if_pos h6,if_pos h6]
     ·rw [if_neg h6,if_neg h6]
      by_cases h7:n.1=7
      ·obtain ⟨a,b⟩:=hl.one _ n hn (.inr (.inl h7));obtain ⟨m1,hm1⟩:=zea hn a b;rw [if_pos h7,if_pos h7,f2 (by omega),ih _ m1 (by omega) hm1]
      ·rw [if_neg h7,if_neg h7]
theorem PM_rng {d:List SNode} (hd:ROk d):∀(k:Nat) (i:Int),i<(k:Int)→∀p∈pm d i,∃x q,p=x::q∧0≤x.2.1∧x.2.1<(d.length:Int)
 | 0,i,hi,p,hp=>by
  have:at? d i=none:=at_none (.inl (by omega));unfold pm at hp;rw [zj4 hd d.length 0 i] at hp
  ·simp [PM] at hp
  ·omega
  ·omega
 | k+1,i,hi,p,hp=>by
  have ih:=PM_rng hd k;cases hn:at? d i with
  | none=>
   exfalso;unfold pm at hp;cases hdl:d.length with
   | zero=>rw [hdl] at hp;simp [PM] at hp
   | succ m=>rw [hdl] at hp;simp [PM,hn] at hp
  | some n=>
   have hb:=zb6 hn;have e1:pm d i=(PM d d.length i).1:=rfl;rw [e1,zkw hd hn] at hp;have app:∀(a:Int) (y:SItem),a<i→p∈(pm d a).map (·++[y])→∃x q,p=x::q∧0≤x.2.1∧x.2.1<(d.length:Int):=by
    intro a y ha h;obtain ⟨q,hq,rfl⟩:=List.mem_map.1 h;obtain ⟨x,q',rfl,h1,h2⟩:=ih a (by omega) q hq;exact ⟨x,q'++[y],rfl,h1,h2⟩
   by_cases h1:n.1=1
   ·simp [h1] at hp
   ·by_cases h3:n.1=3
    ·simp [h3] at hp;subst hp;exact ⟨_,_,rfl,hb⟩
    ·by_cases h4:n.1=4
     ·obtain ⟨⟨a,b⟩,c',e⟩:=hd.two _ n hn (.inl h4);rw [if_neg h1,if_neg h3,if_pos h4] at hp;rcases List.mem_append.1 hp with hp | hp
      ·exact app _ _ b hp
      ·obtain ⟨l,hl,hp⟩:=List.mem_flatten.1 hp;rw [List.mem_replicate.1 hl |>.2] at hp;exact ih _ (by omega) p hp
     ·by_cases h5:n.1=5
      ·obtain ⟨⟨a,b⟩,c',e⟩:=hd.two _ n hn (.inr h5);rw [if_neg h1,if_neg h3,if_neg h4,if_pos h5] at hp;rcases List.mem_append.1 hp with hp | hp
       ·exact ih _ (by omega) p hp
       ·exact ih _ (by omega) p hp
      ·by_cases h6:n.1=6
       ·obtain ⟨a,b⟩:=hd.one _ n hn (.inl h6);rw [if_neg h1,if_neg h3,if_neg h4,if_neg h5,if_pos h6] at hp;exact app _ _ b hp
       ·by_cases h7:n.1=7
        ·obtain ⟨a,b⟩:=hd.one _ n hn (.inr (.inl h7));rw [if_neg h1,if_neg h3,if_neg h4,if_neg h5,if_neg h6,if_pos h7] at hp;simp only at hp;split at hp
         ·exact app _ _ b hp
         ·cases hp
        ·rw [if_neg h1,if_neg h3,if_neg h4,if_neg h5,if_neg h6,if_neg h7] at hp;rw [List.mem_singleton] at hp;subst hp;exact ⟨_,_,rfl,hb⟩
theorem at_left {α:Type} {a b:List α} {i:Int} {x:α} (h:at? a i=some x):at? (a++b) i=some x:=by
 obtain ⟨k,rfl,hk⟩:=znr h;rw [zbw,List.getElem?_append_left (List.getElem?_eq_some_iff.1 hk).1];exact hk
theorem at_right {α:Type} {a b:List α} {i:Int} {x:α} (h:at? b i=some x):at? (a++b) (i+(a.length:Int))=some x:=by
 obtain ⟨k,rfl,hk⟩:=znr h;have e:(k:Int)+(a.length:Int)=((k+a.length:Nat):Int):=by omega
 rw [e,zbw,List.getElem?_append_right (by omega),Nat.add_sub_cancel];exact hk
theorem at_app {α:Type} {a b:List α} {i:Int} {x:α} (h:at? (a++b) i=some x):at? a i=some x∨at? b (i-(a.length:Int))=some x:=by
 obtain ⟨k,rfl,hk⟩:=znr h;rcases Nat.lt_or_ge k a.length with hlt | hge
 ·rw [List.getElem?_append_left hlt] at hk;exact .inl (by rw [zbw];exact hk)
 ·rw [List.getElem?_append_right hge] at hk;have e:(k:Int)-(a.length:Int)=((k-a.length:Nat):Int):=by omega
  exact .inr (by rw [e,zbw];exact hk)
theorem at_one {α:Type} {x y:α} {i:Int} (h:at? [x] i=some y):i=0∧y=x:=by
 have hb:=zb6 h;simp at hb;obtain rfl:i=0:=by omega
 cases h;exact ⟨rfl,rfl⟩
theorem at_movL {c:Int} {l:List SNode} {i:Int} {n:SNode} (h:at? l i=some n):at? (zpq c l) i=some (zq7 c n):=by
 obtain ⟨k,rfl,hk⟩:=znr h;rw [zbw];unfold zpq;rw [List.getElem?_map,hk];rfl
theorem at_movL_inv {c:Int} {l:List SNode} {i:Int} {n:SNode} (h:at? (zpq c l) i=some n):∃m,at? l i=some m∧n=zq7 c m:=by
 obtain ⟨k,rfl,hk⟩:=znr h;unfold zpq at hk;rw [List.getElem?_map] at hk;obtain ⟨m,h1,h2⟩:=Option.map_eq_some_iff.1 hk;exact ⟨m,by rw [zbw];exact h1,h2.symm⟩
theorem emb_left {a:List SNode} (r:List SNode):Emb a (a++r) 0:=⟨Int.le_refl _,fun i n h=>by rw [movN_zero,Int.add_zero];exact at_left h⟩
theorem emb_mid {a b r:List SNode}:Emb b ((a++zpq (a.length:Int) b)++r) (a.length:Int):=⟨by omega,fun i n h=>at_left (at_right (at_movL h))⟩
theorem pair_len (k:Int) (a b:List SNode):(zlv k a b).length=a.length+b.length+1:=by simp [zlv,zix];omega
theorem pair_root (k:Int) (a b:List SNode):at? (zlv k a b) ((a.length:Int)+(b.length:Int))=some (k,(a.length:Int)-1,((a.length:Int)+(b.length:Int))-1,0,0,(0#256),([]:Str)):=by
 have:=at_right (a:=a++zpq (a.length:Int) b) (b:=[(k,(a.length:Int)-1,((a.length:Int)+(b.length:Int))-1,0,0,(0#256),([]:Str))]) (i:=0) rfl;rw [List.length_append,zix] at this;have e:(0:Int)+((a.length+b.length:Nat):Int)=(a.length:Int)+(b.length:Int):=by omega
 rw [e] at this;exact this
theorem pair_rt {k:Int} {a b:List SNode} (ha:Rt a) (hb:Rt b) (hk:k=4∨k=5):Rt (zlv k a b):=by
 have ea:Emb a (zlv k a b) 0:=by unfold zlv;rw [List.append_assoc];exact emb_left _
 have eb:Emb b (zlv k a b) (a.length:Int):=emb_mid;have ta:=ha.tr.emb ea;have tb:=hb.tr.emb eb;have tr:Tr (zlv k a b) 0 (((zlv k a b).length:Int)-1):=by
  have e:(((zlv k a b).length:Int)-1)=(a.length:Int)+(b.length:Int):=by rw [pair_len];omega
  rw [e];refine .two (p:=(a.length:Int)) (pair_root k a b) hk rfl rfl ?_ ?_
  ·have e1:(b.length:Int)-1+(a.length:Int)=(a.length:Int)+(b.length:Int)-1:=by omega
   rw [e1,Int.zero_add] at tb;exact tb
  ·rw [Int.add_zero,Int.add_zero] at ta;exact ta
 have nk:=tr.nok;refine ⟨⟨nk.two,nk.one,nk.rep,nk.kind,nk.ntx,fun i n hn h67=>?_⟩,tr⟩;unfold zlv at hn;rcases at_app hn with hn | hn
 ·rcases at_app hn with hn | hn
  ·obtain ⟨p,q⟩:=ha.one _ n hn (by omega);obtain ⟨m,hm⟩:=zea hn p q;have:=nz_emb ea ha.nok nk a.length _ m (by have:=zb6 hm;omega) hm;rw [Int.add_zero] at this;rw [this];exact ha.nn _ n hn h67
  ·obtain ⟨m0,hm0,rfl⟩:=at_movL_inv hn;have hk0:m0.1=6∨m0.1=7:=h67;obtain ⟨p,q⟩:=hb.one _ m0 hm0 (by omega);obtain ⟨m,hm⟩:=zea hm0 p q;have:=nz_emb eb hb.nok nk b.length _ m (by have:=zb6 hm;omega) hm;simp only [zq7];rw [if_pos (by omega),this];exact hb.nn _ m0 hm0 hk0
 ·obtain ⟨_,rfl⟩:=at_one hn;simp only at h67;omega
theorem leaf_rt {n:SNode} (hk:n.1=1∨n.1=2) (h0:n.2.1=0∧n.2.2.1=0):Rt [n]:=by
 have tr:Tr [n] 0 ((([n]:List SNode).length:Int)-1):=.leaf (e:=n) rfl (by omega) (fun h=>by omega) h0;have nk:=tr.nok;refine ⟨⟨nk.two,nk.one,nk.rep,nk.kind,nk.ntx,fun i m hm h67=>?_⟩,tr⟩;obtain ⟨_,rfl⟩:=at_one hm;omega
def zcl (F:List SItem→Nat) (L:List (List SItem)):Nat:=(L.map F).sum
theorem zfe (F:List SItem→Nat) (A B:List (List SItem)):zcl F (A++B)=zcl F A+zcl F B:=by unfold zcl;rw [List.map_append,List.sum_append]
theorem zhd (F:List SItem→Nat) (m:Nat) (L:List (List SItem)):zcl F (List.replicate m L).flatten=m*zcl F L:=by
 induction m with
 | zero=>simp [zcl]
 | succ m ih=>rw [List.replicate_succ,List.flatten_cons,zfe,ih,Nat.succ_mul,Nat.add_comm]
theorem ze2 (F:List SItem→Nat) (g:List SItem→List SItem) (L:List (List SItem)):zcl F (L.map g)=zcl (fun t=>F (g t)) L:=by unfold zcl;rw [List.map_map];rfl
theorem zgy {F G:List SItem→Nat} {L:List (List SItem)} (h:∀t∈L,F t=G t):zcl F L=zcl G L:=by unfold zcl;rw [List.map_congr_left h]
theorem zdx (L:List (List SItem)):L.count []=zcl (fun t=>if t=[] then 1 else 0) L:=by
 induction L with
 | nil=>rfl
 | cons t L ih=>
  rw [List.count_cons,ih];unfold zcl;rw [List.map_cons,List.sum_cons]
  by_cases h:t=[]
  ·simp [h];omega
  ·simp [h]
theorem znx (F:List SItem→Nat) (m:Nat) (L:List (List SItem)):zcl (fun t=>F t*m) L=zcl F L*m:=by
 induction L with
 | nil=>simp [zcl]
 | cons t L ih=>
  unfold zcl at *;simp only [List.map_cons,List.sum_cons];rw [ih,Nat.add_mul]
theorem pmI_ne {d:List SNode} (hd:ROk d) (x:SItem):∀p∈pmI d x,p≠[]:=by
 intro p hp e;subst e;have k1:∀i,[] ∉ pm d i:=fun i h=>by
  obtain ⟨y,q,e,_⟩:=PM_rng hd (i.toNat+1) i (by omega) _ h;cases e
 unfold pmI at hp;split at hp
 ·exact k1 _ hp
 ·split at hp
  ·split at hp
   ·split at hp
    ·obtain ⟨q,_,e⟩:=List.mem_map.1 hp;simp at e
    ·cases hp
   ·cases hp
  ·split at hp
   ·cases hp
   ·simp at hp
theorem ztd {d:List SNode} (hd:ROk d) (F:List SItem→Nat) (r:List SItem):∀s,zcl F (hds d (s++r))=zcl (fun t=>if t=[] then zcl F (hds d r) else F (t++r)) (hds d s)
 | []=>by simp [hds,zcl]
 | x::s=>by
  have ih:=ztd hd F r s;simp only [List.cons_append,hds];rw [zfe,zfe,zhd,zhd,ze2,ze2,ih]
  congr 1
  refine zgy fun p hp=>?_;rw [if_neg (by have:=pmI_ne hd x p hp;simp [this]),List.append_assoc]
theorem lowF_app (s r:List SItem):zd9 (s++r)=if (zd9 s).2=true∧(zd9 r).2=true then ((zd9 s).1++(zd9 r).1,true) else ([],false):=by
 unfold zd9;rw [List.any_append,List.map_append];cases s.any zma <;> cases r.any zma <;> simp
theorem zow {d:List SNode} {t:List SItem} (ht:t≠[]) (r:List SItem) (c:Int):zbd d (t++r) c=if (zbd d t c).2=true∧(zd9 r).2=true then ((zbd d t c).1++(zd9 r).1,true) else ([],false):=by
 cases t with
 | nil=>exact absurd rfl ht
 | cons x rest=>
  have hl:=lowF_app rest r;cases h1:(zd9 rest).2
  ·have e1:zbd d (x::rest) c=([],false):=by unfold zbd;simp only;rw [if_pos h1]
   have e2:(zd9 (rest++r)).2=false:=by rw [hl,h1];simp
   rw [e1];rw [List.cons_append];unfold zbd;simp only;rw [if_pos e2];simp
  ·cases h2:(zd9 r).2
   ·have e2:(zd9 (rest++r)).2=false:=by rw [hl,h2];simp
    rw [List.cons_append];have e3:zbd d (x::(rest++r)) c=([],false):=by unfold zbd;simp only;rw [if_pos e2]
    rw [e3,if_neg (by simp)]
   ·have e2:zd9 (rest++r)=((zd9 rest).1++(zd9 r).1,true):=by rw [hl,h1,h2];simp
    rw [List.cons_append];unfold zbd;simp only [e2];rw [if_neg (show ¬ true=false by simp),if_neg (show ¬ (zd9 rest).2=false by rw [h1];simp)];cases hn:at? d x.2.1 with
    | none=>simp
    | some n=>
     simp only
     by_cases h3:x.1=3
     ·rw [if_pos h3,if_pos h3];split
      ·simp
      ·simp
     ·rw [if_neg h3,if_neg h3]
      by_cases h4:x.1=4
      ·rw [if_pos h4,if_pos h4];simp
      ·rw [if_neg h4,if_neg h4]
       by_cases h8:n.1=8
       ·rw [if_pos h8,if_pos h8];simp
       ·rw [if_neg h8,if_neg h8]
        by_cases h9:n.1=9
        ·rw [if_pos h9,if_pos h9];simp
        ·rw [if_neg h9,if_neg h9]
         by_cases hh:n.2.2.2.2.2.1.has c.toNat=true
         ·rw [if_pos hh,if_pos hh];simp
         ·rw [if_neg hh,if_neg hh];simp
def wyn (d:List SNode):List Int→List SItem→Nat
 | [],s=>(hds d s).count []
 | c::w,s=>zcl (fun t=>if (zbd d t c).2=true then wyn d w (zbd d t c).1 else 0) (hds d s)
def zpr:Nat→List SItem→Option (List SItem)
 | 0,s=>some s
 | p+1,s=>if (zd9 s).2=true then zpr p (zd9 s).1 else none
def wynO (d:List SNode) (w:List Int):Option (List SItem)→Nat
 | some s=>wyn d w s
 | none=>0
theorem zh6 (d:List SNode) (w:List Int) (s:List SItem):wynO d w (some s)=wyn d w s:=rfl
def ze5 (F:List Int→List Int→Nat):List Int→Nat
 | []=>F [] []
 | c::w=>F [] (c::w)+ze5 (fun a b=>F (c::a) b) w
theorem zfl {F G:List Int→List Int→Nat}:∀{w:List Int},(∀a b,a++b=w→F a b=G a b)→ze5 F w=ze5 G w
 | [],h=>h [] [] rfl
 | c::w,h=>by
  unfold ze5;rw [h [] (c::w) rfl,zfl fun a b e=>h (c::a) b (by simp [e])]
theorem zgg:∀(w:List Int),ze5 (fun _ _=>0) w=0
 | []=>rfl
 | c::w=>by unfold ze5;rw [zgg w]
theorem zn5 (F G:List Int→List Int→Nat):∀(w:List Int),ze5 (fun a b=>F a b+G a b) w=ze5 F w+ze5 G w
 | []=>rfl
 | c::w=>by unfold ze5;rw [zn5 (fun a b=>F (c::a) b) (fun a b=>G (c::a) b) w];omega
theorem cutS_sum (g:List SItem→List Int→List Int→Nat) (w:List Int):∀(L:List (List SItem)),ze5 (fun a b=>zcl (fun t=>g t a b) L) w=zcl (fun t=>ze5 (g t) w) L
 | []=>by simp [zcl,zgg]
 | t::L=>by
  have ih:=cutS_sum g w L;have e:(fun a b=>zcl (fun t=>g t a b) (t::L))=fun a b=>g t a b+zcl (fun t=>g t a b) L:=by
   funext a b;simp [zcl]
  rw [e,zn5,ih];simp [zcl]
theorem wyn_app {d:List SNode} (hd:ROk d):∀(w:List Int) (s r:List SItem),wyn d w (s++r)=ze5 (fun a b=>wyn d a s*wynO d b (zpr a.length r)) w
 | [],s,r=>by
  simp only [wyn,ze5,List.length_nil,zpr,zh6];rw [zdx,ztd hd,zdx (hds d s),← znx];refine zgy fun t _=>?_
  by_cases ht:t=[]
  ·rw [if_pos ht,if_pos ht,← zdx,Nat.one_mul]
  ·rw [if_neg ht,if_neg ht,if_neg (by simp [ht])];simp
 | c::w,s,r=>by
  have ih:=wyn_app hd w;simp only [wyn,ze5,List.length_nil,zpr,zh6];rw [ztd hd];cases hl:(zd9 r).2
  ·-- nothing behind may be lowered
   have e0:ze5 (fun a b=>zcl (fun t=>if (zbd d t c).2=true then wyn d a (zbd d t c).1 else 0) (hds d s)*wynO d b (zpr (c::a).length r)) w=0:=by
    have:(fun a b=>zcl (fun t=>if (zbd d t c).2=true then wyn d a (zbd d t c).1 else 0) (hds d s)*wynO d b (zpr (c::a).length r))=fun _ _=>0:=by
     funext a b;simp [zpr,hl,wynO]
    rw [this,zgg]
   rw [e0,Nat.add_zero,zdx,← znx];refine zgy fun t _=>?_
   by_cases ht:t=[]
   ·rw [if_pos ht,if_pos ht,Nat.one_mul]
   ·rw [if_neg ht,if_neg ht,zow ht,hl];simp
  ·have e0:ze5 (fun a b=>zcl (fun t=>if (zbd d t c).2=true then wyn d a (zbd d t c).1 else 0) (hds d s)*wynO d b (zpr (c::a).length r)) w
     = zcl (fun t=>if (zbd d t c).2=true then wyn d w ((zbd d t c).1++(zd9 r).1) else 0) (hds d s):=by
    have e1:(fun a b=>zcl (fun t=>if (zbd d t c).2=true then wyn d a (zbd d t c).1 else 0) (hds d s)*wynO d b (zpr (c::a).length r))
      = fun (a:List Int) b=>zcl (fun t=>(if (zbd d t c).2=true then wyn d a (zbd d t c).1 else 0)*wynO d b (zpr a.length (zd9 r).1)) (hds d s):=by
     funext a b;rw [znx];simp [zpr,hl]
    rw [e1,cutS_sum (fun t a b=>(if (zbd d t c).2=true then wyn d a (zbd d t c).1 else 0)*wynO d b (zpr a.length (zd9 r).1))];refine zgy fun t _=>?_;cases hr:(zbd d t c).2
    ·simp [zgg]
    ·simp only [if_true];rw [ih]
   rw [e0,zdx,← znx];have e2:∀(A B:List SItem→Nat) (L:List (List SItem)),zcl A L+zcl B L=zcl (fun t=>A t+B t) L:=by
    intro A B L
    induction L with
    | nil=>rfl
    | cons t L ih=>unfold zcl at *;simp only [List.map_cons,List.sum_cons];omega
   rw [e2];refine zgy fun t _=>?_
   by_cases ht:t=[]
   ·subst ht;simp [zbd]
   ·rw [if_neg ht,if_neg ht,zow ht,hl];cases hr:(zbd d t c).2
    ·simp
    ·simp
def zcj (d:List SNode) (i:Int) (w:List Int):Nat:=wyn d w [(1,i,0,0)]
theorem znt {d:List SNode} {s s':List SItem} (h:∀F,zcl F (hds d s)=zcl F (hds d s')) (w:List Int):wyn d w s=wyn d w s':=by
 cases w with
 | nil=>simp only [wyn];rw [zdx,zdx,h]
 | cons c w=>simp only [wyn];rw [h]
theorem wyn_two {d:List SNode} {s s1 s2:List SItem} (h:∀F,zcl F (hds d s)=zcl F (hds d s1)+zcl F (hds d s2)) (w:List Int):wyn d w s=wyn d w s1+wyn d w s2:=by
 cases w with
 | nil=>simp only [wyn];rw [zdx,zdx,zdx,h]
 | cons c w=>simp only [wyn];rw [h]
theorem zre (d:List SNode) (w:List Int):wyn d w []=if w=[] then 1 else 0:=by
 cases w with
 | nil=>simp [wyn,hds]
 | cons c w=>simp [wyn,hds,zcl,zbd]
theorem znd (d:List SNode) (r:Int):hds d [(1,r,0,0)]=pm d r++(List.replicate (nw d r) [[]]).flatten:=by
 have e1:pmI d (1,r,0,0)=pm d r:=rfl;have e2:nwI d (1,r,0,0)=nw d r:=rfl;simp only [hds,e1,e2,List.append_nil];rw [List.map_id']
theorem zdy (d:List SNode) (F:List SItem→Nat) (i:Int):zcl F (hds d [(1,i,0,0)])=zcl F (pm d i)+nw d i*F []:=by
 have e1:pmI d (1,i,0,0)=pm d i:=rfl;have e2:nwI d (1,i,0,0)=nw d i:=rfl;simp only [hds,e1,e2,List.append_nil];rw [List.map_id',zfe,zhd];simp [zcl]
theorem zh7 (d:List SNode) (F:List SItem→Nat) (i:Int) (r:List SItem):zcl F (hds d ((1,i,0,0)::r))=zcl (fun p=>F (p++r)) (pm d i)+nw d i*zcl F (hds d r):=by
 have e1:pmI d (1,i,0,0)=pm d i:=rfl;have e2:nwI d (1,i,0,0)=nw d i:=rfl;simp only [hds,e1,e2];rw [zfe,zhd,ze2]
theorem zla {d:List SNode} (hd:ROk d) {i:Int} {n:SNode} (hn:at? d i=some n) (h:n.1=6∨n.1=7):nw d n.2.1=0:=by
 obtain ⟨p,q⟩:=hd.one _ n hn (by omega);obtain ⟨m,hm⟩:=zea hn p q;have:=zk9 hd (n.2.1.toNat+1) _ m (by omega) hm;rw [hd.nn _ n hn h] at this;rcases Nat.eq_zero_or_pos (nw d n.2.1) with h0 | h0
 ·exact h0
 ·have:=this.1 (by omega);cases this
def NoEnd (s:List SItem):Prop:=∀x∈s,x.1≠5
theorem lowF_plain {s:List SItem} (h:NoEnd s):zd9 s=(s,true):=by
 unfold zd9;have h1:s.any zma=false:=by
  rw [List.any_eq_false];intro x hx;simp [zma,h x hx]
 rw [h1];simp only [Bool.false_eq_true,if_false,Prod.mk.injEq,and_true];have:∀x∈s,zmb x=id x:=fun x hx=>by unfold zmb;rw [if_neg (h x hx)];rfl
 rw [List.map_congr_left this,List.map_id]
theorem zfj {s:List SItem} (h:NoEnd s):∀p,zpr p s=some s
 | 0=>rfl
 | p+1=>by
  unfold zpr;rw [lowF_plain h];simp only [if_true];exact zfj h p
theorem zoa {d:List SNode} (hd:ROk d) (w:List Int) (s:List SItem) {r:List SItem} (h:NoEnd r):wyn d w (s++r)=ze5 (fun a b=>wyn d a s*wyn d b r) w:=by
 rw [wyn_app hd];exact zfl fun a b _=>by rw [zfj h,zh6]
section
variable {d : List SNode} (hd : ROk d) {i : Int} {n : SNode} (hn : at? d i = some n)
include hd hn
theorem node_empty (h:n.1=1) (w:List Int):zcj d i w=if w=[] then 1 else 0:=by
 have e:=zkw hd hn;rw [if_pos h] at e;have e1:pm d i=[]:=by unfold pm;rw [e]
 have e2:nw d i=1:=by unfold nw;rw [e]
 unfold zcj;rw [← zre d w];refine znt (fun F=>?_) w;rw [zdy,e1,e2];simp [hds,zcl]
theorem node_seq (h:n.1=4) (w:List Int):zcj d i w=ze5 (fun a b=>zcj d n.2.1 a*zcj d n.2.2.1 b) w:=by
 have e:=zkw hd hn;rw [if_neg (by omega),if_neg (by omega),if_pos h] at e;have e1:pm d i=(pm d n.2.1).map (·++[(1,n.2.2.1,0,0)])++(List.replicate (nw d n.2.1) (pm d n.2.2.1)).flatten:=by
  have:pm d i=(PM d d.length i).1:=rfl;rw [this,e]
 have e2:nw d i=nw d n.2.1*nw d n.2.2.1:=by
  have:nw d i=(PM d d.length i).2:=rfl;rw [this,e]
 unfold zcj;rw [← zoa hd w [(1,n.2.1,0,0)] (r:=[(1,n.2.2.1,0,0)]) (by intro x hx;rw [List.mem_singleton.1 hx];simp)];refine znt (fun F=>?_) w;rw [zdy,List.singleton_append,zh7,zdy,e1,e2,zfe,ze2,zhd,Nat.mul_add,Nat.mul_assoc,Nat.add_assoc]
theorem node_or (h:n.1=5) (w:List Int):zcj d i w=zcj d n.2.1 w+zcj d n.2.2.1 w:=by
 have e:=zkw hd hn;rw [if_neg (by omega),if_neg (by omega),if_neg (by omega),if_pos h] at e;have e1:pm d i=pm d n.2.1++pm d n.2.2.1:=by
  have:pm d i=(PM d d.length i).1:=rfl;rw [this,e]
 have e2:nw d i=nw d n.2.1+nw d n.2.2.1:=by
  have:nw d i=(PM d d.length i).2:=rfl;rw [this,e]
 unfold zcj;refine wyn_two (fun F=>?_) w;rw [zdy,zdy,zdy,e1,e2,zfe,Nat.add_mul];omega
theorem node_star (h:n.1=6) (w:List Int):zcj d i w=(if w=[] then 1 else 0)+ze5 (fun a b=>zcj d n.2.1 a*zcj d i b) w:=by
 have e:=zkw hd hn;rw [if_neg (by omega),if_neg (by omega),if_neg (by omega),if_neg (by omega),if_pos h] at e;have e1:pm d i=(pm d n.2.1).map (·++[(1,i,0,0)]):=by
  have:pm d i=(PM d d.length i).1:=rfl;rw [this,e]
 have e2:nw d i=1:=by
  have:nw d i=(PM d d.length i).2:=rfl;rw [this,e]
 have z:=zla hd hn (.inl h);unfold zcj;rw [← zoa hd w [(1,n.2.1,0,0)] (r:=[(1,i,0,0)]) (by intro x hx;rw [List.mem_singleton.1 hx];simp),← zre d w];refine wyn_two (fun F=>?_) w;rw [zdy,List.singleton_append,zh7,e1,e2,z,ze2];simp [hds,zcl];omega
theorem item_rep (h:n.1=7) (lo hi:Int) (w:List Int):wyn d w [(2,i,lo,hi)]=(if lo=0∧w=[] then 1 else 0)+if 0<hi then ze5 (fun a b=>zcj d n.2.1 a*wyn d b [(2,i,max (lo-1) 0,hi-1)]) w else 0:=by
 have z:=zla hd hn (.inr h);have e1:pmI d (2,i,lo,hi)=if 0<hi then (pm d n.2.1).map (·++[(2,i,max (lo-1) 0,hi-1)]) else []:=by
  unfold pmI;simp [hn]
 have e2:nwI d (2,i,lo,hi)=if lo=0 then 1 else 0:=by simp [nwI]
 have base:∀F,zcl F (hds d [(2,i,lo,hi)])=(if lo=0 then F [] else 0)+if 0<hi then zcl F (hds d ([(1,n.2.1,0,0)]++[(2,i,max (lo-1) 0,hi-1)])) else 0:=by
  intro F;simp only [List.singleton_append];rw [zh7,z];have e3:hds d [(2,i,lo,hi)]=(pmI d (2,i,lo,hi)).map (·++[])++(List.replicate (nwI d (2,i,lo,hi)) [[]]).flatten:=rfl;rw [e3,zfe,zhd,e1,e2,ze2]
  by_cases h0:lo=0
  ·by_cases h1:0<hi
   ·simp only [if_pos h0,if_pos h1,List.append_nil];rw [ze2];simp [zcl];omega
   ·simp only [if_pos h0,if_neg h1];simp [zcl]
  ·by_cases h1:0<hi
   ·simp only [if_neg h0,if_pos h1,List.append_nil];rw [ze2];simp [zcl]
   ·simp only [if_neg h0,if_neg h1];simp [zcl]
 have ap:=zoa hd w [(1,n.2.1,0,0)] (r:=[(2,i,max (lo-1) 0,hi-1)]) (by intro x hx;rw [List.mem_singleton.1 hx];simp);unfold zcj;rw [← ap];cases w with
 | nil=>
  simp only [wyn];rw [zdx,base,← zdx]
  by_cases h0:lo=0 <;> simp [h0]
 | cons c w=>
  simp only [wyn];rw [base]
  by_cases h0:lo=0 <;> simp [h0,zbd]
theorem node_rep (h:n.1=7) (w:List Int):zcj d i w=wyn d w [(2,i,n.2.2.2.1,n.2.2.2.2.1)]:=by
 have e:=zkw hd hn;rw [if_neg (by omega),if_neg (by omega),if_neg (by omega),if_neg (by omega),if_neg (by omega),if_pos h] at e;have e1:pm d i=if 0<n.2.2.2.2.1 then (pm d n.2.1).map (·++[(2,i,max (n.2.2.2.1-1) 0,n.2.2.2.2.1-1)]) else []:=by
  have:pm d i=(PM d d.length i).1:=rfl;rw [this,e]
 have e2:nw d i=if n.2.2.2.1=0 then 1 else 0:=by
  have:nw d i=(PM d d.length i).2:=rfl;rw [this,e]
 have e3:pmI d (2,i,n.2.2.2.1,n.2.2.2.2.1)=pm d i:=by rw [e1];unfold pmI;simp [hn]
 have e4:nwI d (2,i,n.2.2.2.1,n.2.2.2.2.1)=nw d i:=by rw [e2];simp [nwI]
 unfold zcj;refine znt (fun F=>?_) w;have e5:hds d [(2,i,n.2.2.2.1,n.2.2.2.2.1)]=(pmI d (2,i,n.2.2.2.1,n.2.2.2.2.1)).map (·++[])++(List.replicate (nwI d (2,i,n.2.2.2.1,n.2.2.2.2.1)) [[]]).flatten:=rfl;rw [e5,e3,e4];rfl
theorem znz (h:n.1=2∨n.1=8∨n.1=9):pm d i=[[(1,i,0,0)]]∧nw d i=0:=by
 have e:=zkw hd hn;rw [if_neg (by omega),if_neg (by omega),if_neg (by omega),if_neg (by omega),if_neg (by omega),if_neg (by omega)] at e;have h1:pm d i=(PM d d.length i).1:=rfl;have h2:nw d i=(PM d d.length i).2:=rfl;rw [h1,h2,e];exact ⟨rfl,rfl⟩
theorem zmu (h:n.1=2∨n.1=8∨n.1=9):zcj d i []=0∧∀c w,zcj d i (c::w)=if (zbd d [(1,i,0,0)] c).2=true then wyn d w (zbd d [(1,i,0,0)] c).1 else 0:=by
 obtain ⟨e1,e2⟩:=znz hd hn h;have e3:hds d [(1,i,0,0)]=[[(1,i,0,0)]]:=by rw [znd,e1,e2];rfl
 unfold zcj;refine ⟨by simp [wyn,e3],fun c w=>by simp [wyn,e3,zcl]⟩
theorem node_bytes (h:n.1=2) (w:List Int):zcj d i w=match w with | []=>0 | c::w=>if n.2.2.2.2.2.1.has c.toNat=true∧w=[] then 1 else 0:=by
 obtain ⟨k1,k2⟩:=zmu hd hn (.inl h);cases w with
 | nil=>exact k1
 | cons c w=>
  rw [k2];have e:zbd d [(1,i,0,0)] c=if n.2.2.2.2.2.1.has c.toNat=true then ([],true) else ([],false):=by
   unfold zbd;simp only [hn];rw [if_neg (by simp [zd9]),if_neg (by decide),if_neg (by decide),if_neg (by omega),if_neg (by omega)];rfl
  rw [e]
  by_cases hh:n.2.2.2.2.2.1.has c.toNat=true
  ·rw [if_pos hh];simp only [if_true];rw [zre];simp [hh]
  ·rw [if_neg hh];simp [hh]
end
end Go.Proofs.YtahgmdbioafmbaaGreatDoor.V
namespace Go.Proofs.YtahgmdbioafmbaaGreatDoor.V
open Go
set_option linter.unusedVariables false
theorem ztj {F:List Int→List Int→Nat}:∀{w:List Int},(∀a b,a++b=w→b≠[]→F a b=0)→ze5 F w=F w []
 | [],_=>rfl
 | c::w,h=>by
  unfold ze5;rw [h [] (c::w) rfl (by simp),Nat.zero_add];exact ztj fun a b e hb=>h (c::a) b (by simp [e]) hb
theorem zn2 (m:Int) (hm:0≤m):∀p:Nat,zpr p [(5,0,m,0)]=if (p:Int)≤m then some [(5,0,m-p,0)] else none:=by
 intro p
 induction p generalizing m with
 | zero=>simp [zpr,hm]
 | succ p ih=>
  unfold zpr
  by_cases h0:m≤0
  ·have e:zd9 [(5,0,m,0)]=([],false):=by simp [zd9,zma,h0]
   rw [e,if_neg (by simp),if_neg (by omega)]
  ·have e:zd9 [(5,0,m,0)]=([(5,0,m-1,0)],true):=by simp [zd9,zma,zmb,h0]
   rw [e];simp only [if_true];rw [ih (m-1) (by omega)]
   by_cases h1:((p+1:Nat):Int)≤m
   ·rw [if_pos (by omega),if_pos h1]
    congr 3
    simp;omega
   ·rw [if_neg (by omega),if_neg h1]
theorem wyn_end (d:List SNode) (m:Int) (w:List Int):wyn d w [(5,0,m,0)]=if m=0∧w=[] then 1 else 0:=by
 have e:hds d [(5,0,m,0)]=if m=0 then [[]] else []:=by
  have e1:pmI d (5,0,m,0)=[]:=by simp [pmI]
  have e2:nwI d (5,0,m,0)=if m=0 then 1 else 0:=by simp [nwI]
  have e3:hds d [(5,0,m,0)]=(pmI d (5,0,m,0)).map (·++[])++(List.replicate (nwI d (5,0,m,0)) [[]]).flatten:=rfl;rw [e3,e1,e2];split <;> rfl
 cases w with
 | nil=>simp only [wyn,e];split <;> simp_all
 | cons c w=>simp only [wyn,e];split <;> simp [zcl,zbd]
section
variable {d : List SNode} (hd : ROk d)
include hd
theorem wyn_held (i:Int) {c:Int} (hc:0≤c) (w:List Int):wyn d w [(1,i,0,0),(5,0,c,0)]=if (w.length:Int)=c then zcj d i w else 0:=by
 have e:=wyn_app hd w [(1,i,0,0)] [(5,0,c,0)];rw [List.singleton_append] at e;rw [e,ztj]
 ·rw [zn2 c hc];unfold zcj
  by_cases h:(w.length:Int)=c
  ·rw [if_pos (by omega),if_pos h,zh6,wyn_end,if_pos ⟨by omega,rfl⟩,Nat.mul_one]
  ·rw [if_neg h]
   by_cases h1:(w.length:Int)≤c
   ·rw [if_pos h1,zh6,wyn_end,if_neg (by omega)];simp
   ·rw [if_neg h1];simp [wynO]
 ·intro a b hab hb;rw [zn2 c hc];split
  ·rw [zh6,wyn_end,if_neg (by simp [hb])];simp
  ·simp [wynO]
variable {i : Int} {n : SNode} (hn : at? d i = some n)
include hn
theorem zq6 (h:n.1=8) (w:List Int) (hw:∀c∈w,0≤c):zcj d i w=match w with | []=>0 | c::w=>if (w.length:Int)=c then zcj d n.2.1 w else 0:=by
 obtain ⟨k1,k2⟩:=zmu hd hn (.inr (.inl h));cases w with
 | nil=>exact k1
 | cons c w=>
  rw [k2];have e:zbd d [(1,i,0,0)] c=([(1,n.2.1,0,0),(5,0,c,0)],true):=by
   unfold zbd;simp only [hn];rw [if_neg (by simp [zd9]),if_neg (by decide),if_neg (by decide),if_pos h];rfl
  rw [e];simp only [if_true];exact wyn_held hd n.2.1 (hw c (by simp)) w
theorem zo2 (h:n.1=9) (w:List Int) (hw:∀c∈w,0≤c):zcj d i w=match w with | []=>0 | [_]=>0 | c::b::w=>if (w.length:Int)=256*c+b then zcj d n.2.1 w else 0:=by
 obtain ⟨k1,k2⟩:=zmu hd hn (.inr (.inr h));cases w with
 | nil=>exact k1
 | cons c w=>
  rw [k2];have e:zbd d [(1,i,0,0)] c=([(4,i,c,0)],true):=by
   unfold zbd;simp only [hn];rw [if_neg (by simp [zd9]),if_neg (by decide),if_neg (by decide),if_neg (by omega),if_pos h];rfl
  rw [e];simp only [if_true];have e4:hds d [(4,i,c,0)]=[[(4,i,c,0)]]:=by
   have e1:pmI d (4,i,c,0)=[[(4,i,c,0)]]:=by simp [pmI]
   have e2:nwI d (4,i,c,0)=0:=by simp [nwI]
   have e3:hds d [(4,i,c,0)]=(pmI d (4,i,c,0)).map (·++[])++(List.replicate (nwI d (4,i,c,0)) [[]]).flatten:=rfl;rw [e3,e1,e2];rfl
  cases w with
  | nil=>simp [wyn,e4]
  | cons b w=>
   have e5:zbd d [(4,i,c,0)] b=([(1,n.2.1,0,0),(5,0,256*c+b,0)],true):=by
    unfold zbd;simp only [hn];rw [if_neg (by simp [zd9]),if_neg (by decide),if_pos trivial];rfl
   simp only [wyn,e4];have hc0:=hw c (by simp);have hb0:=hw b (by simp);have:zcl (fun t=>if (zbd d t b).2=true then wyn d w (zbd d t b).1 else 0) [[(4,i,c,0)]]=wyn d w [(1,n.2.1,0,0),(5,0,256*c+b,0)]:=by
    simp [zcl,e5]
   rw [this];exact wyn_held hd n.2.1 (by omega) w
omit hd in
theorem wyn_text (h:n.1=3):∀(w:List Int) (lo:Nat),lo<n.2.2.2.2.2.2.length→wyn d w [(3,i,(lo:Int),0)]=if w=(n.2.2.2.2.2.2.map fun b=>(b.toNat:Int)).drop lo then 1 else 0:=by
 have e3:∀lo:Int,hds d [(3,i,lo,0)]=[[(3,i,lo,0)]]:=fun lo=>by
  have e1:pmI d (3,i,lo,0)=[[(3,i,lo,0)]]:=by simp [pmI]
  have e2:nwI d (3,i,lo,0)=0:=by simp [nwI]
  have e3:hds d [(3,i,lo,0)]=(pmI d (3,i,lo,0)).map (·++[])++(List.replicate (nwI d (3,i,lo,0)) [[]]).flatten:=rfl
  rw [e3,e1,e2];rfl
 intro w
 induction w with
 | nil=>
  intro lo hlo
  rw [if_neg (by
   intro e
   have:=congrArg List.length e
   simp at this
   omega)]
  simp [wyn,e3]
 | cons c w ih=>
  intro lo hlo
  have hb:zej n.2.2.2.2.2.2 (lo:Int)=some ((n.2.2.2.2.2.2[lo]).toNat:Int):=by
   unfold zej
   rw [zbw,List.getElem?_eq_getElem hlo];rfl
  have hdr:(n.2.2.2.2.2.2.map fun b=>(b.toNat:Int)).drop lo=((n.2.2.2.2.2.2[lo]).toNat:Int)::(n.2.2.2.2.2.2.map fun b=>(b.toNat:Int)).drop (lo+1):=by
   rw [List.drop_eq_getElem_cons (by simpa using hlo)];simp
  have hr:zbd d [(3,i,(lo:Int),0)] c=if zej n.2.2.2.2.2.2 (lo:Int)=some c then (if (lo:Int)+1<(n.2.2.2.2.2.2.length:Int) then [(3,i,(lo:Int)+1,0)] else [],true) else ([],false):=by
   unfold zbd
   simp only [hn]
   rw [if_neg (by simp [zd9]),if_pos trivial]
   split
   ·split <;> rfl
   ·rfl
  simp only [wyn,e3]
  have es:zcl (fun t=>if (zbd d t c).2=true then wyn d w (zbd d t c).1 else 0) [[(3,i,(lo:Int),0)]]=if (zbd d [(3,i,(lo:Int),0)] c).2=true then wyn d w (zbd d [(3,i,(lo:Int),0)] c).1 else 0:=by simp [zcl]
  rw [es,hdr]
  by_cases hc:((n.2.2.2.2.2.2[lo]).toNat:Int)=c
  ·have hr2:zbd d [(3,i,(lo:Int),0)] c=(if (lo:Int)+1<(n.2.2.2.2.2.2.length:Int) then [(3,i,(lo:Int)+1,0)] else [],true):=by rw [hr,hb,if_pos (by rw [hc])]
   rw [hr2]
   simp only [if_true]
   by_cases hl:lo+1<n.2.2.2.2.2.2.length
   ·rw [if_pos (show (lo:Int)+1<(n.2.2.2.2.2.2.length:Int) by omega)]
    have:=ih (lo+1) hl
    have ec:((lo+1:Nat):Int)=(lo:Int)+1:=by omega
    rw [ec] at this
    rw [this,hc]
    simp
   ·rw [if_neg (show ¬ (lo:Int)+1<(n.2.2.2.2.2.2.length:Int) by omega),zre,hc]
    have:(n.2.2.2.2.2.2.map fun b=>(b.toNat:Int)).drop (lo+1)=[]:=List.drop_of_length_le (by simp;omega)
    rw [this]
    simp
  ·have hr2:zbd d [(3,i,(lo:Int),0)] c=([],false):=by rw [hr,hb,if_neg (by simpa using hc)]
   rw [hr2]
   simp only [Bool.false_eq_true,if_false]
   rw [if_neg]
   intro e
   injection e with e1 e2
   exact hc e1.symm
theorem node_text (h:n.1=3) (w:List Int):zcj d i w=if w=(n.2.2.2.2.2.2.map fun b=>(b.toNat:Int)) then 1 else 0:=by
 have hne:=hd.ntx _ n hn h;have hlo:0<n.2.2.2.2.2.2.length:=List.length_pos_iff.2 hne;have e:=zkw hd hn;rw [if_neg (by omega),if_pos h] at e;have e1:pm d i=[[(3,i,0,0)]]:=by
  have:pm d i=(PM d d.length i).1:=rfl;rw [this,e]
 have e2:nw d i=0:=by
  have:nw d i=(PM d d.length i).2:=rfl;rw [this,e]
 have:=wyn_text hn h w 0 hlo;rw [List.drop_zero] at this;rw [← this];unfold zcj;refine znt (fun F=>?_) w;rw [zdy,e1,e2];have e3:pmI d (3,i,((0:Nat):Int),0)=[[(3,i,0,0)]]:=by simp [pmI]
 have e4:nwI d (3,i,((0:Nat):Int),0)=0:=by simp [nwI]
 have e5:hds d [(3,i,((0:Nat):Int),0)]=(pmI d (3,i,((0:Nat):Int),0)).map (·++[])++(List.replicate (nwI d (3,i,((0:Nat):Int),0)) [[]]).flatten:=rfl;rw [e5,e3,e4];simp [zcl]
end
end Go.Proofs.YtahgmdbioafmbaaGreatDoor.V
namespace Go.Proofs.YtahgmdbioafmbaaGreatDoor.V
open Go
set_option linter.unusedVariables false
def zdw (N:Nat) (g:Nat→Int):List Int:=(List.range (N+1)).map g
theorem zis (N:Nat) (g:Nat→Int):(zdw N g).length=N+1:=by simp [zdw]
theorem zht {N:Nat} {g:Nat→Int} {q:Nat} (h:q≤N):at? (zdw N g) (q:Int)=some (g q):=by
 rw [zbw];unfold zdw;rw [List.getElem?_map,List.getElem?_range (by omega)];rfl
theorem zhj (N:Nat) (g:Nat→Int) (q:Nat) (v:Int):(zdw N g).set q v=zdw N (fun k=>if k=q then v else g k):=by
 apply List.ext_getElem
 ·simp [zdw]
 ·intro i h1 h2;rw [List.getElem_set];simp only [zdw,List.getElem_map,List.getElem_range]
  by_cases h:q=i
  ·subst h;simp
  ·rw [if_neg h,if_neg (fun e=>h e.symm)]
theorem zbo {N:Nat} {g h:Nat→Int} (e:∀q,q≤N→g q=h q):zdw N g=zdw N h:=by
 unfold zdw;refine List.map_congr_left fun q hq=>e q ?_;have:=List.mem_range.1 hq;omega
theorem zn9 {w:List Int} (hw:w.length≤1000):zfi w (zdw w.length fun _=>0):=by
 refine ⟨zh (by omega) (by omega),⟨by omega,by omega⟩, ?_⟩;have e:((w.length:Int)+1).toNat=w.length+1:=by omega
 rw [e];apply List.ext_getElem
 ·simp [zdw]
 ·intro i h1 h2;simp [zdw]
theorem zss {N:Nat} (hN:N≤1000) {g h:Nat→Int} {t:Int} (hg:∀q,0≤g q∧g q≤2) (hh:∀q,0≤h q∧h q≤2) (ht:0≤t∧t≤2):zcg (zdw N g) (zdw N h) t (zdw N fun q=>min 2 (g q+t*h q)):=by
 refine ⟨by rw [zis];simp;omega, ?_⟩;refine zf2 (P:=fun k (o:List Int) v=>zcg.l1 (zdw N h) t _ k o v) (N+1) (fun i o=>o=zdw N fun q=>if q<i then min 2 (g q+t*h q) else g q) ?_ ?_ _ (by simp)
 ·rintro i o hi rfl;have e1:at? (zdw N fun q=>if q<i then min 2 (g q+t*h q) else g q) (i:Int)=some (g i):=by
   rw [zht (by omega),if_neg (by omega)]
  have e2:at? (zdw N h) (i:Int)=some (h i):=zht (by omega);have hp:0≤t*h i∧t*h i≤4:=by
   have h1:=hh i;have:t=0∨t=1∨t=2:=by omega
   rcases this with rfl | rfl | rfl <;> omega
  have hgi:=hg i;refine .inr ⟨_,rfl,fun k hk=>⟨fun _=>⟨_,e1,_,e2,zh (by omega) (by omega),zh (by omega) (by omega),_,e1,zh (by omega) (by omega), ?_⟩,fun hx=>absurd (by rw [zis];omega) (df hx)⟩⟩;rw [Int.toNat_natCast,zhj];have:(zdw N fun k=>if k=i then min 2 (g i+t*h i) else if k<i then min 2 (g k+t*h k) else g k)=zdw N fun q=>if q<i+1 then min 2 (g q+t*h q) else g q:=zbo fun q _=>by
   by_cases h1:q=i
   ·subst h1;simp
   ·rw [if_neg h1]
    by_cases h2:q<i
    ·rw [if_pos h2,if_pos (by omega)]
    ·rw [if_neg h2,if_neg (by omega)]
  rw [this];exact hk
 ·rintro o rfl k;refine ⟨fun hx=>absurd (dt hx) (by rw [zis];omega),fun _=>?_⟩;show zdw N _=zdw N _;exact zbo fun q hq=>by rw [if_pos (by omega)]
theorem zhs (n:Nat):0≤sat n∧sat n≤2:=by unfold sat;omega
theorem sat_more (x a b:Nat):min 2 (sat x+sat a*sat b)=sat (x+a*b):=by
 have h:=min_mul a b;have e:(sat a*sat b:Int)=((min 2 a*min 2 b:Nat):Int):=by unfold sat;rw [Int.natCast_mul]
 rw [e];generalize min 2 a*min 2 b=P at *;generalize a*b=Q at *;unfold sat;omega
theorem sat_plus (x b:Nat):min 2 (sat x+1*sat b)=sat (x+b):=by unfold sat;omega
def ze9 (K:Nat) (f:Nat→Nat):Nat:=((List.range K).map f).sum
theorem zdn (K:Nat) (f:Nat→Nat):ze9 (K+1) f=ze9 K f+f K:=by
 unfold ze9;rw [List.range_succ,List.map_append,List.sum_append];simp
theorem zjf (K:Nat):ze9 K (fun _=>0)=0:=by
 induction K with
 | zero=>rfl
 | succ K ih=>rw [zdn,ih]
theorem ze1 {K:Nat} {f g:Nat→Nat} (h:∀k,k<K→f k=g k):ze9 K f=ze9 K g:=by
 unfold ze9;rw [List.map_congr_left fun k hk=>h k (List.mem_range.1 hk)]
theorem sumK_pick {K m:Nat} (hm:m<K) {f g:Nat→Nat} (h1:∀k,k≠m→f k=g k) (h2:g m=0):ze9 K f=f m+ze9 K g:=by
 induction K with
 | zero=>omega
 | succ K ih=>
  rw [zdn,zdn]
  by_cases h:m=K
  ·subst h;rw [h2,ze1 fun k hk=>h1 k (by omega)];omega
  ·rw [ih (by omega),h1 K (fun e=>h e.symm)];omega
def seg (w:List Int) (p q:Nat):List Int:=(w.take q).drop p
theorem zhi (w:List Int) (p:Nat):seg w p p=[]:=by
 unfold seg;exact List.drop_of_length_le (by rw [List.length_take];omega)
theorem zff {w:List Int} {p q:Nat} (h:p<q) (hq:q≤w.length):seg w p q=w[p]'(by omega)::seg w (p+1) q:=by
 unfold seg;rw [List.drop_eq_getElem_cons (by rw [List.length_take];omega)];simp
theorem cutS_seg {w:List Int}:∀(m p q:Nat) (F:List Int→List Int→Nat),q=p+m→q≤w.length→ze5 F (seg w p q)=ze9 (w.length+1) fun k=>if p≤k∧k≤q then F (seg w p k) (seg w k q) else 0:=by
 intro m
 induction m with
 | zero=>
  intro p q F h hq;have:q=p:=by omega
  subst this;rw [sumK_pick (m:=q) (by omega) (g:=fun _=>0) (fun k hk=>if_neg (by omega)) rfl,zjf,if_pos ⟨Nat.le_refl _,Nat.le_refl _⟩,zhi];rfl
 | succ m ih=>
  intro p q F h hq;have hp:p<w.length:=by omega
  have pick:=sumK_pick (K:=w.length+1) (m:=p) (by omega) (f:=fun k=>if p≤k∧k≤q then F (seg w p k) (seg w k q) else 0) (g:=fun k=>if p+1≤k∧k≤q then F (seg w p k) (seg w k q) else 0) (fun k hk=>by
   by_cases h1:p≤k∧k≤q
   ·rw [if_pos h1,if_pos (by omega)]
   ·rw [if_neg h1,if_neg (by omega)]) (if_neg (by omega))
  rw [pick];rw [if_pos (by omega),zhi,zff (show p<q by omega) hq];simp only [ze5];rw [ih (p+1) q _ (by omega) hq]
  congr 1
  refine ze1 fun k hk=>?_
  by_cases h1:p+1≤k∧k≤q
  ·rw [if_pos h1,if_pos h1,zff (show p<k by omega) (by omega)]
  ·rw [if_neg h1,if_neg h1]
theorem through_in {n_:SDesc→Int→List Int→Int→List Int→Prop} {d:SDesc} {i:Int} {w:List Int} (hw:w.length≤1000) {A:Nat→Nat} {B:Nat→Nat→Nat} (hB:∀k,k≤w.length→A k≠0→n_ d i w (k:Int) (zdw w.length fun q=>sat (B k q))):
  ref12_through.b n_ d i w (zdw w.length fun k=>sat (A k)) (zdw w.length fun q=>sat (ze9 (w.length+1) fun k=>A k*B k q)):=by
 refine ⟨_,zn9 hw, ?_⟩;refine zf2 (P:=fun k (o:List Int) v=>ref12_through.l1 n_ d i w (zdw w.length fun k=>sat (A k)) _ k o v) (w.length+1) (fun K o=>o=zdw w.length fun q=>sat (ze9 K fun k=>A k*B k q)) ?_ ?_ _ ?_
 ·rintro K o hK rfl;have e1:at? (zdw w.length fun k=>sat (A k)) (K:Int)=some (sat (A K)):=zht (by omega);refine .inr ⟨_,rfl,fun k hk=>⟨fun _=>⟨_,e1,fun h0=>?_,fun h0=>⟨zh (by omega) (by omega), ?_⟩⟩,fun hx=>absurd (by rw [zis];omega) (df hx)⟩⟩
  ·have h0:A K≠0:=by have:=dt h0;unfold sat at this;omega
   refine ⟨_,hB K (by omega) h0,_,e1,_,zss hw (fun q=>zhs _) (fun q=>zhs _) (zhs _),zh (by omega) (by omega), ?_⟩;have:(zdw w.length fun q=>min 2 (sat (ze9 K fun k=>A k*B k q)+sat (A K)*sat (B K q)))=zdw w.length fun q=>sat (ze9 (K+1) fun k=>A k*B k q):=zbo fun q _=>by rw [sat_more,zdn]
   rw [this];exact hk
  ·have h0:A K=0:=by have:=df h0;unfold sat at this;omega
   have:(zdw w.length fun q=>sat (ze9 K fun k=>A k*B k q))=zdw w.length fun q=>sat (ze9 (K+1) fun k=>A k*B k q):=zbo fun q _=>by rw [zdn,h0];simp
   rw [this];exact hk
 ·rintro o rfl k;exact ⟨fun hx=>absurd (dt hx) (by rw [zis];omega),fun _=>rfl⟩
 ·rfl
def zjo (f:List Int→Nat):Nat→List Int→Nat
 | 0,u=>if u=[] then 1 else 0
 | t+1,u=>ze5 (fun a b=>zjo f t a*f b) u
theorem zjn (f:List Int→Nat) (t:Nat) (u:List Int):zjo f (t+1) u=ze5 (fun a b=>zjo f t a*f b) u:=rfl
def zkj (f:List Int→Nat) (w:List Int) (p t q:Nat):Nat:=if p≤q then zjo f t (seg w p q) else 0
def zk3 (f:List Int→Nat) (w:List Int) (k q:Nat):Nat:=if k≤q then f (seg w k q) else 0
theorem powQ_succ {f:List Int→Nat} {w:List Int} {p t q:Nat} (hq:q≤w.length):zkj f w p (t+1) q=ze9 (w.length+1) fun k=>zkj f w p t k*zk3 f w k q:=by
 unfold zkj zk3
 by_cases h:p≤q
 ·rw [if_pos h,zjn,cutS_seg (q-p) p q _ (by omega) hq];refine ze1 fun k hk=>?_
  by_cases h1:p≤k
  ·by_cases h2:k≤q
   ·rw [if_pos ⟨h1,h2⟩,if_pos h1,if_pos h2]
   ·rw [if_neg (by omega),if_neg h2];simp
  ·rw [if_neg (by omega),if_neg h1];simp
 ·rw [if_neg h];have:(fun k=>(if p≤k then zjo f t (seg w p k) else 0)*if k≤q then f (seg w k q) else 0)=fun _=>0:=by
   funext k
   by_cases h1:p≤k
   ·rw [if_neg (show ¬ k≤q by omega)];simp
   ·rw [if_neg h1];simp
  rw [this,zjf]
theorem times_l2 {n_:SDesc→Int→List Int→Int→List Int→Prop} {d:SDesc} {i:Int} {w:List Int} (hw:w.length≤1000) {A:Nat→Nat} {B:Nat→Nat→Nat} (hB:∀k,k≤w.length→A k≠0→n_ d i w (k:Int) (zdw w.length fun q=>sat (B k q))) (hz:∀k,B k k=0) {X:List Int→Prop}
  (hX:X (zdw w.length fun q=>sat (ze9 (w.length+1) fun k=>A k*B k q))):∃k,ref12_times.l2 n_ d i w (zdw w.length fun k=>sat (A k)) X k (zdw w.length fun _=>0) 0:=by
 refine zf2 (P:=fun k (o:List Int) v=>ref12_times.l2 n_ d i w (zdw w.length fun k=>sat (A k)) X k o v) (w.length+1) (fun K o=>o=zdw w.length fun q=>sat (ze9 K fun k=>A k*B k q)) ?_ ?_ _ rfl
 ·rintro K o hK rfl;have e1:at? (zdw w.length fun k=>sat (A k)) (K:Int)=some (sat (A K)):=zht (by omega);refine .inr ⟨_,rfl,fun k hk=>⟨fun _=>⟨_,e1,fun h0=>?_,fun h0=>⟨zh (by omega) (by omega), ?_⟩⟩,fun hx=>absurd (by rw [zis];omega) (df hx)⟩⟩
  ·have h0:A K≠0:=by have:=dt h0;unfold sat at this;omega
   have es:(zdw w.length fun q=>sat (B K q)).set (K:Int).toNat 0=zdw w.length fun q=>sat (B K q):=by
    rw [Int.toNat_natCast,zhj];refine zbo fun q _=>?_
    by_cases hq:q=K
    ·subst hq;rw [if_pos rfl,hz];rfl
    ·rw [if_neg hq]
   refine ⟨_,hB K (by omega) h0,_,zht (by omega),_,e1,_,by rw [es];exact zss hw (fun q=>zhs _) (fun q=>zhs _) (zhs _),zh (by omega) (by omega), ?_⟩;have:(zdw w.length fun q=>min 2 (sat (ze9 K fun k=>A k*B k q)+sat (A K)*sat (B K q)))=zdw w.length fun q=>sat (ze9 (K+1) fun k=>A k*B k q):=zbo fun q _=>by rw [sat_more,zdn]
   rw [this];exact hk
  ·have h0:A K=0:=by have:=df h0;unfold sat at this;omega
   have:(zdw w.length fun q=>sat (ze9 K fun k=>A k*B k q))=zdw w.length fun q=>sat (ze9 (K+1) fun k=>A k*B k q):=zbo fun q _=>by rw [zdn,h0];simp
   rw [this];exact hk
 ·rintro o rfl k;exact ⟨fun hx=>absurd (dt hx) (by rw [zis];omega),fun _=>hX⟩
def zf6 (w:List Int) (hi:Int):Nat:=if 0≤hi∧hi≤(w.length:Int)+1 then hi.toNat+1 else w.length+2
theorem times_in {n_:SDesc→Int→List Int→Int→List Int→Prop} {d:SDesc} {i:Int} {w:List Int} (hw:w.length≤1000) {p:Nat} (hp:p≤w.length) {f:List Int→Nat} (hf:f []=0) (lo hi:Int)
  (hB:∀k,p≤k→k≤w.length→n_ d i w (k:Int) (zdw w.length fun q=>sat (zk3 f w k q))):
  ref12_times.b n_ d i w (p:Int) lo hi (zdw w.length fun q=>sat (ze9 (zf6 w hi) fun t=>if lo≤(t:Int) then zkj f w p t q else 0)):=by
 refine ⟨_,zn9 hw,_,zht hp,_,zn9 hw, ?_⟩;refine zf2 (P:=fun k (s:List Int × List Int) v=>ref12_times.l1 n_ d i w lo hi _ _ k s.1 s.2 v) (w.length+2) (fun T s=>(s.1=zdw w.length fun q=>sat (zkj f w p T q))∧(s.2=zdw w.length fun q=>sat (ze9 T fun t=>if lo≤(t:Int) then zkj f w p t q else 0))∧(0≤hi→(T:Int)≤hi)) ?_ ?_ (_,_) ⟨?_,rfl,fun h=>by omega⟩
 ·rintro T ⟨now,out⟩ hT ⟨h1,h2,h3⟩;simp only at h1 h2;subst h1;subst h2;have es:∀q,ze9 (T+1) (fun t=>if lo≤(t:Int) then zkj f w p t q else 0)=ze9 T (fun t=>if lo≤(t:Int) then zkj f w p t q else 0)+if lo≤(T:Int) then zkj f w p T q else 0:=fun q=>zdn _ _
  have hplus:lo≤(T:Int)→zcg (zdw w.length fun q=>sat (ze9 T fun t=>if lo≤(t:Int) then zkj f w p t q else 0)) (zdw w.length fun q=>sat (zkj f w p T q)) 1 (zdw w.length fun q=>sat (ze9 (T+1) fun t=>if lo≤(t:Int) then zkj f w p t q else 0)):=fun hl=>by
   have:=zss hw (g:=fun q=>sat (ze9 T fun t=>if lo≤(t:Int) then zkj f w p t q else 0)) (h:=fun q=>sat (zkj f w p T q)) (t:=1) (fun q=>zhs _) (fun q=>zhs _) (by omega);have e:(zdw w.length fun q=>min 2 (sat (ze9 T fun t=>if lo≤(t:Int) then zkj f w p t q else 0)+1*sat (zkj f w p T q)))=zdw w.length fun q=>sat (ze9 (T+1) fun t=>if lo≤(t:Int) then zkj f w p t q else 0):=zbo fun q _=>by rw [sat_plus,es,if_pos hl]
   rw [e] at this;exact this
  have hsame:¬ lo≤(T:Int)→(zdw w.length fun q=>sat (ze9 T fun t=>if lo≤(t:Int) then zkj f w p t q else 0))=zdw w.length fun q=>sat (ze9 (T+1) fun t=>if lo≤(t:Int) then zkj f w p t q else 0):=fun hl=>zbo fun q _=>by rw [es,if_neg hl,Nat.add_zero]
  by_cases hhi:(T:Int)=hi
  ·-- the last one
   have eT:zf6 w hi=T+1:=by unfold zf6;rw [if_pos (by omega)];omega
   refine .inl fun k=>⟨zh (by omega) (by omega),fun _=>⟨fun hl=>⟨_,hplus (dt hl),fun _=>?_,fun h=>absurd hhi (ne_of_beq_false h)⟩,fun hl=>⟨fun _=>?_,fun h=>absurd hhi (ne_of_beq_false h)⟩⟩,fun hx=>absurd (by omega) (df hx)⟩
   ·show zdw _ _=zdw _ _;rw [eT]
   ·show zdw _ _=zdw _ _;rw [eT,hsame (df hl)]
  ·have e2:(zdw w.length fun q=>sat (ze9 (w.length+1) fun k=>zkj f w p T k*zk3 f w k q))=zdw w.length fun q=>sat (zkj f w p (T+1) q):=zbo fun q hq=>by rw [powQ_succ hq]
   have inner:∀(out':List Int) (k:Nat),(ref12_times.l1 n_ d i w lo hi (zdw w.length fun q=>sat (ze9 (zf6 w hi) fun t=>if lo≤(t:Int) then zkj f w p t q else 0)) (ref12_times.j1 (zdw w.length fun q=>sat (ze9 (zf6 w hi) fun t=>if lo≤(t:Int) then zkj f w p t q else 0))) k (zdw w.length fun q=>sat (zkj f w p (T+1) q)) out' ((T:Int)+1)) →
     ref12_times.j3 n_ (ref12_times.l1 n_ d i w lo hi (zdw w.length fun q=>sat (ze9 (zf6 w hi) fun t=>if lo≤(t:Int) then zkj f w p t q else 0)) (ref12_times.j1 (zdw w.length fun q=>sat (ze9 (zf6 w hi) fun t=>if lo≤(t:Int) then zkj f w p t q else 0))) k) d i w hi (zdw w.length fun q=>sat (ze9 (zf6 w hi) fun t=>if lo≤(t:Int) then zkj f w p t q else 0)) (zdw w.length fun q=>sat (zkj f w p T q)) (T:Int) out':=by
    intro out' k hk;refine ⟨fun h=>absurd (eq_of_beq h) hhi,fun _=>⟨_,zn9 hw, ?_⟩⟩;refine times_l2 hw (A:=fun k=>zkj f w p T k) (B:=zk3 f w) (fun k hk hA=>hB k (by
     rcases Nat.lt_or_ge k p with h | h
     ·exact absurd (if_neg (by omega)) hA
     ·exact h) hk) (fun k=>by unfold zk3;rw [if_pos (Nat.le_refl k),zhi,hf]) ?_
    rw [e2];exact ⟨zh (by omega) (by omega),hk⟩
   refine .inr ⟨(_,_),⟨rfl,rfl,fun h=>by have:=h3 h;omega⟩,fun k hk=>⟨zh (by omega) (by omega),fun _=>⟨fun hl=>⟨_,hplus (dt hl),inner _ k hk⟩,fun hl=>by rw [hsame (df hl)];exact inner _ k hk⟩,fun hx=>absurd (by omega) (df hx)⟩⟩
 ·rintro ⟨now,out⟩ ⟨h1,h2,h3⟩ k;simp only at h1 h2;subst h1;subst h2;refine ⟨zh (by omega) (by omega),fun hx=>absurd (dt hx) (by omega),fun _=>?_⟩;show zdw _ _=zdw _ _;have eT:zf6 w hi=w.length+2:=by unfold zf6;rw [if_neg (by omega)]
  rw [eT]
 ·simp only;rw [Int.toNat_natCast,zhj];refine zbo fun q hq=>?_;unfold zkj zjo
  by_cases h:q=p
  ·subst h;rw [if_pos rfl,if_pos (Nat.le_refl q),zhi];rfl
  ·rw [if_neg h]
   by_cases h1:p≤q
   ·rw [if_pos h1,if_neg]
    ·rfl
    ·rw [zff (by omega) hq];simp
   ·rw [if_neg h1];rfl
theorem zra:∀(u:List Int) (g:List Int→List Int→List Int→Nat),ze5 (fun a c=>ze5 (fun x y=>g x y c) a) u=ze5 (fun x e=>ze5 (fun y c=>g x y c) e) u
 | [],g=>rfl
 | c::u,g=>by
  have ih:=zra u (fun x y e=>g (c::x) y e);have e1:(fun a b=>ze5 (fun x y=>g x y b) (c::a))=fun a b=>g [] (c::a) b+ze5 (fun x y=>g (c::x) y b) a:=by
   funext a b;rfl
  have h1:ze5 (fun a b=>ze5 (fun x y=>g x y b) (c::a)) u=ze5 (fun y e=>g [] (c::y) e) u+ze5 (fun x e=>ze5 (fun y b=>g (c::x) y b) e) u:=by rw [e1,zn5,ih]
  have h2:ze5 (fun a c=>ze5 (fun x y=>g x y c) a) (c::u)=g [] [] (c::u)+ze5 (fun a b=>ze5 (fun x y=>g x y b) (c::a)) u:=rfl;have h3:ze5 (fun x e=>ze5 (fun y c=>g x y c) e) (c::u)=(g [] [] (c::u)+ze5 (fun y e=>g [] (c::y) e) u)+ze5 (fun x e=>ze5 (fun y b=>g (c::x) y b) e) u:=rfl;exact h2.trans ((congrArg _ h1).trans ((Nat.add_assoc _ _ _).symm.trans h3.symm))
theorem cutS_mul (F:List Int→List Int→Nat) (m:Nat):∀u,ze5 (fun a b=>F a b*m) u=ze5 F u*m
 | []=>rfl
 | c::u=>by
  unfold ze5;rw [cutS_mul (fun a b=>F (c::a) b) m u,Nat.add_mul]
theorem cutS_lmul (F:List Int→List Int→Nat) (m:Nat):∀u,ze5 (fun a b=>m*F a b) u=m*ze5 F u
 | []=>rfl
 | c::u=>by
  unfold ze5;rw [cutS_lmul (fun a b=>F (c::a) b) m u,Nat.mul_add]
theorem zpi (F:Nat→List Int→List Int→Nat) (u:List Int):∀T,ze5 (fun a b=>ze9 T fun t=>F t a b) u=ze9 T fun t=>ze5 (F t) u
 | 0=>by simp only [ze9,List.range_zero,List.map_nil,List.sum_nil];exact zgg u
 | T+1=>by
  have e:(fun a b=>ze9 (T+1) fun t=>F t a b)=fun a b=>(ze9 T fun t=>F t a b)+F T a b:=by funext a b;rw [zdn]
  rw [e,zn5,zpi F u T,zdn]
theorem zlh (m:Nat) (f:Nat→Nat):∀T,m*ze9 T f=ze9 T fun t=>m*f t
 | 0=>by simp [ze9]
 | T+1=>by rw [zdn,zdn,Nat.mul_add,zlh m f T]
theorem zqv (T:Nat) (f:Nat→Nat):ze9 (T+1) f=f 0+ze9 T fun t=>f (t+1):=by
 induction T with
 | zero=>simp [ze9]
 | succ T ih=>rw [zdn,ih,zdn];omega
theorem cut_first (F:List Int→List Int→Nat):∀u,(∀a b,a++b=u→a≠[]→F a b=0)→ze5 F u=F [] u
 | [],_=>rfl
 | c::u,h=>by
  unfold ze5;rw [zfl (G:=fun _ _=>0) fun a b e=>h (c::a) b (by simp [e]) (by simp),zgg];rfl
section
variable {f : List Int → Nat}
theorem zsr:∀(t:Nat) (u:List Int),zjo f (t+1) u=ze5 (fun a b=>f a*zjo f t b) u
 | 0,u=>by
  rw [zjn];have e1:ze5 (fun a b=>zjo f 0 a*f b) u=f u:=by
   rw [cut_first _ u fun a b _ ha=>by simp [zjo,ha]];simp [zjo]
  have e2:ze5 (fun a b=>f a*zjo f 0 b) u=f u:=by
   rw [ztj fun a b _ hb=>by simp [zjo,hb]];simp [zjo]
  rw [e1,e2]
 | t+1,u=>by
  rw [zjn];have e1:(fun a b=>zjo f (t+1) a*f b)=fun a c=>ze5 (fun x y=>f x*zjo f t y*f c) a:=by
   funext a c;rw [zsr t a,cutS_mul]
  have e2:(fun x e=>ze5 (fun y c=>f x*zjo f t y*f c) e)=fun x e=>f x*zjo f (t+1) e:=by
   funext x e;rw [zjn,← cutS_lmul]
   congr 1
   funext y c;rw [Nat.mul_assoc]
  rw [e1,zra,e2]
theorem pow_none (hf:f []=0):∀(t:Nat) (u:List Int),u.length<t→zjo f t u=0
 | 0,u,h=>by omega
 | t+1,u,h=>by
  rw [zjn];rw [zfl (G:=fun _ _=>0) fun a b e=>?_,zgg]
  by_cases hb:b=[]
  ·rw [hb,hf,Nat.mul_zero]
  ·have hl:a.length<t:=by
    have:=congrArg List.length e;have:=List.length_pos_iff.2 hb;simp at *;omega
   rw [pow_none hf t a hl,Nat.zero_mul]
theorem pow_more (hf:f []=0) {T T':Nat} {u:List Int} (h:u.length<T) (h':T≤T') (c:Nat→Bool):(ze9 T' fun t=>if c t=true then zjo f t u else 0)=ze9 T fun t=>if c t=true then zjo f t u else 0:=by
 obtain ⟨m,rfl⟩:∃m,T'=T+m:=⟨T' - T,by omega⟩;clear h'
 induction m with
 | zero=>rfl
 | succ m ih=>
  rw [← Nat.add_assoc,zdn,ih,pow_none hf (T+m) u (by omega)];simp
theorem star_pow (hf:f []=0) {g:List Int→Nat} (hg:∀u,g u=(if u=[] then 1 else 0)+ze5 (fun a b=>f a*g b) u):∀(m:Nat) (u:List Int),u.length≤m→∀T,u.length<T→g u=ze9 T fun t=>zjo f t u
 | m,u,hm,T,hT=>by
  obtain ⟨T',rfl⟩:∃T',T=T'+1:=⟨T-1,by omega⟩;rw [hg,zqv]
  congr 1
  have e:ze5 (fun a b=>f a*g b) u=ze5 (fun a b=>ze9 T' fun t=>f a*zjo f t b) u:=by
   refine zfl fun a b e=>?_
   by_cases ha:a=[]
   ·rw [ha,hf,Nat.zero_mul,← zlh,Nat.zero_mul]
   ·have hl:b.length<u.length:=by
     have:=congrArg List.length e;have:=List.length_pos_iff.2 ha;simp at *;omega
    cases m with
    | zero=>omega
    | succ m=>rw [star_pow hf hg m b (by omega) T' (by omega),zlh]
  rw [e,zpi (fun t a b=>f a*zjo f t b)];exact ze1 fun t _=>(zsr t u).symm
theorem rep_pow {R:Int→Int→List Int→Nat} (hR:∀lo hi u,R lo hi u=(if lo=0∧u=[] then 1 else 0)+if 0<hi then ze5 (fun a b=>f a*R (max (lo-1) 0) (hi-1) b) u else 0):∀(h:Nat) (lo:Int) (u:List Int),0≤lo→lo≤(h:Int)→R lo (h:Int) u=ze9 (h+1) fun t=>if lo≤(t:Int) then zjo f t u else 0
 | 0,lo,u,h0,h1=>by
  have:lo=0:=by omega
  subst this;rw [hR,if_neg (show ¬ 0<((0:Nat):Int) by omega)];simp [ze9,zjo]
 | h+1,lo,u,h0,h1=>by
  rw [hR,if_pos (show 0<((h+1:Nat):Int) by omega),zqv];have e0:((h+1:Nat):Int)-1=(h:Int):=by omega
  rw [e0]
  congr 1
  ·by_cases hl:lo=0
   ·subst hl;simp [zjo]
   ·rw [if_neg (by omega),if_neg (by omega)]
  ·have e:ze5 (fun a b=>f a*R (max (lo-1) 0) (h:Int) b) u=ze5 (fun a b=>ze9 (h+1) fun t=>f a*if max (lo-1) 0≤(t:Int) then zjo f t b else 0) u:=by
    refine zfl fun a b _=>?_;rw [rep_pow hR h (max (lo-1) 0) b (by omega) (by omega),zlh]
   rw [e,zpi (fun t a b=>f a*if max (lo-1) 0≤(t:Int) then zjo f t b else 0)];refine ze1 fun t _=>?_
   by_cases hl:lo≤((t+1:Nat):Int)
   ·rw [if_pos hl,zsr];refine zfl fun a b _=>?_;rw [if_pos (by omega)]
   ·rw [if_neg hl,zfl (G:=fun _ _=>0) fun a b _=>by rw [if_neg (by omega),Nat.mul_zero],zgg]
end
end Go.Proofs.YtahgmdbioafmbaaGreatDoor.V
namespace Go.Proofs.YtahgmdbioafmbaaGreatDoor.V
open Go
set_option linter.unusedVariables false
theorem zmq {w:List Int} {p q:Nat} (h:p≤q) (hq:q≤w.length):(seg w p q).length=q-p:=by
 unfold seg;rw [List.length_drop,List.length_take];omega
theorem zmp {w:List Int} {p q:Nat} (h:p≤q) (hq:q≤w.length):seg w p q=[]↔q=p:=by
 constructor
 ·intro e;have:=zmq h hq;rw [e] at this;simp at this;omega
 ·rintro rfl;exact zhi w q
theorem pm_cnt {d:List SNode} (hd:ROk d) (r:Int):(pm d r).count []=0:=by
 rw [List.count_eq_zero];intro h;obtain ⟨x,q,e,_⟩:=PM_rng hd (r.toNat+1) r (by omega) _ h;cases e
def rowN (d:List SNode) (i:Int) (w:List Int) (p:Nat):List Int:=zdw w.length fun q=>sat (zk3 (zcj d i) w p q)
theorem conv_row {f g:List Int→Nat} {w:List Int} {p q:Nat} (hq:q≤w.length):(if p≤q then ze5 (fun a b=>f a*g b) (seg w p q) else 0)=ze9 (w.length+1) fun k=>zk3 f w p k*zk3 g w k q:=by
 unfold zk3
 by_cases h:p≤q
 ·rw [if_pos h,cutS_seg (q-p) p q _ (by omega) hq];refine ze1 fun k hk=>?_
  by_cases h1:p≤k
  ·by_cases h2:k≤q
   ·rw [if_pos ⟨h1,h2⟩,if_pos h1,if_pos h2]
   ·rw [if_neg (by omega),if_neg h2];simp
  ·rw [if_neg (by omega),if_neg h1];simp
 ·rw [if_neg h];have:(fun k=>(if p≤k then f (seg w p k) else 0)*if k≤q then g (seg w k q) else 0)=fun _=>0:=by
   funext k
   by_cases h1:p≤k
   ·rw [if_neg (show ¬ k≤q by omega)];simp
   ·rw [if_neg h1];simp
  rw [this,zjf]
section
variable {d : List SNode} (hd : ROk d) {i : Int} {n : SNode} (hn : at? d i = some n) {w : List Int} {p : Nat}
include hd hn
theorem row_empty (h:n.1=1):rowN d i w p=(zdw w.length fun _=>0).set p 1:=by
 rw [zhj];refine zbo fun q hq=>?_;unfold zk3
 by_cases h1:p≤q
 ·rw [if_pos h1,node_empty hd hn h]
  by_cases h2:q=p
  ·rw [if_pos ((zmp h1 hq).2 h2),if_pos h2];rfl
  ·rw [if_neg (fun e=>h2 ((zmp h1 hq).1 e)),if_neg h2];rfl
 ·rw [if_neg h1,if_neg (by omega)];rfl
theorem row_bytes (h:n.1=2):rowN d i w p=if hlt:p<w.length then (if n.2.2.2.2.2.1.has (w[p]).toNat=true then (zdw w.length fun _=>0).set (p+1) 1 else zdw w.length fun _=>0) else zdw w.length fun _=>0:=by
 have key:∀q,q≤w.length→zk3 (zcj d i) w p q=if hlt:p<w.length then (if n.2.2.2.2.2.1.has (w[p]).toNat=true∧q=p+1 then 1 else 0) else 0:=by
  intro q hq;unfold zk3
  by_cases h1:p≤q
  ·rw [if_pos h1,node_bytes hd hn h]
   by_cases h2:q=p
   ·subst h2;rw [zhi];simp only;split
    ·rw [if_neg (by omega)]
    ·rfl
   ·have hlt:p<w.length:=by omega
    rw [dif_pos hlt,zff (by omega) hq];simp only
    by_cases h3:q=p+1
    ·have:seg w (p+1) q=[]:=(zmp (by omega) hq).2 h3;rw [this];simp [h3]
    ·have:¬ seg w (p+1) q=[]:=fun e=>h3 ((zmp (by omega) hq).1 e);simp [this,h3]
  ·rw [if_neg h1];split
   ·rw [if_neg (by omega)]
   ·rfl
 by_cases hlt:p<w.length
 ·rw [dif_pos hlt]
  by_cases hh:n.2.2.2.2.2.1.has (w[p]).toNat=true
  ·rw [if_pos hh,zhj];refine zbo fun q hq=>?_;rw [key q hq,dif_pos hlt]
   by_cases h3:q=p+1
   ·rw [if_pos ⟨hh,h3⟩,if_pos h3];rfl
   ·rw [if_neg (by omega),if_neg h3];rfl
  ·rw [if_neg hh];refine zbo fun q hq=>?_;rw [key q hq,dif_pos hlt,if_neg (fun e=>hh e.1)];rfl
 ·rw [dif_neg hlt];refine zbo fun q hq=>?_;rw [key q hq,dif_neg hlt];rfl
theorem row_seq (h:n.1=4):rowN d i w p=zdw w.length fun q=>sat (ze9 (w.length+1) fun k=>zk3 (zcj d n.2.1) w p k*zk3 (zcj d n.2.2.1) w k q):=by
 refine zbo fun q hq=>?_;rw [← conv_row hq];unfold zk3
 by_cases h1:p≤q
 ·rw [if_pos h1,if_pos h1,node_seq hd hn h]
 ·rw [if_neg h1,if_neg h1]
theorem row_or (h:n.1=5):rowN d i w p=zdw w.length fun q=>min 2 (sat (zk3 (zcj d n.2.1) w p q)+1*sat (zk3 (zcj d n.2.2.1) w p q)):=by
 refine zbo fun q hq=>?_;rw [sat_plus];unfold zk3
 by_cases h1:p≤q
 ·rw [if_pos h1,if_pos h1,if_pos h1,node_or hd hn h]
 ·rw [if_neg h1,if_neg h1,if_neg h1]
theorem zlu (h:n.1=6∨n.1=7):zcj d n.2.1 []=0:=by
 have:=zla hd hn h;unfold zcj;simp only [wyn];rw [znd,this];simp only [List.replicate_zero,List.flatten_nil,List.append_nil];exact pm_cnt hd n.2.1
theorem row_star (h:n.1=6):rowN d i w p=zdw w.length fun q=>sat (ze9 (zf6 w (-1)) fun t=>if (0:Int)≤(t:Int) then zkj (zcj d n.2.1) w p t q else 0):=by
 refine zbo fun q hq=>?_;have eT:zf6 w (-1)=w.length+2:=by unfold zf6;rw [if_neg (by omega)]
 rw [eT];unfold zk3 zkj
 by_cases h1:p≤q
 ·rw [if_pos h1,star_pow (zlu hd hn (.inl h)) (fun u=>node_star hd hn h u) _ (seg w p q) (Nat.le_refl _) (w.length+2) (by rw [zmq h1 hq];omega)];refine congrArg sat (ze1 fun t _=>?_);rw [if_pos (by omega),if_pos h1]
 ·rw [if_neg h1];have:(fun t:Nat=>if (0:Int)≤(t:Int) then (if p≤q then zjo (zcj d n.2.1) t (seg w p q) else 0) else 0)=fun _=>0:=by
   funext t;rw [if_neg h1];simp
  rw [this,zjf]
theorem row_rep (h:n.1=7):rowN d i w p=zdw w.length fun q=>sat (ze9 (zf6 w n.2.2.2.2.1) fun t=>if n.2.2.2.1≤(t:Int) then zkj (zcj d n.2.1) w p t q else 0):=by
 obtain ⟨r0,r1,r2⟩:=hd.rep _ n hn h;obtain ⟨hi,hhi⟩:∃hi:Nat,n.2.2.2.2.1=(hi:Int):=⟨n.2.2.2.2.1.toNat,by omega⟩;refine zbo fun q hq=>?_;unfold zk3 zkj
 by_cases h1:p≤q
 ·rw [if_pos h1,node_rep hd hn h,hhi,rep_pow (R:=fun lo hi u=>wyn d u [(2,i,lo,hi)]) (f:=zcj d n.2.1) (fun lo hi u=>item_rep hd hn h lo hi u) hi n.2.2.2.1 (seg w p q) r0 (by omega)];have e1:(ze9 (zf6 w (hi:Int)) fun t=>if n.2.2.2.1≤(t:Int) then (if p≤q then zjo (zcj d n.2.1) t (seg w p q) else 0) else 0)=ze9 (zf6 w (hi:Int)) fun t=>if decide (n.2.2.2.1≤(t:Int))=true then zjo (zcj d n.2.1) t (seg w p q) else 0:=ze1 fun t _=>by
   rw [if_pos h1];simp
  have e2:(ze9 (hi+1) fun t=>if n.2.2.2.1≤(t:Int) then zjo (zcj d n.2.1) t (seg w p q) else 0)=ze9 (hi+1) fun t=>if decide (n.2.2.2.1≤(t:Int))=true then zjo (zcj d n.2.1) t (seg w p q) else 0:=ze1 fun t _=>by simp
  rw [e1,e2];unfold zf6
  by_cases h2:(hi:Int)≤(w.length:Int)+1
  ·rw [if_pos (by omega)]
   congr 2
  ·rw [if_neg (by omega),pow_more (zlu hd hn (.inr h)) (T:=w.length+2) (T':=hi+1) (by rw [zmq h1 hq];omega) (by omega)]
 ·rw [if_neg h1];have:(fun t:Nat=>if n.2.2.2.1≤(t:Int) then (if p≤q then zjo (zcj d n.2.1) t (seg w p q) else 0) else 0)=fun _=>0:=by
   funext t;rw [if_neg h1];simp
  rw [this,zjf]
theorem row_text (h:n.1=3):rowN d i w p=if p+n.2.2.2.2.2.2.length≤w.length∧seg w p (p+n.2.2.2.2.2.2.length)=(n.2.2.2.2.2.2.map fun b=>(b.toNat:Int)) then (zdw w.length fun _=>0).set (p+n.2.2.2.2.2.2.length) 1 else zdw w.length fun _=>0:=by
 have key:∀q,q≤w.length→zk3 (zcj d i) w p q=if (p+n.2.2.2.2.2.2.length≤w.length∧seg w p (p+n.2.2.2.2.2.2.length)=(n.2.2.2.2.2.2.map fun b=>(b.toNat:Int)))∧q=p+n.2.2.2.2.2.2.length then 1 else 0:=by
  intro q hq;unfold zk3
  by_cases h1:p≤q
  ·rw [if_pos h1,node_text hd hn h]
   by_cases h2:q=p+n.2.2.2.2.2.2.length
   ·subst h2
    by_cases h3:seg w p (p+n.2.2.2.2.2.2.length)=(n.2.2.2.2.2.2.map fun b=>(b.toNat:Int))
    ·rw [if_pos h3,if_pos ⟨⟨hq,h3⟩,rfl⟩]
    ·rw [if_neg h3,if_neg fun e=>h3 e.1.2]
   ·rw [if_neg,if_neg fun e=>h2 e.2];intro e;have:=congrArg List.length e;rw [zmq h1 hq,List.length_map] at this;omega
  ·rw [if_neg h1,if_neg (by omega)]
 by_cases hc:p+n.2.2.2.2.2.2.length≤w.length∧seg w p (p+n.2.2.2.2.2.2.length)=(n.2.2.2.2.2.2.map fun b=>(b.toNat:Int))
 ·rw [if_pos hc,zhj];refine zbo fun q hq=>?_;rw [key q hq]
  by_cases h3:q=p+n.2.2.2.2.2.2.length
  ·rw [if_pos ⟨hc,h3⟩,if_pos h3];rfl
  ·rw [if_neg fun e=>h3 e.2,if_neg h3];rfl
 ·rw [if_neg hc];refine zbo fun q hq=>?_;rw [key q hq,if_neg fun e=>hc e.1];rfl
theorem row_frame (h:n.1=8) (hw:∀c∈w,0≤c):rowN d i w p=if hlt:p<w.length then (if p+1+(w[p]).toNat≤w.length then (zdw w.length fun _=>0).set (p+1+(w[p]).toNat) (sat (zcj d n.2.1 (seg w (p+1) (p+1+(w[p]).toNat)))) else zdw w.length fun _=>0) else zdw w.length fun _=>0:=by
 have hs:∀a b,∀c∈seg w a b,0≤c:=fun a b c hc=>hw c (List.mem_of_mem_take (List.mem_of_mem_drop hc));have key:∀q,q≤w.length→zk3 (zcj d i) w p q=if hlt:p<w.length then (if q=p+1+(w[p]).toNat then zcj d n.2.1 (seg w (p+1) q) else 0) else 0:=by
  intro q hq;unfold zk3
  by_cases h1:p≤q
  ·rw [if_pos h1]
   by_cases h2:q=p
   ·subst h2;have f0:zcj d i []=0:=zq6 hd hn h [] (by simp);rw [zhi,f0];split
    ·rw [if_neg (by omega)]
    ·rfl
   ·have hlt:p<w.length:=by omega
    have h0:=hw _ (List.getElem_mem hlt);have hsq:=hs p q;rw [zff (by omega) hq] at hsq;have f1:zcj d i (w[p]::seg w (p+1) q)=if ((seg w (p+1) q).length:Int)=w[p] then zcj d n.2.1 (seg w (p+1) q) else 0:=zq6 hd hn h _ hsq
    rw [dif_pos hlt,zff (by omega) hq,f1];rw [zmq (by omega) hq]
    by_cases h3:q=p+1+(w[p]).toNat
    ·rw [if_pos h3,if_pos (by omega)]
    ·rw [if_neg h3,if_neg (by omega)]
  ·rw [if_neg h1];split
   ·rw [if_neg (by omega)]
   ·rfl
 by_cases hlt:p<w.length
 ·rw [dif_pos hlt]
  by_cases hh:p+1+(w[p]).toNat≤w.length
  ·rw [if_pos hh,zhj];refine zbo fun q hq=>?_;rw [key q hq,dif_pos hlt]
   by_cases h3:q=p+1+(w[p]).toNat
   ·rw [if_pos h3,if_pos h3,h3]
   ·rw [if_neg h3,if_neg h3];rfl
  ·rw [if_neg hh];refine zbo fun q hq=>?_;rw [key q hq,dif_pos hlt,if_neg (by omega)];rfl
 ·rw [dif_neg hlt];refine zbo fun q hq=>?_;rw [key q hq,dif_neg hlt];rfl
theorem row_wide (h:n.1=9) (hw:∀c∈w,0≤c):rowN d i w p=if hlt:p+1<w.length then (if p+2+(256*(w[p])+w[p+1]).toNat≤w.length then (zdw w.length fun _=>0).set (p+2+(256*(w[p])+w[p+1]).toNat) (sat (zcj d n.2.1 (seg w (p+2) (p+2+(256*(w[p])+w[p+1]).toNat)))) else zdw w.length fun _=>0) else zdw w.length fun _=>0:=by
 have hs:∀a b,∀c∈seg w a b,0≤c:=fun a b c hc=>hw c (List.mem_of_mem_take (List.mem_of_mem_drop hc));have key:∀q,q≤w.length→zk3 (zcj d i) w p q=if hlt:p+1<w.length then (if q=p+2+(256*(w[p])+w[p+1]).toNat then zcj d n.2.1 (seg w (p+2) q) else 0) else 0:=by
  intro q hq;unfold zk3
  by_cases h1:p≤q
  ·rw [if_pos h1]
   by_cases h2:q=p
   ·subst h2;have f0:zcj d i []=0:=zo2 hd hn h [] (by simp);rw [zhi,f0];split
    ·rw [if_neg (by omega)]
    ·rfl
   ·have hsq:=hs p q
    by_cases h4:q=p+1
    ·rw [zff (by omega) hq,(zmp (by omega) hq).2 h4] at hsq;have f1:zcj d i [w[p]'(by omega)]=0:=zo2 hd hn h _ hsq;rw [zff (by omega) hq,(zmp (by omega) hq).2 h4,f1];split
     ·rw [if_neg (by omega)]
     ·rfl
    ·have hlt:p+1<w.length:=by omega
     have h0:=hw _ (List.getElem_mem (show p<w.length by omega));have h5:=hw _ (List.getElem_mem hlt);rw [zff (by omega) hq,zff (by omega) hq] at hsq;have f1:zcj d i (w[p]::w[p+1]::seg w (p+1+1) q)=if ((seg w (p+1+1) q).length:Int)=256*w[p]+w[p+1] then zcj d n.2.1 (seg w (p+1+1) q) else 0:=zo2 hd hn h _ hsq
     rw [dif_pos hlt,zff (by omega) hq,zff (by omega) hq,f1];rw [zmq (by omega) hq]
     by_cases h3:q=p+2+(256*(w[p])+w[p+1]).toNat
     ·rw [if_pos h3,if_pos (by omega)]
     ·rw [if_neg h3,if_neg (by omega)]
  ·rw [if_neg h1];split
   ·rw [if_neg (by omega)]
   ·rfl
 by_cases hlt:p+1<w.length
 ·rw [dif_pos hlt]
  by_cases hh:p+2+(256*(w[p])+w[p+1]).toNat≤w.length
  ·rw [if_pos hh,zhj];refine zbo fun q hq=>?_;rw [key q hq,dif_pos hlt]
   by_cases h3:q=p+2+(256*(w[p])+w[p+1]).toNat
   ·rw [if_pos h3,if_pos h3,h3]
   ·rw [if_neg h3,if_neg h3];rfl
  ·rw [if_neg hh];refine zbo fun q hq=>?_;rw [key q hq,dif_pos hlt,if_neg (by omega)];rfl
 ·rw [dif_neg hlt];refine zbo fun q hq=>?_;rw [key q hq,dif_neg hlt];rfl
end
end Go.Proofs.YtahgmdbioafmbaaGreatDoor.V
namespace Go.Proofs.YtahgmdbioafmbaaGreatDoor.V
open Go
set_option linter.unusedVariables false
theorem strB_back (s:Str):strB (s.map fun b=>(b.toNat:Int))=s:=by
 unfold strB;rw [List.map_map];have:∀b∈s,((fun n:Int=>UInt8.ofNat n.toNat) ∘ fun b:UInt8=>(b.toNat:Int)) b=id b:=fun b _=>by simp
 rw [List.map_congr_left this,List.map_id]
theorem strB_iff {l:List Int} (hl:∀c∈l,InR .u8 c) {s:Str}:strB l=s↔l=s.map fun b=>(b.toNat:Int):=by
 constructor
 ·rintro rfl;unfold strB;rw [List.map_map];have:∀c∈l,((fun b:UInt8=>(b.toNat:Int)) ∘ fun n:Int=>UInt8.ofNat n.toNat) c=id c:=fun c hc=>by
   have:=zge.1 (hl c hc);simp only [Function.comp,id,UInt8.toNat_ofNat'];omega
  rw [List.map_congr_left this,List.map_id]
 ·rintro rfl;exact strB_back s
theorem ends_in {d:List SNode} (hd:ROk d) (ht:∀n∈d,n.2.2.2.2.2.2.length≤140737488351232):∀(k:Nat) (i:Int) (n:SNode),i<(k:Int)→at? d i=some n→∀(w:List Int),w.length≤1000→(∀c∈w,InR .u8 c)→∀p:Nat,p≤w.length→zcu.n k d i w (p:Int) (rowN d i w p)
 | 0,i,n,hi,hn,w,hw,hu,p,hp=>by have:=zb6 hn;omega
 | k+1,i,n,hi,hn,w,hw,hu,p,hp=>by
  have ih:=ends_in hd ht k;have hw0:∀c∈w,0≤c:=fun c hc=>(zge.1 (hu c hc)).1;have hk9:=hd.kind _ n hn;have z:∀q:Nat,q≤w.length→at? (zdw w.length fun _=>(0:Int)) (q:Int)=some 0:=fun q hq=>zht hq;have hm:n∈d:=by
   obtain ⟨j,_,hj⟩:=znr hn;exact List.mem_of_getElem? hj
  have no:∀{a:Int},n.1≠a→¬ (n.1==a)=true:=fun h e=>h (eq_of_beq e);refine ⟨n,hn,_,zn9 hw,fun h=>⟨0,z p hp, ?_⟩,fun k1=>⟨fun h=>?_,fun k2=>⟨fun h=>?_,fun k3=>⟨fun h=>?_,fun k4=>⟨fun h=>?_,fun k5=>⟨fun h=>?_,fun k6=>⟨fun h=>?_,fun k7=>⟨fun h=>?_,fun k8=>⟨fun h=>?_,fun k9=>?_⟩⟩⟩⟩⟩⟩⟩⟩⟩
  ·rw [row_empty hd hn (eq_of_beq h),Int.toNat_natCast]
  ·-- a byte of a class
   rw [row_bytes hd hn (eq_of_beq h)]
   by_cases hlt:p<w.length
   ·rw [dif_pos hlt];have hat:at? w (p:Int)=some w[p]:=by rw [zbw];simp [hlt]
    refine ⟨w[p],fun _=>hat,_,fun _=>zna (hu _ (List.getElem_mem hlt)),fun hb=>?_,fun hb=>?_⟩
    ·simp only [Bool.and_eq_true,decide_eq_true_eq] at hb;have e:(p:Int)+1=((p+1:Nat):Int):=by omega
     rw [if_pos hb.2,e];exact ⟨zh (by omega) (by omega),0,z _ (by omega),by rw [Int.toNat_natCast]⟩
    ·have hh:¬ n.2.2.2.2.2.1.has (w[p]).toNat=true:=by
      intro e;rw [e] at hb;simp at hb;omega
     rw [if_neg hh]
   ·rw [dif_neg hlt];exact ⟨0,fun hx=>absurd (dt hx) (by omega),false,fun hx=>absurd (dt hx) (by omega),fun hb=>by simp at hb,fun _=>rfl⟩
  ·-- a text
   rw [row_text hd hn (eq_of_beq h)];have htl:=ht n hm;have e:(p:Int)+(n.2.2.2.2.2.2.length:Int)=((p+n.2.2.2.2.2.2.length:Nat):Int):=by omega
   have hsu:∀c∈seg w p (p+n.2.2.2.2.2.2.length),InR .u8 c:=fun c hc=>hu c (List.mem_of_mem_take (List.mem_of_mem_drop hc));rw [e];refine ⟨zh (by omega) (by omega),_,rfl,fun hb=>zh (by omega) (by omega),fun hb=>?_,_,rfl,fun hb=>?_,fun hb=>?_⟩
   ·have:=dt hb;omega
   ·simp only [Bool.and_eq_true,decide_eq_true_eq,beq_iff_eq] at hb;obtain ⟨b1,b2⟩:=hb;have b2':seg w p (p+n.2.2.2.2.2.2.length)=_:=(strB_iff hsu).1 b2;rw [if_pos ⟨by omega,b2'⟩];exact ⟨zh (by omega) (by omega),0,z _ (by omega),by rw [Int.toNat_natCast]⟩
   ·rw [if_neg];rintro ⟨b1,b2⟩;have b2':strB ((w.take ((p+n.2.2.2.2.2.2.length:Nat):Int).toNat).drop ((p:Nat):Int).toNat)=n.2.2.2.2.2.2:=(strB_iff hsu).2 b2;rw [b2'] at hb;simp at hb;omega
  ·-- one behind the other
   have h4:=eq_of_beq h;obtain ⟨⟨a,b⟩,c,e⟩:=hd.two _ n hn (.inl h4);obtain ⟨m1,hm1⟩:=zea hn a b;obtain ⟨m2,hm2⟩:=zea hn c e;refine ⟨_,ih _ m1 (by omega) hm1 w hw hu p hp,_,through_in hw (A:=fun k=>zk3 (zcj d n.2.1) w p k) (B:=zk3 (zcj d n.2.2.1) w) (fun q hq _=>ih _ m2 (by omega) hm2 w hw hu q hq), ?_⟩;rw [row_seq hd hn h4]
  ·have h5:=eq_of_beq h;obtain ⟨⟨a,b⟩,c,e⟩:=hd.two _ n hn (.inr h5);obtain ⟨m1,hm1⟩:=zea hn a b;obtain ⟨m2,hm2⟩:=zea hn c e;refine ⟨_,ih _ m1 (by omega) hm1 w hw hu p hp,_,ih _ m2 (by omega) hm2 w hw hu p hp,_,zss hw (fun q=>zhs _) (fun q=>zhs _) (by omega), ?_⟩;rw [row_or hd hn h5]
  ·have h6:=eq_of_beq h;obtain ⟨a,b⟩:=hd.one _ n hn (.inl h6);obtain ⟨m1,hm1⟩:=zea hn a b;refine ⟨_,times_in hw hp (zlu hd hn (.inl h6)) 0 (-1) (fun q _ hq=>ih _ m1 (by omega) hm1 w hw hu q hq), ?_⟩;rw [row_star hd hn h6]
  ·have h7:=eq_of_beq h;obtain ⟨a,b⟩:=hd.one _ n hn (.inr (.inl h7));obtain ⟨m1,hm1⟩:=zea hn a b;refine ⟨_,times_in hw hp (zlu hd hn (.inr h7)) _ _ (fun q _ hq=>ih _ m1 (by omega) hm1 w hw hu q hq), ?_⟩;rw [row_rep hd hn h7]
  ·-- a frame
   have h8:=eq_of_beq h;obtain ⟨a,b⟩:=hd.one _ n hn (.inr (.inr (.inl h8)));obtain ⟨m1,hm1⟩:=zea hn a b;rw [row_frame hd hn h8 hw0];refine ⟨fun hx=>?_,fun hx=>by rw [dif_neg (by have:=df hx;omega)]⟩;have hlt:p<w.length:=by have:=dt hx;omega
   have hat:at? w (p:Int)=some w[p]:=by rw [zbw];simp [hlt]
   have hb:=zge.1 (hu _ (List.getElem_mem hlt));have e:(p:Int)+1+w[p]=((p+1+(w[p]).toNat:Nat):Int):=by omega
   rw [dif_pos hlt];refine ⟨zh (by omega) (by omega),w[p],hat,zh (by omega) (by omega),fun hy=>?_,fun hy=>by rw [if_neg (by have:=df hy;omega)]⟩;have hle:p+1+(w[p]).toNat≤w.length:=by have:=dt hy;omega
   rw [if_pos hle,e,Int.toNat_natCast];have hwt:(w.take (p+1+(w[p]).toNat)).length=p+1+(w[p]).toNat:=by rw [List.length_take];omega
   have e1:(p:Int)+1=((p+1:Nat):Int):=by omega
   refine ⟨⟨by omega,by omega⟩,zh (by omega) (by omega),_,by rw [e1];exact ih _ m1 (by omega) hm1 (w.take (p+1+(w[p]).toNat)) (by omega) (fun c hc=>hu c (List.mem_of_mem_take hc)) (p+1) (by omega),_,by unfold rowN;exact zht (by omega),0,z _ hle, ?_⟩;have es:seg (w.take (p+1+(w[p]).toNat)) (p+1) (p+1+(w[p]).toNat)=seg w (p+1) (p+1+(w[p]).toNat):=by unfold seg;rw [List.take_take,Nat.min_self]
   unfold zk3;rw [if_pos (by omega),es]
  ·have h9:=eq_of_beq h;obtain ⟨a,b⟩:=hd.one _ n hn (.inr (.inr (.inr h9)));obtain ⟨m1,hm1⟩:=zea hn a b;rw [row_wide hd hn h9 hw0];refine ⟨zh (by omega) (by omega),fun hx=>?_,fun hx=>by rw [dif_neg (by have:=df hx;omega)]⟩;have hlt:p+1<w.length:=by have:=dt hx;omega
   have hat:at? w (p:Int)=some w[p]:=by rw [zbw];simp [show p<w.length by omega]
   have e1:(p:Int)+1=((p+1:Nat):Int):=by omega
   have hat1:at? w ((p:Int)+1)=some w[p+1]:=by rw [e1,zbw];simp [hlt]
   have hb:=zge.1 (hu _ (List.getElem_mem (show p<w.length by omega)));have hb1:=zge.1 (hu _ (List.getElem_mem hlt));have e:(p:Int)+2+256*w[p]+w[p+1]=((p+2+(256*w[p]+w[p+1]).toNat:Nat):Int):=by omega
   rw [dif_pos hlt];refine ⟨zh (by omega) (by omega),w[p],hat,zh (by omega) (by omega),zh (by omega) (by omega),zh (by omega) (by omega),w[p+1],hat1,zh (by omega) (by omega),_,rfl,fun hy=>?_,fun hy=>by rw [if_neg (by have:=df hy;omega)]⟩;have hle:p+2+(256*w[p]+w[p+1]).toNat≤w.length:=by have:=dt hy;omega
   rw [if_pos hle,e,Int.toNat_natCast];have hwt:(w.take (p+2+(256*w[p]+w[p+1]).toNat)).length=p+2+(256*w[p]+w[p+1]).toNat:=by rw [List.length_take];omega
   have e2:(p:Int)+2=((p+2:Nat):Int):=by omega
   refine ⟨⟨by omega,by omega⟩,zh (by omega) (by omega),_,by rw [e2];exact ih _ m1 (by omega) hm1 (w.take (p+2+(256*w[p]+w[p+1]).toNat)) (by omega) (fun c hc=>hu c (List.mem_of_mem_take hc)) (p+2) (by omega),_,by unfold rowN;exact zht (by omega),0,z _ hle, ?_⟩;have es:seg (w.take (p+2+(256*w[p]+w[p+1]).toNat)) (p+2) (p+2+(256*w[p]+w[p+1]).toNat)=seg w (p+2) (p+2+(256*w[p]+w[p+1]).toNat):=by unfold seg;rw [List.take_take,Nat.min_self]
   unfold zk3;rw [if_pos (by omega),es]
  ·exfalso;have j1:=ne_of_beq_false k1;have j2:=ne_of_beq_false k2;have j3:=ne_of_beq_false k3;have j4:=ne_of_beq_false k4;have j5:=ne_of_beq_false k5;have j6:=ne_of_beq_false k6;have j7:=ne_of_beq_false k7;have j8:=ne_of_beq_false k8;have j9:=ne_of_beq_false k9;omega
theorem zse {d:List SNode} (h:Rt d) (hl:d.length≤1000) (ht:∀n∈d,n.2.2.2.2.2.2.length≤140737488351232) {w:List Int} (hw:w.length≤1000) (hu:∀c∈w,InR .u8 c):zkf d w (sat (zcj d ((d.length:Int)-1) w)):=by
 have hr:=h.tr.le;obtain ⟨m,hm,_⟩:=zpn (xs:=d) (i:=(d.length:Int)-1) hr.2 (by omega);refine ⟨zh (by omega) (by omega),_,⟨d.length,ends_in h.toROk ht d.length _ m (by omega) hm w hw hu 0 (by omega)⟩,_,by unfold rowN;exact zht (Nat.le_refl _), ?_⟩;have es:seg w 0 w.length=w:=by unfold seg;simp
 unfold zk3;rw [if_pos (by omega),es]
theorem heads_few {d:List SNode} {s:List SItem} (h:Sm d s) {B:List SBranch} (hB:Can (fun t=>(hds d s).count t) B):B.length≤10001:=by
 have h0:=zpl hB (U:=CS d s) fun t ht=>hds_CS d s t (List.count_pos_iff.1 (by omega));have h1:=CS_few h.rt s;have h3:=h.slen;have h4:s.length*(d.length+1)≤400*25:=Nat.mul_le_mul h3 (by have:=h.len;omega);omega
theorem heads_ok {d:List SNode} {s:List SItem} (h:Sm d s) {t:List SItem} (ht:(hds d s).count t≠0):t.length≤424∧rdy d t=true∧zez d t=true:=by
 obtain ⟨L,⟨k,hk⟩,hp⟩:=hds_lv h.rt.toROk s h.form;have hm:t∈L:=hp.mem_iff.2 (List.count_pos_iff.1 (by omega));obtain ⟨h1,h2⟩:=lv_vs h.rt.toROk (n0:=400) k s L hk (Vs.start h.form h.slen) t hm;have:=h1.len;have:=h.len;exact ⟨by omega,h2,h1.form⟩
def fB (d:List SNode) (c:Int) (B:List SBranch) (u:List SItem):Nat:=(B.map fun b=>if (zbd d b.1 c).2=true∧(zbd d b.1 c).1=u then b.2.toNat else 0).sum
theorem fB_snoc (d:List SNode) (c:Int) (B:List SBranch) (b:SBranch) (u:List SItem):fB d c (B++[b]) u=fB d c B u+if (zbd d b.1 c).2=true∧(zbd d b.1 c).1=u then b.2.toNat else 0:=by
 simp [fB]
theorem fB_pos {d:List SNode} {c:Int} {B:List SBranch} {u:List SItem} (h:fB d c B u≠0):∃b∈B,(zbd d b.1 c).2=true∧(zbd d b.1 c).1=u:=by
 induction B with
 | nil=>simp [fB] at h
 | cons b B ih=>
  by_cases hb:(zbd d b.1 c).2=true∧(zbd d b.1 c).1=u
  ·exact ⟨b,by simp,hb⟩
  ·have e:fB d c (b::B) u=fB d c B u:=by
    unfold fB;rw [List.map_cons,List.sum_cons,if_neg hb,Nat.zero_add]
   rw [e] at h;obtain ⟨b',h1,h2⟩:=ih h;exact ⟨b',by simp [h1],h2⟩
structure HOk (d:List SNode) (B:List SBranch):Prop where
 few:B.length≤10001
 ok:∀b∈B,b.1.length≤424∧rdy d b.1=true∧zez d b.1=true
 many:∀b∈B,1≤b.2∧b.2≤2
theorem Sm.hok {d:List SNode} {s:List SItem} (h:Sm d s) {B:List SBranch} (hB:Can (fun t=>(hds d s).count t) B):HOk d B:=
 ⟨heads_few h hB,fun b hb=>heads_ok h (hB.many hb).2.1,fun b hb=>(hB.many hb).2.2⟩
theorem fB_read {d:List SNode} {c:Int} {B:List SBranch} (h:HOk d B) {u:List SItem} (hu:fB d c B u≠0):u.length≤425:=by
 obtain ⟨b,hb,_,rfl⟩:=fB_pos hu;have:=zlq d b.1 c;have:=(h.ok b hb).1;omega
theorem onB_len {d:List SNode} {c:Int} {B:List SBranch} {R:List SBranch} (hR:Can (fB d c B) R):R.length≤B.length:=by
 have:=zpl hR (U:=B.map fun b=>(zbd d b.1 c).1) fun u hu=>by
  obtain ⟨b,hb,_,e⟩:=fB_pos hu;exact List.mem_map.2 ⟨b,hb,e⟩
 simpa using this
theorem HOk.take {d:List SNode} {B:List SBranch} (h:HOk d B) (i:Nat):HOk d (B.take i):=
 ⟨by have:=h.few;rw [List.length_take];omega,fun b hb=>h.ok b (List.mem_of_mem_take hb),fun b hb=>h.many b (List.mem_of_mem_take hb)⟩
section
variable {d : List SNode} (hd : ROk d) (hl : d.length ≤ 1000) (ht : ∀ n ∈ d,n.2.2.2.2.2.2.length ≤ 140737488351232) {c : Int} (hc : InR .u8 c) {B : List SBranch} (hB : HOk d B)
include hd hl ht hc hB
theorem ref15_On_l:∃R,(∃k,zde.l1 d c B (zde.j1 R) k [] 0)∧Can (fB d c B) R:=by
 have key:∀(m i:Nat) (out:List SBranch),i+m=B.length→Can (fB d c (B.take i)) out→∃(R:List SBranch) (k:Nat),zde.l1 d c B (zde.j1 R) k out (i:Int)∧Can (fB d c B) R:=by
  intro m
  induction m with
  | zero=>
   intro i out hi ho;rw [List.take_of_length_le (by omega)] at ho;exact ⟨out,1,⟨fun h=>absurd (dt h) (by omega),fun _=>rfl⟩,ho⟩
  | succ m ih=>
   intro i out hi ho;have hil:i<B.length:=by omega
   have hat:at? B (i:Int)=some B[i]:=by rw [zbw];simp [hil]
   have hbm:=List.getElem_mem hil;obtain ⟨b1,b2,b3⟩:=hB.ok _ hbm;obtain ⟨m1,m2⟩:=hB.many _ hbm;have hrd:=zr5 hd hl ht (by omega) b3 b2 hc;have e:=fB_snoc d c (B.take i) B[i];rw [← List.take_succ_eq_append_getElem hil] at e;have hfew:=hB.few;cases hr:(zbd d B[i].1 c).2
   ·obtain ⟨R,k,hk1,hk2⟩:=ih (i+1) out (by omega) (ho.congr fun t=>by rw [e,hr];simp);exact ⟨R,k+1,⟨fun _=>⟨_,hat,_,hrd,(fun h=>by rw [hr] at h;cases h),fun _=>⟨zh (by omega) (by omega),hk1⟩⟩,fun h=>absurd (by omega) (df h)⟩,hk2⟩
   ·have hn:(B[i].2.toNat:Nat)≠0:=by omega
    have hsat:sat B[i].2.toNat=B[i].2:=by unfold sat;omega
    have hadd:=ho.add (zbd d B[i].1 c).1 hn;rw [hsat] at hadd;have hol:=onB_len ho;have hbo:BrOk out:=ho.brok fun t ht=>by have:=fB_read (hB.take i) ht;omega
    have hrl:=zlq d B[i].1 c;obtain ⟨R,k,hk1,hk2⟩:=ih (i+1) (zm2 (zbd d B[i].1 c).1 B[i].2 out) (by omega) (hadd.congr fun t=>by
     rw [e,hr];simp only [true_and,eq_comm])
    exact ⟨R,k+1,⟨fun _=>⟨_,hat,_,hrd,fun _=>⟨_,hat,_,zjk ho.srt hbo (by rw [List.length_take] at hol;omega) (by omega) ⟨by omega,by omega⟩,zh (by omega) (by omega),hk1⟩,(fun h=>by rw [hr] at h;cases h)⟩,fun h=>absurd (by omega) (df h)⟩,hk2⟩
 obtain ⟨R,k,h1,h2⟩:=key B.length 0 [] (by omega) (Can.nil.congr fun t=>by simp [fB]);exact ⟨R,⟨k,h1⟩,h2⟩
structure MapN (f:List SItem→Nat) (m:List (Str × Int)):Prop where
 kn:KN m
 mem:∀k v,(k,v)∈m↔∃u,k=keyS u∧f u≠0∧v=sat (f u)
omit hd hl ht hc hB in
theorem MapN.get {f:List SItem→Nat} {m} (h:MapN f m) (u:List SItem):zex m (keyS u) (0:Int)=sat (f u):=by
 by_cases hu:f u=0
 ·rw [zif fun p hp e=>?_]
  ·rw [hu];rfl
  ·obtain ⟨k,v⟩:=p
   obtain ⟨w,h1,h2,_⟩:=(h.mem k v).1 hp
   simp only at e
   rw [e] at h1
   rw [zgw.1 h1] at hu
   exact h2 hu
 ·have hm:=(h.mem (keyS u) (sat (f u))).2 ⟨u,rfl,hu,rfl⟩
  exact zn0 h.kn hm (0:Int)
omit hd hl ht hc hB in
theorem MapN.put {f:List SItem→Nat} {m} (h:MapN f m) (u:List SItem) {n:Nat} (hn:n≠0) {v:Int} (hv:v=sat (f u+n)):MapN (fun t=>f t+if t=u then n else 0) (zgb m (keyS u) v):=by
 refine ⟨mput_kn h.kn _ _,fun k w=>?_⟩
 rw [zsx,h.mem,Prod.mk.injEq]
 constructor
 ·rintro (⟨h1,h2⟩ | ⟨h1,u',h2,h3,h4⟩)
  ·exact ⟨u,h1,by simp;omega,by rw [h2,hv];simp⟩
  ·have hne:u'≠u:=fun e=>h1 (by rw [h2,e])
   exact ⟨u',h2,by simp [hne,h3],by rw [h4];simp [hne]⟩
 ·rintro ⟨u',h1,h2,h3⟩
  by_cases e:u'=u
  ·subst e;exact .inl ⟨h1,by rw [h3,hv];simp⟩
  ·refine .inr ⟨fun e'=>e (zgw.1 (h1.symm.trans e')),u',h1, ?_, ?_⟩
   ·simpa [e] using h2
   ·rw [h3];simp [e]
theorem next_On_l:∃R,(∃k,zby.l2 d c B (zby.j2 R) k [] [] 0)∧Can (fB d c B) R:=by
 have hfew:=hB.few;have last:∀(many:List (Str × Int)) (out:List SBranch),MapN (fB d c B) many→(out.map (·.1)).Nodup→(∀u,u∈out.map (·.1)↔fB d c B u≠0)→out.length≤10001→∃R,zby.j2 R many out∧Can (fB d c B) R:=by
  intro many out hm hn ho hlen;have hlo:∀b∈out,b.1.length≤1000:=fun b hb=>by
   have:=fB_read hB ((ho b.1).1 (List.mem_map.2 ⟨b,hb,rfl⟩));omega
  let out':=out.map fun b=>(b.1,sat (fB d c B b.1))
  have e1:out'.map (·.1)=out.map (·.1):=by simp [out',Function.comp_def]
  have hn':(out'.map (·.1)).Nodup:=by rw [e1];exact hn
  have hcan:Can (fB d c B) (srtB out'):=by
   refine ⟨zny hn',fun t m=>?_⟩;rw [(zg3 out').mem_iff];constructor
   ·intro h;obtain ⟨b,hb,e⟩:=List.mem_map.1 h;simp only [Prod.mk.injEq] at e;obtain ⟨rfl,rfl⟩:=e;exact ⟨(ho _).1 (List.mem_map.2 ⟨b,hb,rfl⟩),rfl⟩
   ·rintro ⟨h1,h2⟩;obtain ⟨b,hb,e⟩:=List.mem_map.1 ((ho t).2 h1);exact List.mem_map.2 ⟨b,hb,by rw [e,h2]⟩
  refine ⟨srtB out', ?_,hcan⟩;refine zf2 (P:=fun k (o:List SBranch) v=>zby.l1 many out (zby.j1 (srtB out')) k o v) out.length (fun i o=>o=out'.take i++out.drop i) ?_ ?_ out (by simp)
  ·rintro i o hi rfl;have hl1:(out'.take i).length=i:=by simp [out'];omega
   have hat:at? (out'.take i++out.drop i) (i:Int)=some out[i]:=by
    rw [zbw,List.getElem?_append_right (by omega),hl1,Nat.sub_self];simp [hi]
   have hset:(out'.take i++out.drop i).set i (out[i].1,sat (fB d c B out[i].1))=out'.take (i+1)++out.drop (i+1):=by
    rw [List.set_append_right _ _ (by omega),hl1,Nat.sub_self,List.drop_eq_getElem_cons hi,List.set_cons_zero,List.take_succ_eq_append_getElem (show i<out'.length by simp [out'];exact hi)];simp [out']
   refine .inr ⟨_,rfl,fun k hk=>⟨fun _=>⟨_,hat,_,⟨hlo _ (List.getElem_mem hi),rfl⟩,_,hat,zh (by omega) (by omega), ?_⟩,fun h=>absurd (by omega) (df h)⟩⟩;rw [hm.get,Int.toNat_natCast,hset];exact hk
  ·rintro o rfl k;refine ⟨fun h=>absurd (dt h) (by omega),fun _=>?_⟩;have hl2:out'.length=out.length:=by simp [out']
   rw [List.take_of_length_le (by omega),List.drop_length,List.append_nil];exact ⟨_,⟨hn',fun b hb=>by
    obtain ⟨b',hb',rfl⟩:=List.mem_map.1 hb;exact hlo b' hb',by omega,rfl⟩,rfl⟩
 have key:∀(m i:Nat) (many:List (Str × Int)) (out:List SBranch),i+m=B.length→MapN (fB d c (B.take i)) many→(out.map (·.1)).Nodup→(∀u,u∈out.map (·.1)↔fB d c (B.take i) u≠0)→out.length≤i→∃(R:List SBranch) (k:Nat),zby.l2 d c B (zby.j2 R) k many out (i:Int)∧Can (fB d c B) R:=by
  intro m
  induction m with
  | zero=>
   intro i many out hi hm hn ho hlen;rw [List.take_of_length_le (by omega)] at hm ho;obtain ⟨R,h1,h2⟩:=last many out hm hn ho (by omega);exact ⟨R,1,⟨fun h=>absurd (dt h) (by omega),fun _=>h1⟩,h2⟩
  | succ m ih=>
   intro i many out hi hm hn ho hlen;have hil:i<B.length:=by omega
   have hat:at? B (i:Int)=some B[i]:=by rw [zbw];simp [hil]
   have hbm:=List.getElem_mem hil;obtain ⟨b1,b2,b3⟩:=hB.ok _ hbm;obtain ⟨m1,m2⟩:=hB.many _ hbm;have hrd:=next_Read_in hd hl ht (by omega) b3 b2 hc;have hrl:=zlq d B[i].1 c;have e:=fB_snoc d c (B.take i) B[i];rw [← List.take_succ_eq_append_getElem hil] at e;cases hr:(zbd d B[i].1 c).2
   ·have e0:∀u,fB d c (B.take (i+1)) u=fB d c (B.take i) u:=fun u=>by rw [e,hr];simp
    have e0':fB d c (B.take (i+1))=fB d c (B.take i):=funext e0;obtain ⟨R,k,hk1,hk2⟩:=ih (i+1) many out (by omega) (by rw [e0'];exact hm) hn (by rw [e0'];exact ho) (by omega);exact ⟨R,k+1,⟨fun _=>⟨_,hat,_,hrd,fun _=>⟨zh (by omega) (by omega),hk1⟩,(fun h=>by rw [hr] at h;cases h)⟩,fun h=>absurd (by omega) (df h)⟩,hk2⟩
   ·have hn0:B[i].2.toNat≠0:=by omega
    have hg:=hm.get (zbd d B[i].1 c).1;have hv:min (zex many (keyS (zbd d B[i].1 c).1) 0+B[i].2) 2=sat (fB d c (B.take i) (zbd d B[i].1 c).1+B[i].2.toNat):=by
     rw [hg];unfold sat;omega
    have e0':fB d c (B.take (i+1))=fun t=>fB d c (B.take i) t+if t=(zbd d B[i].1 c).1 then B[i].2.toNat else 0:=funext fun u=>by
     rw [e,hr];simp only [true_and,eq_comm]
    have hput:=hm.put (zbd d B[i].1 c).1 hn0 hv;rw [← e0'] at hput;have hin:InR .i64 (zex many (keyS (zbd d B[i].1 c).1) 0+B[i].2):=by rw [hg];unfold sat;exact zh (by omega) (by omega)
    by_cases h0:fB d c (B.take i) (zbd d B[i].1 c).1=0
    ·obtain ⟨R,k,hk1,hk2⟩:=ih (i+1) _ (out++[((zbd d B[i].1 c).1,0)]) (by omega) hput (by
      rw [List.map_append,List.nodup_append];refine ⟨hn,by simp,fun a ha b hb e=>?_⟩;simp at hb;subst hb;subst e;exact (ho _).1 ha h0) (fun u=>by
      rw [e0',List.map_append,List.mem_append,ho]
      by_cases hu:u=(zbd d B[i].1 c).1
      ·subst hu;simp;omega
      ·simp [hu]) (by simp;omega)
     refine ⟨R,k+1,⟨fun _=>⟨_,hat,_,hrd,fun h=>by rw [hr] at h;simp at h,fun _=>⟨_,⟨by omega,rfl⟩,fun _=>⟨by simp;omega,hin,zh (by omega) (by omega),hk1⟩,fun h=>?_⟩⟩,fun h=>absurd (by omega) (df h)⟩,hk2⟩;rw [hg,h0] at h;simp [sat] at h
    ·obtain ⟨R,k,hk1,hk2⟩:=ih (i+1) _ out (by omega) hput hn (fun u=>by
      rw [e0',ho]
      by_cases hu:u=(zbd d B[i].1 c).1
      ·subst hu;simp [h0]
      ·simp [hu]) (by omega)
     refine ⟨R,k+1,⟨fun _=>⟨_,hat,_,hrd,fun h=>by rw [hr] at h;simp at h,fun _=>⟨_,⟨by omega,rfl⟩,fun h=>?_,fun _=>⟨hin,zh (by omega) (by omega),hk1⟩⟩⟩,fun h=>absurd (by omega) (df h)⟩,hk2⟩;exfalso;rw [hg] at h;have:=eq_of_beq h;unfold sat at this;omega
 obtain ⟨R,k,h1,h2⟩:=key B.length 0 [] [] (by omega) ⟨List.nodup_nil,fun k v=>by simp [fB]⟩ (by simp) (by simp [fB]) (by simp);exact ⟨R,⟨k,h1⟩,h2⟩
end
theorem on_both {d:List SNode} {s:List SItem} (h:Sm d s) {c:Int} (hc:InR .u8 c):∃B R,zf0 d s B∧Can (fun t=>(hds d s).count t) B∧zby d s c R∧zde d s c R∧Can (fB d c B) R:=by
 obtain ⟨B,b1,b2,b3⟩:=zmz h;have hB:=h.hok b3;have hl:d.length≤1000:=by have:=h.len;omega
 obtain ⟨R,⟨k,h1⟩,h2⟩:=next_On_l h.rt.toROk hl h.txt hc hB;obtain ⟨R',⟨k',h1'⟩,h2'⟩:=ref15_On_l h.rt.toROk hl h.txt hc hB;have e:=h2'.uniq h2;subst e;exact ⟨B,R',b1,b3,⟨B,b1,k,h1⟩,⟨B,b2,k',h1'⟩,h2⟩
end Go.Proofs.YtahgmdbioafmbaaGreatDoor.V
namespace Go.Proofs.YtahgmdbioafmbaaGreatDoor.V
open Go
set_option linter.unusedVariables false
def zel (d:List SNode) (c:Int) (s:List SItem):List (List SItem):=(hds d s).filterMap fun t=>if (zbd d t c).2=true then some (zbd d t c).1 else none
def zdd (d:List SNode):List Int→List SItem→List (List SItem)
 | [],s=>[s]
 | c::w,s=>(zel d c s).flatMap (zdd d w)
theorem zq9 (d:List SNode) (c:Int):∀(w:List Int) (s:List SItem),zdd d (w++[c]) s=(zdd d w s).flatMap (zel d c)
 | [],s=>by
  show (zel d c s).flatMap (zdd d [])=_;have:zdd d []=fun t=>[t]:=by funext t;rfl
  rw [this];simp
 | e::w,s=>by
  show (zel d e s).flatMap (zdd d (w++[c]))=((zel d e s).flatMap (zdd d w)).flatMap (zel d c);rw [List.flatMap_assoc]
  congr 1
  funext t;exact zq9 d c w t
theorem sumF_flat (F:List SItem→Nat) (g:List SItem→List (List SItem)) (L:List (List SItem)):zcl F (L.flatMap g)=zcl (fun t=>zcl F (g t)) L:=by
 induction L with
 | nil=>rfl
 | cons t L ih=>
  rw [List.flatMap_cons,zfe,ih];simp [zcl]
theorem sumF_step (d:List SNode) (c:Int) (G:List SItem→Nat) (s:List SItem):zcl G (zel d c s)=zcl (fun t=>if (zbd d t c).2=true then G (zbd d t c).1 else 0) (hds d s):=by
 unfold zel
 induction hds d s with
 | nil=>rfl
 | cons t L ih=>
  rw [List.filterMap_cons]
  by_cases h:(zbd d t c).2=true
  ·simp only [h,if_true];have:∀x (M:List (List SItem)),zcl G (x::M)=G x+zcl G M:=fun x M=>by simp [zcl]
   rw [this,ih];simp [zcl,h]
  ·simp only [h];rw [show zcl (fun t=>if (zbd d t c).2=true then G (zbd d t c).1 else 0) (t::L)=zcl (fun t=>if (zbd d t c).2=true then G (zbd d t c).1 else 0) L by simp [zcl,h]];exact ih
theorem wyn_ends (d:List SNode):∀(w:List Int) (s:List SItem),wyn d w s=zcl (fun u=>(hds d u).count []) (zdd d w s)
 | [],s=>by simp [wyn,zdd,zcl]
 | c::w,s=>by
  show zcl (fun t=>if (zbd d t c).2=true then wyn d w (zbd d t c).1 else 0) (hds d s)=zcl _ ((zel d c s).flatMap (zdd d w));rw [sumF_flat,← sumF_step d c (fun t=>wyn d w t) s];exact zgy fun t _=>wyn_ends d w t
theorem zqu {α:Type} (K:List α):(K.map fun _=>(0:Nat)).sum=0:=by
 induction K with
 | nil=>rfl
 | cons a K ih=>rw [List.map_cons,List.sum_cons,ih]
theorem zqt {g:List SItem→Nat} {t:List SItem}:∀{K:List (List SItem)},K.Nodup→t∈K→(K.map fun k=>(if k=t then 1 else 0)*g k).sum=g t
 | [],_,h=>by cases h
 | k::K,hn,h=>by
  rw [List.nodup_cons] at hn;rw [List.map_cons,List.sum_cons]
  by_cases e:k=t
  ·subst e;have z:(K.map fun k'=>(if k'=k then 1 else 0)*g k').sum=0:=by
    have:∀k'∈K,(if k'=k then 1 else 0)*g k'=0:=fun k' hk=>by
     have hne:k'≠k:=fun e'=>hn.1 (by rw [← e'];exact hk);rw [if_neg hne,Nat.zero_mul]
    rw [List.map_congr_left this,zqu]
   rw [z];simp
  ·rw [if_neg e,Nat.zero_mul,Nat.zero_add];exact zqt hn.2 ((List.mem_cons.1 h).resolve_left fun h'=>e h'.symm)
theorem sum_by {g:List SItem→Nat} {K:List (List SItem)} (hn:K.Nodup):∀(L:List (List SItem)),(∀t∈L,t∈K)→zcl g L=(K.map fun k=>L.count k*g k).sum
 | [],_=>by
  have:∀k∈K,([]:List (List SItem)).count k*g k=0:=fun k _=>by simp
  rw [List.map_congr_left this,zqu];rfl
 | t::L,h=>by
  have ih:=sum_by hn (g:=g) L fun u hu=>h u (by simp [hu]);have e1:zcl g (t::L)=g t+zcl g L:=by simp [zcl]
  have e2:(K.map fun k=>(t::L).count k*g k).sum=(K.map fun k=>L.count k*g k).sum+(K.map fun k=>(if k=t then 1 else 0)*g k).sum:=by
   clear h ih e1 hn
   induction K with
   | nil=>rfl
   | cons a K ih=>
    simp only [List.map_cons,List.sum_cons];rw [ih,List.count_cons,Nat.add_mul];have:(if (t==a)=true then 1 else 0)=(if a=t then 1 else 0):=by
     by_cases h:a=t
     ·subst h;simp
     ·rw [if_neg (by simpa using fun e=>h e.symm),if_neg h]
    rw [this];omega
  rw [e1,ih,e2,zqt hn (h t (by simp))];omega
theorem fB_step {d:List SNode} {s:List SItem} {B:List SBranch} (hB:Can (fun t=>(hds d s).count t) B) (c:Int) (u:List SItem):sat (fB d c B u)=sat ((zel d c s).count u):=by
 have e1:(zel d c s).count u=zcl (fun t=>if t=u then 1 else 0) (zel d c s):=by
  induction zel d c s with
  | nil=>rfl
  | cons t L ih=>
   rw [List.count_cons,ih];unfold zcl;rw [List.map_cons,List.sum_cons]
   by_cases h:t=u
   ·simp [h];omega
   ·simp [h]
 rw [e1,sumF_step,sum_by hB.nodup (hds d s) fun t ht=>(hB.keys t).2 (by have:=List.count_pos_iff.2 ht;omega),List.map_map];unfold fB;have key:∀b∈B,sat (if (zbd d b.1 c).2=true∧(zbd d b.1 c).1=u then b.2.toNat else 0)=sat ((hds d s).count b.1*if (zbd d b.1 c).2=true then (if (zbd d b.1 c).1=u then 1 else 0) else 0):=fun b hb=>by
  have h1:=(hB.many hb).1
  by_cases h2:(zbd d b.1 c).2=true
  ·by_cases h3:(zbd d b.1 c).1=u
   ·rw [if_pos ⟨h2,h3⟩,if_pos h2,if_pos h3,Nat.mul_one,h1];unfold sat;omega
   ·rw [if_neg fun e=>h3 e.2,if_pos h2,if_neg h3];rfl
  ·rw [if_neg fun e=>h2 e.1,if_neg h2];rfl
 clear hB e1
 induction B with
 | nil=>rfl
 | cons b B ih=>
  have k1:=key b (by simp);have k2:=ih fun b' hb'=>key b' (by simp [hb']);simp only [List.map_cons,List.sum_cons,Function.comp] at k2 ⊢;unfold sat at *;omega
theorem next_Ends_l {B:List SBranch} {f:List SItem→Nat} (hB:Can f B) (hl:B.length≤10001):∃k,zda.l1 B (sat (f [])) (zda.j1 (sat (f []))) k 0:=by
 refine zf2 (P:=fun k (_:Unit) v=>zda.l1 B (sat (f [])) _ k v) B.length (fun i _=>∀b∈B.take i,b.1≠[]) ?_ ?_ () (by simp)
 ·intro i _ hi hn;have hat:at? B (i:Int)=some B[i]:=by rw [zbw];simp [hi]
  by_cases h0:B[i].1=[]
  ·refine .inl fun k=>⟨fun _=>⟨_,hat,fun _=>?_,fun h=>by rw [h0] at h;simp at h⟩,fun h=>absurd (by omega) (df h)⟩;have:=(hB.many (List.getElem_mem hi)).1;rw [h0] at this;exact this.symm
  ·refine .inr ⟨(),fun b hb=>?_,fun k hk=>⟨fun _=>⟨_,hat,fun h=>absurd (by simpa using h) h0,fun _=>⟨zh (by omega) (by omega),hk⟩⟩,fun h=>absurd (by omega) (df h)⟩⟩;rw [List.take_succ_eq_append_getElem hi] at hb;rcases List.mem_append.1 hb with hb | hb
   ·exact hn b hb
   ·rw [List.mem_singleton.1 hb];exact h0
 ·intro _ hn k;refine ⟨fun h=>absurd (dt h) (by omega),fun _=>?_⟩;show sat (f [])=0;rw [List.take_length] at hn;have:f []=0:=by
   rcases Nat.eq_zero_or_pos (f []) with h | h
   ·exact h
   ·obtain ⟨b,hb,e⟩:=List.mem_map.1 ((hB.keys []).2 (by omega));exact absurd e (hn b hb)
  rw [this];rfl
theorem ref15_Ends_l {B:List SBranch} {f:List SItem→Nat} (hB:Can f B) (hl:B.length≤10001):∃k,zct.l1 B (sat (f [])) (zct.j1 (sat (f []))) k 0:=by
 refine zf2 (P:=fun k (_:Unit) v=>zct.l1 B (sat (f [])) _ k v) B.length (fun i _=>∀b∈B.take i,b.1≠[]) ?_ ?_ () (by simp)
 ·intro i _ hi hn;have hat:at? B (i:Int)=some B[i]:=by rw [zbw];simp [hi]
  by_cases h0:B[i].1=[]
  ·refine .inl fun k=>⟨fun _=>⟨_,hat,fun _=>⟨_,hat, ?_⟩,fun h=>by rw [h0] at h;simp at h⟩,fun h=>absurd (by omega) (df h)⟩;have:=(hB.many (List.getElem_mem hi)).1;rw [h0] at this;exact this.symm
  ·refine .inr ⟨(),fun b hb=>?_,fun k hk=>⟨fun _=>⟨_,hat,fun h=>absurd (by simpa using h) h0,fun _=>⟨zh (by omega) (by omega),hk⟩⟩,fun h=>absurd (by omega) (df h)⟩⟩;rw [List.take_succ_eq_append_getElem hi] at hb;rcases List.mem_append.1 hb with hb | hb
   ·exact hn b hb
   ·rw [List.mem_singleton.1 hb];exact h0
 ·intro _ hn k;refine ⟨fun h=>absurd (dt h) (by omega),fun _=>?_⟩;show sat (f [])=0;rw [List.take_length] at hn;have:f []=0:=by
   rcases Nat.eq_zero_or_pos (f []) with h | h
   ·exact h
   ·obtain ⟨b,hb,e⟩:=List.mem_map.1 ((hB.keys []).2 (by omega));exact absurd e (hn b hb)
  rw [this];rfl
theorem ends_both {d:List SNode} {s:List SItem} (h:Sm d s):zda d s (sat ((hds d s).count []))∧zct d s (sat ((hds d s).count [])):=by
 obtain ⟨B,b1,b2,b3⟩:=zmz h;have hl:=heads_few h b3;exact ⟨⟨B,b1,next_Ends_l b3 hl⟩,⟨B,b2,ref15_Ends_l b3 hl⟩⟩
def sing:List Cl:=(List.range 256).map fun (c:Nat)=>Cl.row ((c:Int) % 256) ((c:Int) % 256)
def clsF (d:List SNode) (t:List SItem):List Cl:=
 match t with
 | []=>[]
 | x::_=>match at? d x.2.1 with
  | none=>[]
  | some n=>if x.1=3 then [Cl.row ((zej n.2.2.2.2.2.2 x.2.2.1).getD 0) ((zej n.2.2.2.2.2.2 x.2.2.1).getD 0)] else if n.1=2 then [n.2.2.2.2.2.1] else sing
def zm0 (d:List SNode) (B:List SBranch):List Cl:=B.flatMap fun b=>clsF d b.1
theorem zin:sing.length=256:=by simp [sing]
theorem clsF_len (d:List SNode) (t:List SItem):(clsF d t).length≤256:=by
 unfold clsF;cases t with
 | nil=>simp
 | cons x t=>
  simp only;cases at? d x.2.1 with
  | none=>simp
  | some n=>
   simp only;split
   ·simp
   ·split
    ·simp
    ·rw [zin];exact Nat.le_refl _
theorem zl6 (d:List SNode):∀B:List SBranch,(zm0 d B).length≤256*B.length
 | []=>by simp [zm0]
 | b::B=>by
  have h1:=clsF_len d b.1;have h2:=zl6 d B;unfold zm0 at *;simp only [List.flatMap_cons,List.length_append,List.length_cons];omega
theorem clsB_snoc (d:List SNode) (B:List SBranch) (b:SBranch):zm0 d (B++[b])=zm0 d B++clsF d b.1:=by simp [zm0]
theorem zo4:zb5 sing:=by
 refine zf2 (P:=fun k (o:List Cl) v=>zb5.l1 (zb5.j1 sing) k o v) 256 (fun i o=>o=sing.take i) ?_ ?_ [] (by simp)
 ·rintro i o hi rfl;have e:sing.take (i+1)=sing.take i++[Cl.row ((i:Int) % 256) ((i:Int) % 256)]:=by
   rw [List.take_succ_eq_append_getElem (by rw [zin];exact hi)];simp [sing]
  refine .inr ⟨_,rfl,fun k hk=>⟨fun _=>⟨_,zpk,by rw [List.length_take];simp;omega,zh (by omega) (by omega), ?_⟩,fun h=>absurd (by omega) (df h)⟩⟩;rw [e] at hk;exact hk
 ·rintro o rfl k;refine ⟨fun h=>absurd (dt h) (by omega),fun _=>?_⟩;show sing=sing.take 256;rw [List.take_of_length_le (by rw [zin];exact Nat.le_refl _)]
theorem zqi {d:List SNode} {B:List SBranch} (hB:HOk d B):∃k,zbn.l1 d B (zbn.j1 (zm0 d B)) k [] 0:=by
 have hfew:=hB.few;refine zf2 (P:=fun k (o:List Cl) v=>zbn.l1 d B (zbn.j1 (zm0 d B)) k o v) B.length (fun i o=>o=zm0 d (B.take i)) ?_ ?_ [] (by simp [zm0])
 ·rintro i o hi rfl;have hat:at? B (i:Int)=some B[i]:=by rw [zbw];simp [hi]
  obtain ⟨b1,b2,b3⟩:=hB.ok _ (List.getElem_mem hi);have hlen:=zl6 d (B.take i);rw [List.length_take] at hlen;have e:zm0 d (B.take (i+1))=zm0 d (B.take i)++clsF d B[i].1:=by rw [List.take_succ_eq_append_getElem hi,clsB_snoc]
  refine .inr ⟨_,rfl,fun k hk=>⟨fun _=>⟨_,hat,fun h0=>?_,fun h0=>?_⟩,fun h=>absurd (by omega) (df h)⟩⟩
  ·have h1:B[i].1=[]:=by simpa using h0
   rw [e,h1] at hk;simp only [clsF,List.append_nil] at hk;exact ⟨zh (by omega) (by omega),hk⟩
  ·rw [e] at hk;generalize B[i].1=t at *;cases t with
   | nil=>simp at h0
   | cons x rest=>
    obtain ⟨n,hn,hm,hkk⟩:=zls b3 b2;simp only [clsF,hn] at hk;refine ⟨x,rfl,n,hn,fun h3=>?_,fun h3=>⟨fun h2=>?_,fun h2=>?_⟩⟩
    ·have h3':=eq_of_beq h3;rw [if_pos h3'] at hk;obtain ⟨_,_,h6,h7⟩:n.1=3∧x.2.2.2=0∧0≤x.2.2.1∧x.2.2.1<(n.2.2.2.2.2.2.length:Int):=by
      rcases hkk with ⟨h,_⟩ | ⟨_,h⟩ | ⟨h,_⟩
      ·omega
      ·exact h
      ·omega
     obtain ⟨b,hb2,_⟩:=ztm h6 h7;rw [hb2] at hk;exact ⟨b,hb2,b,hb2,_,zpk,by simp;omega,zh (by omega) (by omega),hk⟩
    ·have h3':=ne_of_beq_false h3;rw [if_neg h3',if_pos (eq_of_beq h2)] at hk;exact ⟨by simp;omega,zh (by omega) (by omega),hk⟩
    ·have h3':=ne_of_beq_false h3;rw [if_neg h3',if_neg (ne_of_beq_false h2)] at hk;exact ⟨_,zo4,by rw [zin];omega,zh (by omega) (by omega),hk⟩
 ·rintro o rfl k;refine ⟨fun h=>absurd (dt h) (by omega),fun _=>?_⟩;show zm0 d B=_;rw [List.take_length]
theorem zot {d:List SNode} {B:List SBranch} (hB:HOk d B):∃k,zu.l1 d B (zu.j1 (zm0 d B)) k [] 0:=by
 have hfew:=hB.few;refine zf2 (P:=fun k (o:List Cl) v=>zu.l1 d B (zu.j1 (zm0 d B)) k o v) B.length (fun i o=>o=zm0 d (B.take i)) ?_ ?_ [] (by simp [zm0])
 ·rintro i o hi rfl;have hat:at? B (i:Int)=some B[i]:=by rw [zbw];simp [hi]
  obtain ⟨b1,b2,b3⟩:=hB.ok _ (List.getElem_mem hi);have hlen:=zl6 d (B.take i);rw [List.length_take] at hlen;have e:zm0 d (B.take (i+1))=zm0 d (B.take i)++clsF d B[i].1:=by rw [List.take_succ_eq_append_getElem hi,clsB_snoc]
  refine .inr ⟨_,rfl,fun k hk=>⟨fun _=>⟨_,hat,fun h0=>?_,fun h0=>?_⟩,fun h=>absurd (by omega) (df h)⟩⟩
  ·have h1:B[i].1=[]:=by simpa using h0
   rw [e,h1] at hk;simp only [clsF,List.append_nil] at hk;exact ⟨zh (by omega) (by omega),hk⟩
  ·rw [e] at hk;refine ⟨_,hat, ?_⟩;generalize B[i].1=t at *;cases t with
   | nil=>simp at h0
   | cons x rest=>
    obtain ⟨n,hn,hm,hkk⟩:=zls b3 b2;simp only [clsF,hn] at hk;refine ⟨x,rfl,n,hn,fun h3=>?_,fun h3=>⟨fun h2=>?_,fun h2=>?_⟩⟩
    ·have h3':=eq_of_beq h3;rw [if_pos h3'] at hk;obtain ⟨_,_,h6,h7⟩:n.1=3∧x.2.2.2=0∧0≤x.2.2.1∧x.2.2.1<(n.2.2.2.2.2.2.length:Int):=by
      rcases hkk with ⟨h,_⟩ | ⟨_,h⟩ | ⟨h,_⟩
      ·omega
      ·exact h
      ·omega
     obtain ⟨b,hb2,hb3⟩:=ztm h6 h7;rw [hb2] at hk;exact ⟨b,hb2,b,hb2,_,zjm hb3 hb3,by simp;omega,zh (by omega) (by omega),hk⟩
    ·have h3':=ne_of_beq_false h3;simp only [Bool.and_eq_true,beq_iff_eq] at h2;rw [if_neg h3',if_pos h2.2] at hk;exact ⟨by simp;omega,zh (by omega) (by omega),hk⟩
    ·have h3':=ne_of_beq_false h3;have h2':¬ n.1=2:=by
      intro e2;rcases hkk with ⟨h,_⟩ | ⟨h,_⟩ | ⟨h,h',_⟩
      ·simp [h,e2] at h2
      ·exact h3' h
      ·omega
     rw [if_neg h3',if_neg h2'] at hk;refine zf2 (P:=fun k' (o:List Cl) v=>zu.l2 (zu.j2 (zu.l1 d B (zu.j1 (zm0 d B)) k) (i:Int)) k' o v) 256 (fun j o=>o=zm0 d (B.take i)++sing.take j) ?_ ?_ (zm0 d (B.take i)) (by simp)
     ·rintro j o hj rfl;have e:sing.take (j+1)=sing.take j++[Cl.row ((j:Int) % 256) ((j:Int) % 256)]:=by
       rw [List.take_succ_eq_append_getElem (by rw [zin];exact hj)];simp [sing]
      have hu8:InR .u8 ((j:Int) % 256):=zge.2 ⟨by omega,by omega⟩;refine .inr ⟨_,rfl,fun k' hk'=>⟨fun _=>⟨_,zjm hu8 hu8,by rw [List.length_append,List.length_take];simp;omega,zh (by omega) (by omega), ?_⟩,fun h=>absurd (by omega) (df h)⟩⟩;rw [e,← List.append_assoc] at hk';exact hk'
     ·rintro o rfl k';refine ⟨fun h=>absurd (dt h) (by omega),fun _=>⟨zh (by omega) (by omega), ?_⟩⟩;rw [List.take_of_length_le (l:=sing) (by rw [zin];exact Nat.le_refl _)];exact hk
 ·rintro o rfl k;refine ⟨fun h=>absurd (dt h) (by omega),fun _=>?_⟩;show zm0 d B=_;rw [List.take_length]
theorem classes_both {d:List SNode} {s:List SItem} (h:Sm d s):∃B,Can (fun t=>(hds d s).count t) B∧zbn d s (zm0 d B)∧zu d s (zm0 d B):=by
 obtain ⟨B,b1,b2,b3⟩:=zmz h;have hB:=h.hok b3;exact ⟨B,b3,⟨B,b1,zqi hB⟩,⟨B,b2,zot hB⟩⟩
def d5:List SNode:=[(2,0,0,0,0,Cl.row 5 6,([]:Str))]
theorem small_txt {d:List SNode} (h:∀n∈d,n.2.2.2.2.2.2=[]):∀n∈d,n.2.2.2.2.2.2.length≤140737488351232:=fun n hn=>by rw [h n hn];simp
def d55:List SNode:=zlv 5 d5 d5
def d8:List SNode:=wrapD 8 d5
abbrev Txt (d:List SNode):Prop:=∀n∈d,n.2.2.2.2.2.2.length≤140737488351232
theorem byte_u8 {s:Str} {i:Int} {c:Int} (h:zej s i=some c):0≤c∧c≤255:=by
 unfold zej at h;obtain ⟨x,_,rfl⟩:=Option.map_eq_some_iff.1 h;have:=x.toNat_lt;omega
theorem form_low1 {d:List SNode} {x:SItem} (h:zfm d x=true) (hb:zma x=false):zfm d (zmb x)=true:=by
 unfold zmb;split
 ·rename_i h5
  unfold zfm at h ⊢;rw [if_pos h5] at h;rw [if_pos (show (x.1,x.2.1,x.2.2.1-1,x.2.2.2).1=5 from h5)];simp only [zma,h5] at hb;simp at hb;simp only [Bool.and_eq_true,decide_eq_true_eq,beq_iff_eq] at h ⊢;omega
 ·exact h
theorem form_lowF {d:List SNode} {s:List SItem} (h:zez d s=true):zez d (zd9 s).1=true:=by
 unfold zd9;split
 ·rfl
 ·rename_i hb
  have hb:s.any zma=false:=by simpa using hb
  unfold zez at *;rw [List.all_eq_true] at *;intro y hy;obtain ⟨x,hx,rfl⟩:=List.mem_map.1 hy;rw [List.any_eq_false] at hb;exact form_low1 (h x hx) (by simpa using hb x hx)
theorem form_read {d:List SNode} (hd:ROk d) {t:List SItem} (hf:zez d t=true) (hr:rdy d t=true) {c:Int} (hc:InR .u8 c):zez d (zbd d t c).1=true:=by
 have hc':=zge.1 hc;cases t with
 | nil=>rfl
 | cons x rest=>
  obtain ⟨n,hn,hm,hk⟩:=zls hf hr;have hlow:=form_lowF (zd7 hf).2;have five:∀v:Int,0≤v→v≤65535→zfm d (5,0,v,0)=true:=fun v h0 h1=>by
   unfold zfm;simp;omega
  unfold zbd;simp only [hn];split
  ·rfl
  ·split
   ·rename_i h3
    split
    ·split
     ·rename_i hlt
      refine zf1 ?_ hlow;obtain ⟨h4,h6⟩:n.1=3∧0≤x.2.2.1:=by
       rcases hk with ⟨h,_⟩ | ⟨_,h,_,h',_⟩ | ⟨h,_⟩
       ·omega
       ·exact ⟨h,h'⟩
       ·omega
      unfold zfm;simp [hn,h4];omega
     ·exact hlow
    ·rfl
   ·split
    ·rename_i h3 h4
     obtain ⟨h9,h6,h7⟩:n.1=9∧0≤x.2.2.1∧x.2.2.1≤255:=by
      rcases hk with ⟨h,_⟩ | ⟨h,_⟩ | ⟨_,h⟩
      ·omega
      ·omega
      ·exact h
     obtain ⟨p,q⟩:=hd.one _ n hn (by omega);exact zf1 (zi2 (zea hn p q)) (zf1 (five _ (by omega) (by omega)) hlow)
    ·split
     ·rename_i h8
      obtain ⟨p,q⟩:=hd.one _ n hn (by omega);exact zf1 (zi2 (zea hn p q)) (zf1 (five _ (by omega) (by omega)) hlow)
     ·split
      ·rename_i h9
       refine zf1 ?_ hlow;unfold zfm;simp [hn,h9];omega
      ·split
       ·exact hlow
       ·rfl
theorem step_ok {d:List SNode} (hd:ROk d) {s:List SItem} (hf:zez d s=true) {c:Int} (hc:InR .u8 c):∀u∈zel d c s,zez d u=true∧u.length≤s.length+d.length+1:=by
 intro u hu;obtain ⟨t,h1,h2⟩:=List.mem_filterMap.1 hu;obtain ⟨L,⟨k,hk⟩,hp⟩:=hds_lv hd s hf;obtain ⟨h3,h4⟩:=lv_vs hd (n0:=s.length) k s L hk (Vs.start hf (Nat.le_refl _)) t (hp.mem_iff.2 h1);split at h2
 ·cases h2;have:=h3.len;have:=zlq d t c;exact ⟨form_read hd h3.form h4 hc,by omega⟩
 ·cases h2
theorem ends_ok {d:List SNode} (hd:ROk d):∀(w:List Int) (s:List SItem),(∀c∈w,InR .u8 c)→zez d s=true→∀u∈zdd d w s,zez d u=true∧u.length≤s.length+w.length*(d.length+1)
 | [],s,_,hf,u,hu=>by
  rw [zdd,List.mem_singleton] at hu;subst hu;exact ⟨hf,by simp⟩
 | c::w,s,hw,hf,u,hu=>by
  obtain ⟨t,h1,h2⟩:=List.mem_flatMap.1 hu;obtain ⟨h3,h4⟩:=step_ok hd hf (hw c (by simp)) t h1;obtain ⟨h5,h6⟩:=ends_ok hd w t (fun e he=>hw e (by simp [he])) h3 u h2;refine ⟨h5, ?_⟩;rw [List.length_cons,Nat.succ_mul];omega
theorem hds_mem {d:List SNode} (hd:ROk d) (r:List SItem) (t:List SItem):∀s,t∈hds d (s++r)↔(∃t',t'∈hds d s∧t'≠[]∧t=t'++r)∨([]∈hds d s∧t∈hds d r):=by
 intro s;have h:=ztd hd (fun u=>if u=t then 1 else 0) r s;have cnt1:∀L:List (List SItem),zcl (fun u=>if u=t then 1 else 0) L≠0↔t∈L:=fun L=>by
  induction L with
  | nil=>simp [zcl]
  | cons u L ih=>
   have e:zcl (fun u=>if u=t then 1 else 0) (u::L)=(if u=t then 1 else 0)+zcl (fun u=>if u=t then 1 else 0) L:=by simp [zcl]
   rw [e,List.mem_cons]
   by_cases hu:u=t
   ·subst hu;simp
   ·rw [if_neg hu,Nat.zero_add,ih];constructor
    ·exact .inr
    ·rintro (e | e)
     ·exact absurd e.symm hu
     ·exact e
 have cnt2:∀(G:List SItem→Nat) (L:List (List SItem)),zcl G L≠0↔∃u∈L,G u≠0:=fun G L=>by
  induction L with
  | nil=>simp [zcl]
  | cons u L ih=>
   have e:zcl G (u::L)=G u+zcl G L:=by simp [zcl]
   rw [e];constructor
   ·intro h0
    by_cases hu:G u=0
    ·obtain ⟨v,h1,h2⟩:=ih.1 (by omega);exact ⟨v,by simp [h1],h2⟩
    ·exact ⟨u,by simp,hu⟩
   ·rintro ⟨v,h1,h2⟩;rcases List.mem_cons.1 h1 with rfl | h1
    ·omega
    ·have:=ih.2 ⟨v,h1,h2⟩;omega
 rw [← cnt1,h,cnt2];constructor
 ·rintro ⟨u,h1,h2⟩
  by_cases hu:u=[]
  ·subst hu;simp only [if_true] at h2;exact .inr ⟨h1,(cnt1 _).1 h2⟩
  ·simp only [if_neg hu] at h2
   by_cases he:u++r=t
   ·exact .inl ⟨u,h1,hu,he.symm⟩
   ·rw [if_neg he] at h2;exact absurd rfl h2
 ·rintro (⟨u,h1,hu,rfl⟩ | ⟨h1,h2⟩)
  ·exact ⟨u,h1,by simp only [if_neg hu];simp⟩
  ·exact ⟨[],h1,by simp only [if_true];exact (cnt1 _).2 h2⟩
theorem zd4 {d:List SNode} {c:Int} {s u:List SItem}:u∈zel d c s↔∃t∈hds d s,(zbd d t c).2=true∧(zbd d t c).1=u:=by
 unfold zel;rw [List.mem_filterMap];constructor
 ·rintro ⟨t,h1,h2⟩;split at h2
  ·rename_i h3;cases h2;exact ⟨t,h1,h3,rfl⟩
  ·cases h2
 ·rintro ⟨t,h1,h2,rfl⟩;exact ⟨t,h1,by rw [if_pos h2]⟩
theorem step_app {d:List SNode} (hd:ROk d) {c:Int} {s r u:List SItem} (h:u∈zel d c (s++r)):(∃u',u'∈zel d c s∧(zd9 r).2=true∧u=u'++(zd9 r).1)∨([]∈hds d s∧u∈zel d c r):=by
 obtain ⟨t,h1,h2,rfl⟩:=zd4.1 h;rcases (hds_mem hd r t s).1 h1 with ⟨t',k1,k2,rfl⟩ | ⟨k1,k2⟩
 ·rw [zow k2] at h2 ⊢
  by_cases hc:(zbd d t' c).2=true∧(zd9 r).2=true
  ·rw [if_pos hc];exact .inl ⟨_,zd4.2 ⟨t',k1,hc.1,rfl⟩,hc.2,rfl⟩
  ·rw [if_neg hc] at h2;cases h2
 ·exact .inr ⟨k1,zd4.2 ⟨t,k2,h2,rfl⟩⟩
def Cov (n:Nat) (p:List SItem→Prop):Prop:=∃K:List (List SItem),K.length≤n∧∀u,p u→u∈K
theorem Cov.weak {m n:Nat} {p q:List SItem→Prop} (h:Cov m p) (hm:m≤n) (hq:∀u,q u→p u):Cov n q:=
 let ⟨K,h1,h2⟩:=h
 ⟨K,Nat.le_trans h1 hm,fun u hu=>h2 u (hq u hu)⟩
theorem Cov.none {p:List SItem→Prop} (h:∀u,¬ p u) (n:Nat):Cov n p:=⟨[],Nat.zero_le _,fun u hu=>(h u hu).elim⟩
theorem Cov.one {p:List SItem→Prop} (x:List SItem) (h:∀u,p u→u=x):Cov 1 p:=⟨[x],by simp,fun u hu=>by rw [h u hu];simp⟩
theorem Cov.or {m n:Nat} {p q r:List SItem→Prop} (h:Cov m p) (k:Cov n q) (e:∀u,r u→p u∨q u):Cov (m+n) r:=
 let ⟨K,h1,h2⟩:=h
 let ⟨J,k1,k2⟩:=k
 ⟨K++J,by rw [List.length_append];omega,fun u hu=>by rw [List.mem_append];exact (e u hu).imp (h2 u) (k2 u)⟩
theorem Cov.map {m:Nat} {p r:List SItem→Prop} (f:List SItem→List SItem) (h:Cov m p) (e:∀u,r u→∃t,p t∧u=f t):Cov m r:=
 let ⟨K,h1,h2⟩:=h
 ⟨K.map f,by simpa using h1,fun u hu=>by obtain ⟨t,a,rfl⟩:=e u hu;exact List.mem_map.2 ⟨t,h2 t a,rfl⟩⟩
def sumN (f:Nat→Nat):Nat→Nat
 | 0=>0
 | k+1=>sumN f k+f k
theorem Cov.sum {f:Nat→Nat} {p:Nat→List SItem→Prop}:∀(k:Nat),(∀j,j<k→Cov (f j) (p j))→Cov (sumN f k) (fun u=>∃j,j<k∧p j u)
 | 0,_=>Cov.none (fun u ⟨j,h,_⟩=>by omega) _
 | k+1,h=>(Cov.sum k fun j hj=>h j (by omega)).or (h k (by omega)) fun u ⟨j,hj,hp⟩=>by
  by_cases e:j=k
  ·subst e;exact .inr hp
  ·exact .inl ⟨j,by omega,hp⟩
def pasR (f:Nat→Nat):Nat→Nat
 | 0=>1
 | k+1=>f (k+1)+pasR f k
def pas:Nat→Nat→Nat
 | 0=>fun _=>1
 | m+1=>pasR (pas m)
theorem zkk (m:Nat):pas m 0=1:=by cases m <;> rfl
theorem zms:∀m k:Nat,1≤pas m k
 | 0,_=>Nat.le_refl _
 | m+1,0=>by rw [zkk];exact Nat.le_refl _
 | m+1,k+1=>by
  have:=zms m (k+1);show 1≤pas m (k+1)+pas (m+1) k;omega
theorem pas_up (m k:Nat):pas m k≤pas (m+1) k:=by
 cases k with
 | zero=>rw [zkk,zkk];exact Nat.le_refl _
 | succ k=>exact Nat.le_add_right _ _
theorem pas_mono {m m':Nat} (h:m≤m') (k:Nat):pas m k≤pas m' k:=by
 induction h with
 | refl=>exact Nat.le_refl _
 | step _ ih=>exact Nat.le_trans ih (pas_up _ k)
theorem pas_more (m k:Nat):pas m k≤pas m (k+1):=by
 cases m with
 | zero=>exact Nat.le_refl _
 | succ m=>exact Nat.le_add_left _ _
theorem pas_long (m:Nat) {k k':Nat} (h:k≤k'):pas m k≤pas m k':=by
 induction h with
 | refl=>exact Nat.le_refl _
 | step _ ih=>exact Nat.le_trans ih (pas_more m _)
theorem zst (k:Nat):∀m,sumN (fun i=>pas i k) (m+1)=pas m (k+1)
 | 0=>rfl
 | m+1=>by
  show sumN (fun i=>pas i k) (m+1)+pas (m+1) k=_;rw [zst k m];rfl
theorem sumN_two {g:Nat→Nat} (h:∀i j,i≤j→g i≤g j) (x:Nat):∀y,sumN g x+sumN g y≤sumN g (x+y)
 | 0=>Nat.le_refl _
 | y+1=>by
  have:=sumN_two h x y;have:=h y (x+y) (by omega);show sumN g x+(sumN g y+g y)≤sumN g (x+y)+g (x+y);omega
theorem pas_two (a b k:Nat):pas a (k+1)+pas b (k+1)≤pas (a+b+1) (k+1):=by
 have:=sumN_two (g:=fun i=>pas i k) (fun i j h=>pas_mono h k) (a+1) (b+1);rw [zst,zst,show a+1+(b+1)=(a+b+1)+1 by omega,zst] at this;exact this
theorem zsu (a k:Nat):∀m,m≤k→sumN (fun t=>pas a (k-t)) m+pas (a+1) (k-m)≤pas (a+1) k
 | 0,_=>by rw [Nat.sub_zero];show 0+_≤_;omega
 | m+1,h=>by
  have ih:=zsu a k m (by omega);have e:pas (a+1) (k-m)=pas a (k-m)+pas (a+1) (k-(m+1)):=by
   rw [show k-m=(k-(m+1))+1 by omega];rfl
  show sumN (fun t=>pas a (k-t)) m+pas a (k-m)+_≤_;omega
def fac:Nat→Nat
 | 0=>1
 | n+1=>(n+1)*fac n
theorem fac_pos:∀n,1≤fac n
 | 0=>Nat.le_refl _
 | n+1=>Nat.le_trans (fac_pos n) (Nat.le_mul_of_pos_left _ (by omega))
theorem pas_fac:∀m k:Nat,pas m k*(fac m*fac k)=fac (m+k)
 | 0,k=>by simp [pas,fac]
 | m+1,0=>by rw [zkk];simp [fac]
 | m+1,k+1=>by
  have h1:=pas_fac m (k+1);have h2:=pas_fac (m+1) k;have e1:pas m (k+1)*(fac (m+1)*fac (k+1))=(m+1)*fac (m+(k+1)):=by
   rw [← h1];show pas m (k+1)*((m+1)*fac m*fac (k+1))=_;rw [Nat.mul_assoc (m+1),Nat.mul_left_comm]
  have e2:pas (m+1) k*(fac (m+1)*fac (k+1))=(k+1)*fac (m+1+k):=by
   rw [← h2];show pas (m+1) k*(fac (m+1)*((k+1)*fac k))=_;rw [Nat.mul_left_comm (fac (m+1)),Nat.mul_left_comm]
  show (pas m (k+1)+pas (m+1) k)*_=fac (m+1+(k+1));rw [Nat.add_mul,e1,e2,show m+1+(k+1)=(m+k+1)+1 by omega,show m+(k+1)=m+k+1 by omega,show m+1+k=m+k+1 by omega];show _=(m+k+1+1)*fac (m+k+1);rw [← Nat.add_mul]
  congr 1
  omega
theorem pas_le {m k N:Nat} (h:fac (m+k)≤N*(fac m*fac k)):pas m k≤N:=by
 rw [← pas_fac] at h;exact Nat.le_of_mul_le_mul_right h (Nat.mul_pos (fac_pos m) (fac_pos k))
def Rch (d:List SNode) (s:List SItem) (w:List Int) (u:List SItem):Prop:=∃a v,a++v=w∧v≠[]∧u∈zdd d v s
theorem Rch.none {d:List SNode} {s u:List SItem}:¬ Rch d s [] u:=fun ⟨a,v,h,hv,_⟩=>hv (List.append_eq_nil_iff.1 h).2
theorem zm6 (t:List SItem):∀L:List (List SItem),zcl (fun u=>if u=t then 1 else 0) L≠0↔t∈L
 | []=>by simp [zcl]
 | u::L=>by
  have ih:=zm6 t L;have e:zcl (fun u=>if u=t then 1 else 0) (u::L)=(if u=t then 1 else 0)+zcl (fun u=>if u=t then 1 else 0) L:=by simp [zcl]
  rw [e,List.mem_cons]
  by_cases hu:u=t
  ·subst hu;simp
  ·rw [if_neg hu,Nat.zero_add,ih];constructor
   ·exact .inr
   ·rintro (e | e)
    ·exact absurd e.symm hu
    ·exact e
theorem mem_sum {A B:List (List SItem)} (h:∀F,zcl F A=zcl F B) (t:List SItem):t∈A↔t∈B:=by rw [← zm6,← zm6 t B,h]
theorem mem_sum2 {A B C:List (List SItem)} (h:∀F,zcl F A=zcl F B+zcl F C) (t:List SItem):t∈A↔t∈B∨t∈C:=by rw [← zm6,← zm6 t B,← zm6 t C,h];omega
theorem ends_or {d:List SNode} {s s1 s2 u:List SItem} {v:List Int} (h:∀t,t≠[]→t∈hds d s→t∈hds d s1∨t∈hds d s2) (hv:v≠[]) (hu:u∈zdd d v s):u∈zdd d v s1∨u∈zdd d v s2:=by
 cases v with
 | nil=>exact absurd rfl hv
 | cons c w=>
  obtain ⟨x,h1,h2⟩:=List.mem_flatMap.1 hu;obtain ⟨t,k1,k2,k3⟩:=zd4.1 h1;have hne:t≠[]:=fun e=>by subst e;simp [zbd] at k2
  rcases h t hne k1 with k | k
  ·exact .inl (List.mem_flatMap.2 ⟨x,zd4.2 ⟨t,k,k2,k3⟩,h2⟩)
  ·exact .inr (List.mem_flatMap.2 ⟨x,zd4.2 ⟨t,k,k2,k3⟩,h2⟩)
theorem zij {d:List SNode} {s s1 u:List SItem} {v:List Int} (h:∀t,t≠[]→t∈hds d s→t∈hds d s1) (hv:v≠[]) (hu:u∈zdd d v s):u∈zdd d v s1:=
 (ends_or (s1:=s1) (s2:=s1) (fun t h1 h2=>.inl (h t h1 h2)) hv hu).elim id id
theorem zl5 {d:List SNode} (hd:ROk d):∀(w:List Int) (s r u:List SItem),u∈zdd d w (s++r)→(∃u' r',u'∈zdd d w s∧zpr w.length r=some r'∧u=u'++r')∨∃a b r',w=a++b∧b≠[]∧(a=[]→[]∈hds d s)∧zpr a.length r=some r'∧u∈zdd d b r'
 | [],s,r,u,h=>by
  rw [zdd,List.mem_singleton] at h;exact .inl ⟨s,r,by rw [zdd];exact List.mem_singleton.2 rfl,rfl,h⟩
 | c::w,s,r,u,h=>by
  obtain ⟨t,h1,h2⟩:=List.mem_flatMap.1 h;rcases step_app hd h1 with ⟨t',k1,k2,rfl⟩ | ⟨k1,k2⟩
  ·have el:∀p,zpr (p+1) r=zpr p (zd9 r).1:=fun p=>by
    show (if (zd9 r).2=true then zpr p (zd9 r).1 else none)=_;rw [if_pos k2]
   rcases zl5 hd w t' (zd9 r).1 u h2 with ⟨u',r',j1,j2,j3⟩ | ⟨a,b,r',j1,j2,_,j3,j4⟩
   ·exact .inl ⟨u',r',List.mem_flatMap.2 ⟨t',k1,j1⟩,by rw [List.length_cons,el];exact j2,j3⟩
   ·exact .inr ⟨c::a,b,r',by rw [j1];rfl,j2,(fun h=>by cases h),by rw [List.length_cons,el];exact j3,j4⟩
  ·exact .inr ⟨[],c::w,r,rfl,by simp,fun _=>k1,rfl,List.mem_flatMap.2 ⟨t,k2,h2⟩⟩
theorem zq3 {x:SItem} (h:x.1≠5):NoEnd [x]:=fun y hy=>by rw [List.mem_singleton.1 hy];exact h
theorem pm_ne {d:List SNode} (hd:ROk d) (i:Int):[] ∉ pm d i:=fun h=>pmI_ne hd (1,i,0,0) [] (show []∈pmI d (1,i,0,0) from h) rfl
theorem no_nil {d:List SNode} (hd:ROk d) {i:Int} (h:nw d i=0):[] ∉ hds d [(1,i,0,0)]:=by
 rw [znd,h];simpa using pm_ne hd i
theorem ends_stop {d:List SNode} {m:Int} {b:List Int} {u:List SItem} (hb:b≠[]):u ∉ zdd d b [(5,0,m,0)]:=by
 cases b with
 | nil=>exact absurd rfl hb
 | cons c w=>
  intro h;obtain ⟨t,h1,h2⟩:=List.mem_flatMap.1 h;obtain ⟨t,k1,k2,k3⟩:=zd4.1 h1;have e1:pmI d (5,0,m,0)=[]:=by simp [pmI]
  have e3:hds d [(5,0,m,0)]=(pmI d (5,0,m,0)).map (·++[])++(List.replicate (nwI d (5,0,m,0)) [[]]).flatten:=rfl;rw [e3,e1] at k1;have:t=[]:=by
   simp at k1;exact k1.2
  subst this;simp [zbd] at k2
section
variable {d : List SNode} (hd : ROk d) {i : Int} {n : SNode} (hn : at? d i = some n) {w : List Int} {u : List SItem}
include hd hn
theorem sum_seq (h:n.1=4) (F:List SItem→Nat):zcl F (hds d [(1,i,0,0)])=zcl F (hds d ([(1,n.2.1,0,0)]++[(1,n.2.2.1,0,0)])):=by
 have e:=zkw hd hn;rw [if_neg (by omega),if_neg (by omega),if_pos h] at e;have e1:pm d i=(pm d n.2.1).map (·++[(1,n.2.2.1,0,0)])++(List.replicate (nw d n.2.1) (pm d n.2.2.1)).flatten:=by
  have:pm d i=(PM d d.length i).1:=rfl;rw [this,e]
 have e2:nw d i=nw d n.2.1*nw d n.2.2.1:=by
  have:nw d i=(PM d d.length i).2:=rfl;rw [this,e]
 rw [zdy,List.singleton_append,zh7,zdy,e1,e2,zfe,ze2,zhd,Nat.mul_add,Nat.mul_assoc,Nat.add_assoc]
theorem sum_or (h:n.1=5) (F:List SItem→Nat):zcl F (hds d [(1,i,0,0)])=zcl F (hds d [(1,n.2.1,0,0)])+zcl F (hds d [(1,n.2.2.1,0,0)]):=by
 have e:=zkw hd hn;rw [if_neg (by omega),if_neg (by omega),if_neg (by omega),if_pos h] at e;have e1:pm d i=pm d n.2.1++pm d n.2.2.1:=by
  have:pm d i=(PM d d.length i).1:=rfl;rw [this,e]
 have e2:nw d i=nw d n.2.1+nw d n.2.2.1:=by
  have:nw d i=(PM d d.length i).2:=rfl;rw [this,e]
 rw [zdy,zdy,zdy,e1,e2,zfe,Nat.add_mul];omega
theorem sum_star (h:n.1=6) (F:List SItem→Nat):zcl F (hds d [(1,i,0,0)])=zcl F (hds d [])+zcl F (hds d ([(1,n.2.1,0,0)]++[(1,i,0,0)])):=by
 have e:=zkw hd hn;rw [if_neg (by omega),if_neg (by omega),if_neg (by omega),if_neg (by omega),if_pos h] at e;have e1:pm d i=(pm d n.2.1).map (·++[(1,i,0,0)]):=by
  have:pm d i=(PM d d.length i).1:=rfl;rw [this,e]
 have e2:nw d i=1:=by
  have:nw d i=(PM d d.length i).2:=rfl;rw [this,e]
 have z:=zla hd hn (.inl h);rw [zdy,List.singleton_append,zh7,e1,e2,z,ze2];simp [hds,zcl];omega
def zju (i:Int) (n:SNode) (t:Nat):SItem:=(2,i,max (n.2.2.2.1-t) 0,n.2.2.2.2.1-t)
omit hd hn in
theorem itemT_next (i:Int) (n:SNode) (t:Nat):((2,i,max (max (n.2.2.2.1-(t:Int)) 0-1) 0,n.2.2.2.2.1-(t:Int)-1):SItem)=zju i n (t+1):=by
 unfold zju
 simp only [Prod.mk.injEq,true_and]
 omega
theorem sum_item (h:n.1=7) (lo hi:Int) (F:List SItem→Nat):zcl F (hds d [(2,i,lo,hi)])=(if lo=0 then F [] else 0)+if 0<hi then zcl F (hds d ([(1,n.2.1,0,0)]++[(2,i,max (lo-1) 0,hi-1)])) else 0:=by
 have z:=zla hd hn (.inr h);have e1:pmI d (2,i,lo,hi)=if 0<hi then (pm d n.2.1).map (·++[(2,i,max (lo-1) 0,hi-1)]) else []:=by
  unfold pmI;simp [hn]
 have e2:nwI d (2,i,lo,hi)=if lo=0 then 1 else 0:=by simp [nwI]
 simp only [List.singleton_append];rw [zh7,z];have e3:hds d [(2,i,lo,hi)]=(pmI d (2,i,lo,hi)).map (·++[])++(List.replicate (nwI d (2,i,lo,hi)) [[]]).flatten:=rfl;rw [e3,zfe,zhd,e1,e2,ze2]
 by_cases h0:lo=0
 ·by_cases h1:0<hi
  ·simp only [if_pos h0,if_pos h1,List.append_nil];rw [ze2];simp [zcl];omega
  ·simp only [if_pos h0,if_neg h1];simp [zcl]
 ·by_cases h1:0<hi
  ·simp only [if_neg h0,if_pos h1,List.append_nil];rw [ze2];simp [zcl]
  ·simp only [if_neg h0,if_neg h1];simp [zcl]
theorem sum_rep (h:n.1=7) (F:List SItem→Nat):zcl F (hds d [(1,i,0,0)])=zcl F (hds d [(2,i,n.2.2.2.1,n.2.2.2.2.1)]):=by
 have e:=zkw hd hn;rw [if_neg (by omega),if_neg (by omega),if_neg (by omega),if_neg (by omega),if_neg (by omega),if_pos h] at e;have e1:pm d i=if 0<n.2.2.2.2.1 then (pm d n.2.1).map (·++[(2,i,max (n.2.2.2.1-1) 0,n.2.2.2.2.1-1)]) else []:=by
  have:pm d i=(PM d d.length i).1:=rfl;rw [this,e]
 have e2:nw d i=if n.2.2.2.1=0 then 1 else 0:=by
  have:nw d i=(PM d d.length i).2:=rfl;rw [this,e]
 have e3:pmI d (2,i,n.2.2.2.1,n.2.2.2.2.1)=pm d i:=by rw [e1];unfold pmI;simp [hn]
 have e4:nwI d (2,i,n.2.2.2.1,n.2.2.2.2.1)=nw d i:=by rw [e2];simp [nwI]
 have e5:hds d [(2,i,n.2.2.2.1,n.2.2.2.2.1)]=(pmI d (2,i,n.2.2.2.1,n.2.2.2.2.1)).map (·++[])++(List.replicate (nwI d (2,i,n.2.2.2.1,n.2.2.2.2.1)) [[]]).flatten:=rfl;rw [e5,e3,e4];rfl
theorem rch_seq (h:n.1=4) (hr:Rch d [(1,i,0,0)] w u):(∃t,Rch d [(1,n.2.1,0,0)] w t∧u=t++[(1,n.2.2.1,0,0)])∨Rch d [(1,n.2.2.1,0,0)] w u:=by
 obtain ⟨a,v,e,hv,hu⟩:=hr;have hu':u∈zdd d v ([(1,n.2.1,0,0)]++[(1,n.2.2.1,0,0)]):=zij (fun t _ ht=>(mem_sum (sum_seq hd hn h) t).1 ht) hv hu;rcases zl5 hd _ _ _ _ hu' with ⟨u',r',h1,h2,h3⟩ | ⟨x,b,r',h1,h2,_,h3,h4⟩
 ·rw [zfj (zq3 (by simp))] at h2;cases h2;exact .inl ⟨u',⟨a,v,e,hv,h1⟩,h3⟩
 ·rw [zfj (zq3 (by simp))] at h3;cases h3;exact .inr ⟨a++x,b,by rw [List.append_assoc,← h1,e],h2,h4⟩
theorem rch_or (h:n.1=5) (hr:Rch d [(1,i,0,0)] w u):Rch d [(1,n.2.1,0,0)] w u∨Rch d [(1,n.2.2.1,0,0)] w u:=by
 obtain ⟨a,v,e,hv,hu⟩:=hr;exact (ends_or (fun t _ ht=>(mem_sum2 (sum_or hd hn h) t).1 ht) hv hu).imp (fun k=>⟨a,v,e,hv,k⟩) fun k=>⟨a,v,e,hv,k⟩
theorem zsp (h:n.1=6) (hr:Rch d [(1,i,0,0)] w u):∃t,Rch d [(1,n.2.1,0,0)] w t∧u=t++[(1,i,0,0)]:=by
 obtain ⟨a,v,e,hv,hu⟩:=hr;obtain ⟨k,hk⟩:∃k,v.length≤k:=⟨_,Nat.le_refl _⟩
 induction k generalizing a v with
 | zero=>exact absurd (List.length_eq_zero_iff.1 (by omega)) hv
 | succ k ih=>
  have hu':u∈zdd d v ([(1,n.2.1,0,0)]++[(1,i,0,0)]):=zij (fun t ht h1=>((mem_sum2 (sum_star hd hn h) t).1 h1).resolve_left fun h2=>ht (by simpa [hds] using h2)) hv hu;rcases zl5 hd _ _ _ _ hu' with ⟨u',r',h1,h2,h3⟩ | ⟨x,b,r',h1,h2,h5,h3,h4⟩
  ·rw [zfj (zq3 (by simp))] at h2;cases h2;exact ⟨u',⟨a,v,e,hv,h1⟩,h3⟩
  ·rw [zfj (zq3 (by simp))] at h3;cases h3;have hx:x≠[]:=fun ex=>no_nil hd (zla hd hn (.inl h)) (h5 ex);have:=List.length_pos_iff.2 hx;have:=congrArg List.length h1;rw [List.length_append] at this;exact ih (a++x) b (by rw [List.append_assoc,← h1,e]) h2 h4 (by omega)
theorem ends_item (h:n.1=7):∀(k:Nat) (v:List Int) (t:Nat) (u:List SItem),v.length≤k→v≠[]→u∈zdd d v [zju i n t]→∃(t':Nat) (x b:List Int) (u':List SItem),v=x++b∧b≠[]∧t'≤x.length∧(t:Int)+t' < n.2.2.2.2.1∧u'∈zdd d b [(1,n.2.1,0,0)]∧u=u'++[zju i n (t+t'+1)]
 | 0,v,t,u,hk,hv,hu=>absurd (List.length_eq_zero_iff.1 (by omega)) hv
 | k+1,v,t,u,hk,hv,hu=>by
  have hs:=sum_item hd hn h (max (n.2.2.2.1-(t:Int)) 0) (n.2.2.2.2.1-(t:Int))
  by_cases hi:0<n.2.2.2.2.1-(t:Int)
  ·have hu':u∈zdd d v ([(1,n.2.1,0,0)]++[zju i n (t+1)]):=by
    refine zij (fun z hz h1=>?_) hv hu;rw [← zm6] at h1 ⊢;have e1:hds d [zju i n t]=hds d [(2,i,max (n.2.2.2.1-(t:Int)) 0,n.2.2.2.2.1-(t:Int))]:=rfl;rw [e1,hs,if_pos hi,itemT_next] at h1;have e0:(if ([]:List SItem)=z then 1 else 0)=0:=if_neg fun e=>hz e.symm;rw [e0] at h1;have e00:(if max (n.2.2.2.1-(t:Int)) 0=0 then 0 else 0)=0:=by split <;> rfl
    rw [e00,Nat.zero_add] at h1;exact h1
   rcases zl5 hd _ _ _ _ hu' with ⟨u',r',h1,h2,h3⟩ | ⟨x,b,r',h1,h2,h5,h3,h4⟩
   ·rw [zfj (zq3 (by simp [zju]))] at h2;cases h2;exact ⟨0,[],v,u',rfl,hv,Nat.le_refl _,by omega,h1,h3⟩
   ·rw [zfj (zq3 (by simp [zju]))] at h3;cases h3;have hx:x≠[]:=fun ex=>no_nil hd (zla hd hn (.inr h)) (h5 ex);have hx0:=List.length_pos_iff.2 hx;have hl:=congrArg List.length h1;rw [List.length_append] at hl;obtain ⟨t',y,c,u',j1,j2,j3,j4,j5,j6⟩:=ends_item h k b (t+1) u (by omega) h2 h4;refine ⟨t'+1,x++y,c,u',by rw [h1,j1,List.append_assoc],j2,by rw [List.length_append];omega,by omega,j5, ?_⟩;rw [j6,show t+1+t'+1=t+(t'+1)+1 by omega]
  ·exfalso;have:u∈zdd d v []:=by
    refine zij (fun z hz h1=>?_) hv hu;rw [← zm6] at h1;have e1:hds d [zju i n t]=hds d [(2,i,max (n.2.2.2.1-(t:Int)) 0,n.2.2.2.2.1-(t:Int))]:=rfl;rw [e1,hs,if_neg hi] at h1;have e0:(if ([]:List SItem)=z then 1 else 0)=0:=if_neg fun e=>hz e.symm;rw [e0] at h1;have e00:(if max (n.2.2.2.1-(t:Int)) 0=0 then 0 else 0)=0:=by split <;> rfl
    rw [e00] at h1;exact absurd rfl h1
   cases v with
   | nil=>exact hv rfl
   | cons c v=>
    obtain ⟨x,h1,h2⟩:=List.mem_flatMap.1 this;obtain ⟨z,k1,k2,k3⟩:=zd4.1 h1;have:z=[]:=by simpa [hds] using k1
    subst this;simp [zbd] at k2
theorem zsq (h:n.1=7) (hr:Rch d [(1,i,0,0)] w u):∃t:Nat,t<w.length∧(t:Int)<n.2.2.2.2.1∧∃u',Rch d [(1,n.2.1,0,0)] (w.drop t) u'∧u=u'++[zju i n (t+1)]:=by
 obtain ⟨a,v,e,hv,hu⟩:=hr;have hb:=hd.rep _ n hn h;have hu':u∈zdd d v [zju i n 0]:=by
  refine zij (fun t _ ht=>?_) hv hu;have h1:=(mem_sum (sum_rep hd hn h) t).1 ht;have:zju i n 0=(2,i,n.2.2.2.1,n.2.2.2.2.1):=by
   unfold zju;simp only [Prod.mk.injEq,true_and];omega
  rw [this];exact h1
 obtain ⟨t,x,b,u',h1,h2,h3,h4,h5,h6⟩:=ends_item hd hn h v.length v 0 u (Nat.le_refl _) hv hu';have hb0:=List.length_pos_iff.2 h2;have e1:w=(a++x)++b:=by rw [List.append_assoc,← h1,e]
 have hl:w.length=(a++x).length+b.length:=by rw [e1,List.length_append]
 have hal:x.length≤(a++x).length:=by rw [List.length_append];omega
 refine ⟨t,by omega,by omega,u',⟨(a++x).drop t,b, ?_,h2,h5⟩,by rw [h6,Nat.zero_add]⟩;rw [e1];exact (List.drop_append_of_le_length (l₁:=a++x) (by omega)).symm
omit hn in
theorem ends_held {A c:Int} (hc:0≤c) (hw:w≠[]) (hu:u∈zdd d w [(1,A,0,0),(5,0,c,0)]):∃u',u'∈zdd d w [(1,A,0,0)]∧u=u'++[(5,0,c-w.length,0)]:=by
 have e:([(1,A,0,0),(5,0,c,0)]:List SItem)=[(1,A,0,0)]++[(5,0,c,0)]:=rfl
 rw [e] at hu
 rcases zl5 hd _ _ _ _ hu with ⟨u',r',h1,h2,h3⟩ | ⟨x,b,r',h1,h2,h5,h3,h4⟩
 ·rw [zn2 c hc] at h2
  split at h2
  ·cases h2
   exact ⟨u',h1,h3⟩
  ·cases h2
 ·rw [zn2 c hc] at h3
  split at h3
  ·cases h3
   exact absurd h4 (ends_stop h2)
  ·cases h3
omit hd hn in
theorem zof {a:List Int} {c:Int} {v:List Int} (e:a++c::v=w):w.drop (a.length+1)=v∧w.getD a.length 0=c∧w.length=a.length+1+v.length:=by
 subst e
 refine ⟨?_,by simp,by simp;omega⟩
 rw [show a.length+1=(a++[c]).length by simp,show a++c::v=(a++[c])++v by simp,List.drop_left]
theorem rch_frame (h:n.1=8) (hw:∀c∈w,0≤c) (hr:Rch d [(1,i,0,0)] w u):u=[(1,n.2.1,0,0),(5,0,w.getD (w.length-1) 0,0)]∨∃p:Nat,p<w.length-1∧∃u',Rch d [(1,n.2.1,0,0)] (w.drop (p+1)) u'∧u=u'++[(5,0,w.getD p 0-((w.length-(p+1):Nat):Int),0)]:=by
 obtain ⟨a,v,e,hv,hu⟩:=hr;cases v with
 | nil=>exact absurd rfl hv
 | cons c v=>
  obtain ⟨x,h1,h2⟩:=List.mem_flatMap.1 hu;obtain ⟨z,k1,k2,k3⟩:=zd4.1 h1;obtain ⟨e1,e2⟩:=znz hd hn (.inr (.inl h));have e3:hds d [(1,i,0,0)]=[[(1,i,0,0)]]:=by rw [znd,e1,e2];rfl
  rw [e3,List.mem_singleton] at k1;subst k1;have er:zbd d [(1,i,0,0)] c=([(1,n.2.1,0,0),(5,0,c,0)],true):=by
   unfold zbd;simp only [hn];rw [if_neg (by simp [zd9]),if_neg (by decide),if_neg (by decide),if_pos h];rfl
  rw [er] at k3;simp only at k3;subst k3;obtain ⟨f1,f2,f3⟩:=zof e;have hc:0≤c:=hw c (by rw [← e];simp);cases v with
  | nil=>
   left;rw [zdd,List.mem_singleton] at h2;have:w.length-1=a.length:=by rw [f3];simp
   rw [h2,this,f2]
  | cons b v=>
   right;obtain ⟨u',j1,j2⟩:=ends_held hd hc (by simp) h2;refine ⟨a.length,by rw [f3];simp only [List.length_cons];omega,u',⟨[],b::v,by rw [f1];rfl,by simp,j1⟩, ?_⟩;rw [j2,f2]
   congr 5
   rw [f3];omega
theorem zsn (h:n.1=9) (hw:∀c∈w,0≤c) (hr:Rch d [(1,i,0,0)] w u):u=[(4,i,w.getD (w.length-1) 0,0)]∨u=[(1,n.2.1,0,0),(5,0,256*w.getD (w.length-2) 0+w.getD (w.length-1) 0,0)]∧2≤w.length ∨
  ∃p:Nat,p<w.length-2∧∃u',Rch d [(1,n.2.1,0,0)] (w.drop (p+2)) u'∧u=u'++[(5,0,256*w.getD p 0+w.getD (p+1) 0-((w.length-(p+2):Nat):Int),0)]:=by
 obtain ⟨a,v,e,hv,hu⟩:=hr;cases v with
 | nil=>exact absurd rfl hv
 | cons c v=>
  obtain ⟨x,h1,h2⟩:=List.mem_flatMap.1 hu;obtain ⟨z,k1,k2,k3⟩:=zd4.1 h1;obtain ⟨e1,e2⟩:=znz hd hn (.inr (.inr h));have e3:hds d [(1,i,0,0)]=[[(1,i,0,0)]]:=by rw [znd,e1,e2];rfl
  rw [e3,List.mem_singleton] at k1;subst k1;have er:zbd d [(1,i,0,0)] c=([(4,i,c,0)],true):=by
   unfold zbd;simp only [hn];rw [if_neg (by simp [zd9]),if_neg (by decide),if_neg (by decide),if_neg (by omega),if_pos h];rfl
  rw [er] at k3;simp only at k3;subst k3;obtain ⟨f1,f2,f3⟩:=zof e;have hc:0≤c:=hw c (by rw [← e];simp);cases v with
  | nil=>
   left;rw [zdd,List.mem_singleton] at h2;have:w.length-1=a.length:=by rw [f3];simp
   rw [h2,this,f2]
  | cons b v=>
   right;have hb:0≤b:=hw b (by rw [← e];simp);obtain ⟨x,h1,h2⟩:=List.mem_flatMap.1 h2;obtain ⟨z,k1,k2,k3⟩:=zd4.1 h1;have e4:hds d [(4,i,c,0)]=[[(4,i,c,0)]]:=by
    have e1:pmI d (4,i,c,0)=[[(4,i,c,0)]]:=by simp [pmI]
    have e2:nwI d (4,i,c,0)=0:=by simp [nwI]
    have e3:hds d [(4,i,c,0)]=(pmI d (4,i,c,0)).map (·++[])++(List.replicate (nwI d (4,i,c,0)) [[]]).flatten:=rfl;rw [e3,e1,e2];rfl
   rw [e4,List.mem_singleton] at k1;subst k1;have er:zbd d [(4,i,c,0)] b=([(1,n.2.1,0,0),(5,0,256*c+b,0)],true):=by
    unfold zbd;simp only [hn];rw [if_neg (by simp [zd9]),if_neg (by decide),if_pos trivial];rfl
   rw [er] at k3;simp only at k3;subst k3;have e':(a++[c])++b::v=w:=by rw [← e];simp
   obtain ⟨g1,g2,g3⟩:=zof e';have hal:(a++[c]).length=a.length+1:=by simp
   rw [hal] at g1 g2 g3;cases v with
   | nil=>
    left;rw [zdd,List.mem_singleton] at h2;have t1:w.length-1=a.length+1:=by rw [g3];simp
    have t2:w.length-2=a.length:=by rw [g3];simp
    refine ⟨by rw [h2,t1,t2,f2,g2],by rw [g3];omega⟩
   | cons q v=>
    right;obtain ⟨u',j1,j2⟩:=ends_held hd (by omega) (by simp) h2;refine ⟨a.length,by rw [g3];simp only [List.length_cons];omega,u',⟨[],q::v,by rw [g1];rfl,by simp,j1⟩, ?_⟩;rw [j2,f2,g2]
    congr 5
    rw [g3];omega
theorem zoy (h:n.1=2) (hr:Rch d [(1,i,0,0)] w u):u=[]:=by
 obtain ⟨a,v,e,hv,hu⟩:=hr;cases v with
 | nil=>exact absurd rfl hv
 | cons c v=>
  obtain ⟨x,h1,h2⟩:=List.mem_flatMap.1 hu;obtain ⟨z,k1,k2,k3⟩:=zd4.1 h1;obtain ⟨e1,e2⟩:=znz hd hn (.inl h);have e3:hds d [(1,i,0,0)]=[[(1,i,0,0)]]:=by rw [znd,e1,e2];rfl
  rw [e3,List.mem_singleton] at k1;subst k1;have er:zbd d [(1,i,0,0)] c=if n.2.2.2.2.2.1.has c.toNat=true then ([],true) else ([],false):=by
   unfold zbd;simp only [hn];rw [if_neg (by simp [zd9]),if_neg (by decide),if_neg (by decide),if_neg (by omega),if_neg (by omega)];rfl
  have ex:x=[]:=by rw [← k3,er];split <;> rfl
  subst ex;cases v with
  | nil=>rwa [zdd,List.mem_singleton] at h2
  | cons b v=>
   obtain ⟨x,h1,h2⟩:=List.mem_flatMap.1 h2;obtain ⟨z,k1,k2,k3⟩:=zd4.1 h1;have:z=[]:=by simpa [hds] using k1
   subst this;simp [zbd] at k2
theorem zox (h:n.1=1):¬ Rch d [(1,i,0,0)] w u:=by
 rintro ⟨a,v,e,hv,hu⟩;cases v with
 | nil=>exact absurd rfl hv
 | cons c v=>
  obtain ⟨x,h1,h2⟩:=List.mem_flatMap.1 hu;obtain ⟨z,k1,k2,k3⟩:=zd4.1 h1;have e:=zkw hd hn;rw [if_pos h] at e;have e1:pm d i=[]:=by unfold pm;rw [e]
  rw [znd,e1] at k1;have:z=[]:=by simp at k1;exact k1.2
  subst this;simp [zbd] at k2
omit hd in
theorem ends_text:∀(v:List Int) (lo:Nat) (u:List SItem),u∈zdd d v [(3,i,(lo:Int),0)]→lo<n.2.2.2.2.2.2.length→lo+v.length≤n.2.2.2.2.2.2.length∧u=if lo+v.length<n.2.2.2.2.2.2.length then [(3,i,((lo+v.length:Nat):Int),0)] else []
 | [],lo,u,hu,hlo=>by
  rw [zdd,List.mem_singleton] at hu
  rw [List.length_nil,Nat.add_zero,if_pos hlo]
  exact ⟨by omega,hu⟩
 | c::v,lo,u,hu,hlo=>by
  obtain ⟨x,h1,h2⟩:=List.mem_flatMap.1 hu
  obtain ⟨z,k1,k2,k3⟩:=zd4.1 h1
  have e4:hds d [(3,i,(lo:Int),0)]=[[(3,i,(lo:Int),0)]]:=by
   have e1:pmI d (3,i,(lo:Int),0)=[[(3,i,(lo:Int),0)]]:=by simp [pmI]
   have e2:nwI d (3,i,(lo:Int),0)=0:=by simp [nwI]
   have e3:hds d [(3,i,(lo:Int),0)]=(pmI d (3,i,(lo:Int),0)).map (·++[])++(List.replicate (nwI d (3,i,(lo:Int),0)) [[]]).flatten:=rfl
   rw [e3,e1,e2];rfl
  rw [e4,List.mem_singleton] at k1
  subst k1
  have hr:zbd d [(3,i,(lo:Int),0)] c=if zej n.2.2.2.2.2.2 (lo:Int)=some c then (if (lo:Int)+1<(n.2.2.2.2.2.2.length:Int) then [(3,i,(lo:Int)+1,0)] else [],true) else ([],false):=by
   unfold zbd
   simp only [hn]
   rw [if_neg (by simp [zd9]),if_pos trivial]
   split
   ·split <;> rfl
   ·rfl
  have hb:zej n.2.2.2.2.2.2 (lo:Int)=some c:=by
   rcases Classical.em (zej n.2.2.2.2.2.2 (lo:Int)=some c) with h | h
   ·exact h
   ·rw [hr,if_neg h] at k2;cases k2
  rw [hr,if_pos hb] at k3
  simp only at k3
  by_cases hl:lo+1<n.2.2.2.2.2.2.length
  ·rw [if_pos (by omega)] at k3
   have ex:x=[(3,i,((lo+1:Nat):Int),0)]:=by rw [← k3];congr 1
   rw [ex] at h2
   obtain ⟨j1,j2⟩:=ends_text v (lo+1) u h2 hl
   rw [List.length_cons,show lo+(v.length+1)=lo+1+v.length by omega]
   exact ⟨j1,j2⟩
  ·rw [if_neg (by omega)] at k3
   subst k3
   cases v with
   | nil=>
    rw [zdd,List.mem_singleton] at h2
    simp only [List.length_cons,List.length_nil]
    rw [if_neg (by omega)]
    exact ⟨by omega,h2⟩
   | cons b v=>
    exfalso
    obtain ⟨x,h1,h2⟩:=List.mem_flatMap.1 h2
    obtain ⟨z,k1,k2,k3⟩:=zd4.1 h1
    have:z=[]:=by simpa [hds] using k1
    subst this
    simp [zbd] at k2
theorem zso (h:n.1=3) (hr:Rch d [(1,i,0,0)] w u):∃k:Nat,k<w.length∧k<n.2.2.2.2.2.2.length∧u=if k+1<n.2.2.2.2.2.2.length then [(3,i,((k+1:Nat):Int),0)] else []:=by
 obtain ⟨a,v,e,hv,hu⟩:=hr;have hlo:0<n.2.2.2.2.2.2.length:=List.length_pos_iff.2 (hd.ntx _ n hn h);have e0:=zkw hd hn;rw [if_neg (by omega),if_pos h] at e0;have e1:pm d i=[[(3,i,0,0)]]:=by
  have:pm d i=(PM d d.length i).1:=rfl;rw [this,e0]
 have e2:nw d i=0:=by
  have:nw d i=(PM d d.length i).2:=rfl;rw [this,e0]
 have hu':u∈zdd d v [(3,i,((0:Nat):Int),0)]:=by
  refine zij (fun t _ ht=>?_) hv hu;rw [znd,e1,e2] at ht;have e3:pmI d (3,i,((0:Nat):Int),0)=[[(3,i,0,0)]]:=by simp [pmI]
  have e4:nwI d (3,i,((0:Nat):Int),0)=0:=by simp [nwI]
  have e5:hds d [(3,i,((0:Nat):Int),0)]=(pmI d (3,i,((0:Nat):Int),0)).map (·++[])++(List.replicate (nwI d (3,i,((0:Nat):Int),0)) [[]]).flatten:=rfl;rw [e5,e3,e4];simpa using ht
 obtain ⟨h1,h2⟩:=ends_text hn v 0 u hu' hlo;have hv0:=List.length_pos_iff.2 hv;have hl:=congrArg List.length e;rw [List.length_append] at hl;refine ⟨v.length-1,by omega,by omega, ?_⟩;rw [h2,show 0+v.length=v.length-1+1 by omega]
end
theorem cov_pas {d:List SNode} (hd:ROk d) {f i:Int} (h:Tr d f i):∀w:List Int,(∀c∈w,0≤c)→Cov (pas (i-f+1).toNat w.length) (Rch d [(1,i,0,0)] w):=by
 induction h with
 | leaf he hk hx h0=>
  rename_i i e
  intro w hw;have em:(i-i+1).toNat=1:=by omega
  rw [em];rcases hk with k | k | k
  ·exact Cov.none (fun u=>zox hd he k) _
  ·exact (Cov.one [] fun u hu=>zoy hd he k hu).weak (zms _ _) fun _ h=>h
  ·have:Cov (sumN (fun _=>1) w.length) (Rch d [(1,i,0,0)] w):=by
    refine (Cov.sum (p:=fun j u=>u=if j+1<e.2.2.2.2.2.2.length then [(3,i,((j+1:Nat):Int),0)] else []) w.length fun j hj=>Cov.one _ fun u hu=>hu).weak (Nat.le_refl _) fun u hu=>?_;obtain ⟨j,h1,_,h2⟩:=zso hd he k hu;exact ⟨j,h1,h2⟩
   refine this.weak ?_ fun _ h=>h;have e1:∀k,sumN (fun _=>1) k=k:=fun k=>by
    induction k with
    | zero=>rfl
    | succ k ih=>show sumN (fun _=>1) k+1=_;rw [ih]
   have e2:∀k,pas 1 k=k+1:=fun k=>by
    induction k with
    | zero=>rfl
    | succ k ih=>show 1+pas 1 k=_;rw [ih];omega
   rw [e1,e2];omega
 | one he hk ha hb hr h ih=>
  rename_i f i e
  intro w hw;have hle:=h.le;cases w with
  | nil=>exact Cov.none (fun u=>Rch.none) _
  | cons c0 w0=>
   generalize hwe:c0::w0=w at hw ⊢;have hl:1≤w.length:=by rw [← hwe];simp
   obtain ⟨m,hm⟩:∃m:Nat,(i-1-f+1).toNat=m:=⟨_,rfl⟩;have em:(i-f+1).toNat=m+1:=by omega
   rw [hm] at ih;rw [em];have hdr:∀p,∀c∈w.drop p,0≤c:=fun p c hc=>hw c (List.mem_of_mem_drop hc);rcases hk with k | k | k | k
   ·refine ((ih w hw).map (·++[(1,i,0,0)]) fun u hu=>?_).weak (pas_up _ _) fun _ h=>h;have:=zsp hd he k hu;rw [ha] at this;exact this
   ·have:=Cov.sum (f:=fun t=>pas m (w.length-t)) (p:=fun t u=>∃u',Rch d [(1,i-1,0,0)] (w.drop t) u'∧u=u'++[zju i e (t+1)]) w.length fun t ht=>by
     have h1:=ih (w.drop t) (hdr t);rw [List.length_drop] at h1;exact h1.map (·++[zju i e (t+1)]) fun u hu=>hu
    refine this.weak ?_ fun u hu=>?_
    ·have:=zsu m w.length w.length (Nat.le_refl _);omega
    ·obtain ⟨t,h1,_,h2⟩:=zsq hd he k hu;rw [ha] at h2;exact ⟨t,h1,h2⟩
   ·have:=Cov.sum (f:=fun p=>pas m (w.length-1-p)) (p:=fun p u=>∃u',Rch d [(1,i-1,0,0)] (w.drop (p+1)) u'∧u=u'++[(5,0,w.getD p 0-((w.length-(p+1):Nat):Int),0)]) (w.length-1) fun p hp=>by
     have h1:=ih (w.drop (p+1)) (hdr _);rw [List.length_drop,show w.length-(p+1)=w.length-1-p by omega] at h1;exact h1.map (·++[(5,0,w.getD p 0-((w.length-(p+1):Nat):Int),0)]) fun u hu=>hu
    refine ((Cov.one [(1,i-1,0,0),(5,0,w.getD (w.length-1) 0,0)] (p:=fun u=>u=[(1,i-1,0,0),(5,0,w.getD (w.length-1) 0,0)]) fun u hu=>hu).or this fun u hu=>?_).weak ?_ fun _ h=>h
    ·have:=rch_frame hd he k hw hu;rw [ha] at this;exact this
    ·have h1:=zsu m (w.length-1) (w.length-1) (Nat.le_refl _);rw [Nat.sub_self,zkk] at h1;have h2:=pas_long (m+1) (Nat.sub_le w.length 1);omega
   ·have:=Cov.sum (f:=fun p=>pas m (w.length-2-p)) (p:=fun p u=>∃u',Rch d [(1,i-1,0,0)] (w.drop (p+2)) u'∧u=u'++[(5,0,256*w.getD p 0+w.getD (p+1) 0-((w.length-(p+2):Nat):Int),0)]) (w.length-2) fun p hp=>by
     have h1:=ih (w.drop (p+2)) (hdr _);rw [List.length_drop,show w.length-(p+2)=w.length-2-p by omega] at h1;exact h1.map (·++[(5,0,256*w.getD p 0+w.getD (p+1) 0-((w.length-(p+2):Nat):Int),0)]) fun u hu=>hu
    by_cases h2:2≤w.length
    ·have c1:=(Cov.one [(4,i,w.getD (w.length-1) 0,0)] (p:=fun u=>u=[(4,i,w.getD (w.length-1) 0,0)]) fun u hu=>hu);have c2:=(Cov.one [(1,i-1,0,0),(5,0,256*w.getD (w.length-2) 0+w.getD (w.length-1) 0,0)] (p:=fun u=>u=[(1,i-1,0,0),(5,0,256*w.getD (w.length-2) 0+w.getD (w.length-1) 0,0)]) fun u hu=>hu);refine (c1.or (c2.or this fun u hu=>hu) fun u hu=>?_).weak ?_ fun _ h=>h
     ·have:=zsn hd he k hw hu;rw [ha] at this;exact this.imp id fun h=>h.imp (fun h=>h.1) id
     ·have h1:=zsu m (w.length-2) (w.length-2) (Nat.le_refl _);rw [Nat.sub_self,zkk] at h1;have e1:pas (m+1) (w.length-1)=pas m (w.length-1)+pas (m+1) (w.length-2):=by
       rw [show w.length-1=(w.length-2)+1 by omega];rfl
      have e2:pas (m+1) w.length=pas m w.length+pas (m+1) (w.length-1):=by
       obtain ⟨q,hq⟩:∃q,w.length=q+1:=⟨w.length-1,by omega⟩;rw [hq];rfl
      have:=zms m (w.length-1);have:=zms m w.length;omega
    ·refine ((Cov.one [(4,i,w.getD (w.length-1) 0,0)]) fun u hu=>?_).weak (zms _ _) fun _ h=>h;rcases zsn hd he k hw hu with h1 | ⟨_,h1⟩ | ⟨p,h1,_⟩
     ·exact h1
     ·exact absurd h1 h2
     ·omega
 | two he hk ha hb h1 h2 i1 i2=>
  rename_i f p i e
  intro w hw;have l1:=h1.le;have l2:=h2.le;cases w with
  | nil=>exact Cov.none (fun u=>Rch.none) _
  | cons c0 w0=>
   generalize hwe:c0::w0=w at hw ⊢;have hl:w.length=w0.length+1:=by rw [← hwe];simp
   have j1:=i1 w hw;have j2:=i2 w hw;have hs:pas (p-1-f+1).toNat w.length+pas (i-1-p+1).toNat w.length≤pas (i-f+1).toNat w.length:=by
    have:=pas_two (p-1-f+1).toNat (i-1-p+1).toNat w0.length;rw [← hl,show (p-1-f+1).toNat+(i-1-p+1).toNat+1=(i-f+1).toNat by omega] at this;exact this
   rcases hk with k | k
   ·refine ((j2.map (·++[(1,i-1,0,0)]) (r:=fun u=>∃t,Rch d [(1,p-1,0,0)] w t∧u=t++[(1,i-1,0,0)]) fun u hu=>hu).or j1 fun u hu=>?_).weak hs fun _ h=>h;have:=rch_seq hd he k hu;rw [ha,hb] at this;exact this
   ·refine (j2.or j1 fun u hu=>?_).weak hs fun _ h=>h;have:=rch_or hd he k hu;rw [ha,hb] at this;exact this
theorem after_cov {d:List SNode} (h:Rt d) {w:List Int} (hw:∀c∈w,0≤c):Cov (pas d.length w.length) (fun u=>u∈zdd d w [(1,(d.length:Int)-1,0,0)]):=by
 cases w with
 | nil=>
  refine (Cov.one [(1,(d.length:Int)-1,0,0)] fun u hu=>?_).weak (zms _ _) fun _ h=>h
  rwa [zdd,List.mem_singleton] at hu
 | cons c w=>
  refine (cov_pas h.toROk h.tr (c::w) hw).weak ?_ fun u hu=>⟨[],c::w,rfl,by simp,hu⟩;have:((d.length:Int)-1-0+1).toNat=d.length:=by omega
  rw [this];exact Nat.le_refl _
end Go.Proofs.YtahgmdbioafmbaaGreatDoor.V
namespace Go.Proofs.YtahgmdbioafmbaaGreatDoor.V
open Go
set_option linter.unusedVariables false
theorem rch_len {d:List SNode} (hd:ROk d) {f i:Int} (h:Tr d f i):∀(w:List Int) (u:List SItem),(∀c∈w,0≤c)→Rch d [(1,i,0,0)] w u→u.length≤(i-f+1).toNat:=by
 induction h with
 | leaf he hk hx h0=>
  rename_i i e
  intro w u hw hu;rcases hk with k | k | k
  ·exact absurd hu (zox hd he k)
  ·rw [zoy hd he k hu];simp
  ·obtain ⟨j,_,_,h2⟩:=zso hd he k hu;rw [h2];split <;> simp
 | one he hk ha hb hr h ih=>
  rename_i f i e
  intro w u hw hu;have hle:=h.le;have hdr:∀p,∀c∈w.drop p,0≤c:=fun p c hc=>hw c (List.mem_of_mem_drop hc);rcases hk with k | k | k | k
  ·obtain ⟨t,h1,rfl⟩:=zsp hd he k hu;rw [ha] at h1;have:=ih w t hw h1;simp;omega
  ·obtain ⟨t,_,_,u',h1,rfl⟩:=zsq hd he k hu;rw [ha] at h1;have:=ih _ u' (hdr t) h1;simp;omega
  ·rcases rch_frame hd he k hw hu with rfl | ⟨p,_,u',h1,rfl⟩
   ·simp;omega
   ·rw [ha] at h1;have:=ih _ u' (hdr _) h1;simp;omega
  ·rcases zsn hd he k hw hu with rfl | ⟨rfl,_⟩ | ⟨p,_,u',h1,rfl⟩
   ·simp;omega
   ·simp;omega
   ·rw [ha] at h1;have:=ih _ u' (hdr _) h1;simp;omega
 | two he hk ha hb h1 h2 i1 i2=>
  rename_i f p i e
  intro w u hw hu;have l1:=h1.le;have l2:=h2.le;rcases hk with k | k
  ·rcases rch_seq hd he k hu with ⟨t,h1,rfl⟩ | h1
   ·rw [ha] at h1;have:=i2 w t hw h1;simp;omega
   ·rw [hb] at h1;have:=i1 w u hw h1;omega
  ·rcases rch_or hd he k hu with h1 | h1
   ·rw [ha] at h1;have:=i2 w u hw h1;omega
   ·rw [hb] at h1;have:=i1 w u hw h1;omega
theorem after_sm {d:List SNode} (h:Rt d) (hl:d.length≤24) (ht:∀n∈d,n.2.2.2.2.2.2.length≤140737488351232) {w:List Int} (hw:∀c∈w,InR .u8 c) {u:List SItem} (hu:u∈zdd d w [(1,(d.length:Int)-1,0,0)]):Sm d u∧u.length≤24:=by
 have hpos:0<d.length:=List.length_pos_iff.2 h.ne;have hsome:∃n,at? d ((d.length:Int)-1)=some n:=by
  have e:(d.length:Int)-1=((d.length-1:Nat):Int):=by omega
  rw [e,zbw];exact ⟨_,List.getElem?_eq_getElem (show d.length-1<d.length by omega)⟩
 have hf:zez d [(1,(d.length:Int)-1,0,0)]=true:=zf1 (zi2 hsome) rfl;have hform:=(ends_ok h.toROk w _ hw hf u hu).1;have hlen:u.length≤24:=by
  cases w with
  | nil=>
   rw [zdd,List.mem_singleton] at hu;subst hu;simp
  | cons c w=>
   have:=rch_len h.toROk h.tr (c::w) u (fun c' hc'=>(zge.1 (hw c' hc')).1) ⟨[],c::w,rfl,by simp,hu⟩;omega
 exact ⟨⟨h,hl,ht,hform,by omega⟩,hlen⟩
theorem on_step {d:List SNode} {s:List SItem} (h:Sm d s) {c:Int} (hc:InR .u8 c):∃o,zby d s c o∧zde d s c o∧Can (fun t=>(zel d c s).count t) o:=by
 obtain ⟨B,R,_,b3,o1,o2,o3⟩:=on_both h hc;exact ⟨R,o1,o2,o3.congr fun t=>fB_step b3 c t⟩
abbrev Rs (l:List (List SItem)):Prop:=l.Pairwise (fun a b=>zfd a b<0)
def insS (t:List SItem):List (List SItem)→List (List SItem)
 | []=>[t]
 | c::l=>if zfd t c<0 then t::c::l else if zfd t c=0 then c::l else c::insS t l
def zir (L:List (List SItem)):List (List SItem):=L.foldr insS []
theorem zta {t u:List SItem}:∀{l:List (List SItem)},u∈insS t l↔u=t∨u∈l
 | []=>by simp [insS]
 | c::l=>by
  unfold insS;split
  ·simp
  ·split
   ·rename_i h
    rw [zen.1 h];simp
   ·rw [List.mem_cons,zta,List.mem_cons];constructor
    ·rintro (h | h | h)
     ·exact .inr (.inl h)
     ·exact .inl h
     ·exact .inr (.inr h)
    ·rintro (h | h | h)
     ·exact .inr (.inl h)
     ·exact .inl h
     ·exact .inr (.inr h)
theorem insS_srt {t:List SItem}:∀{l:List (List SItem)},Rs l→Rs (insS t l)
 | [],_=>by simp [insS]
 | c::l,h=>by
  unfold insS;have h':=List.pairwise_cons.1 h;split
  ·rename_i h1
   exact List.pairwise_cons.2 ⟨fun x hx=>(List.mem_cons.1 hx).elim (fun e=>by rw [e];exact h1) fun hx=>zg0 h1 (h'.1 x hx),h⟩
  ·split
   ·exact h
   ·rename_i h1 h2
    have h3:zfd c t<0:=by
     have:=zgh t c;omega
    refine List.pairwise_cons.2 ⟨fun x hx=>?_,insS_srt h'.2⟩;rcases zta.1 hx with rfl | hx
    ·exact h3
    ·exact h'.1 x hx
theorem zdz {u:List SItem}:∀{L:List (List SItem)},u∈zir L↔u∈L
 | []=>by simp [zir]
 | t::L=>by
  show u∈insS t (zir L)↔_;rw [zta,zdz,List.mem_cons]
theorem zf7:∀L:List (List SItem),Rs (zir L)
 | []=>List.Pairwise.nil
 | t::L=>insS_srt (zf7 L)
theorem zrs {l:List (List SItem)} (h:Rs l):l.Nodup:=h.imp fun {a b} h e=>by subst e;exact zho h
theorem rs_uniq {a b:List (List SItem)} (ha:Rs a) (hb:Rs b) (h:∀x,x∈a↔x∈b):a=b:=by
 have:=zlk (B:=a.map fun t=>((t,0):SBranch)) (C:=b.map fun t=>((t,0):SBranch)) (List.pairwise_map.2 ha) (List.pairwise_map.2 hb) fun x=>by
  simp only [List.mem_map];constructor
  ·rintro ⟨t,ht,rfl⟩;exact ⟨t,(h t).1 ht,rfl⟩
  ·rintro ⟨t,ht,rfl⟩;exact ⟨t,(h t).2 ht,rfl⟩
 have h2:=congrArg (List.map (·.1)) this;simpa [List.map_map,Function.comp_def] using h2
theorem zlo {A K:List (List SItem)} (h:∀x∈A,x∈K):(zir A).length≤K.length:=ziy (zrs (zf7 A)) fun t ht=>h t (zdz.1 ht)
theorem can_set {f:List SItem→Nat} {B:List SBranch} (h:Can f B) {A:List (List SItem)} (e:∀t,f t≠0↔t∈A):B.map (·.1)=zir A:=by
 refine rs_uniq ?_ (zf7 A) fun t=>by rw [h.keys,e,zdz]
 exact List.pairwise_map.2 h.srt
def onS (d:List SNode) (c:Int) (l:List (List SItem)):List (List SItem):=zir (l.flatMap (zel d c))
def endS (d:List SNode) (l:List (List SItem)):Bool:=l.any fun s=>decide ((hds d s).count []≠0)
abbrev stS (d:List SNode):List SItem:=[(1,(d.length:Int)-1,0,0)]
def zk5 (d:List SNode) (w:List Int):List (List SItem):=w.foldl (fun l c=>onS d c l) [stS d]
theorem ztp (d:List SNode):zk5 d []=[stS d]:=rfl
theorem zgj (d:List SNode) (w:List Int) (c:Int):zk5 d (w++[c])=onS d c (zk5 d w):=by unfold zk5;rw [List.foldl_append];rfl
theorem zk8 {d:List SNode} {c:Int} {l:List (List SItem)} {t:List SItem}:t∈onS d c l↔∃s∈l,t∈zel d c s:=by unfold onS;rw [zdz,List.mem_flatMap]
theorem word_ind {p:List Int→Prop} (h0:p []) (hs:∀w c,p w→p (w++[c])) (w:List Int):p w:=by
 have:∀n (w:List Int),w.length=n→p w:=by
  intro n
  induction n with
  | zero=>intro w hw;rw [List.length_eq_zero_iff.1 hw];exact h0
  | succ n ih=>
   intro w hw;have hne:w≠[]:=fun e=>by subst e;simp at hw
   rw [← List.dropLast_concat_getLast hne];exact hs _ _ (ih _ (by simp [hw]))
 exact this _ w rfl
theorem zkr {d:List SNode} {t:List SItem} (w:List Int):t∈zk5 d w↔t∈zdd d w (stS d):=by
 revert t
 refine word_ind (p:=fun w=>∀{t:List SItem},t∈zk5 d w↔t∈zdd d w (stS d)) ?_ ?_ w
 ·intro t;rw [ztp,zdd]
 ·intro w c ih t;rw [zgj,zk8,zq9,List.mem_flatMap];constructor
  ·rintro ⟨s,h1,h2⟩;exact ⟨s,ih.1 h1,h2⟩
  ·rintro ⟨s,h1,h2⟩;exact ⟨s,ih.2 h1,h2⟩
theorem aftS_srt (d:List SNode) (w:List Int):Rs (zk5 d w):=by
 refine word_ind (p:=fun w=>Rs (zk5 d w)) ?_ (fun w c _=>?_) w
 ·rw [ztp];simp
 ·rw [zgj];exact zf7 _
theorem aftS_set (d:List SNode) (w:List Int):zk5 d w=zir (zdd d w (stS d)):=rs_uniq (aftS_srt d w) (zf7 _) fun t=>by rw [zkr,zdz]
theorem endS_iff {d:List SNode} {l:List (List SItem)}:endS d l=true↔∃s∈l,(hds d s).count []≠0:=by simp [endS]
theorem sumF_ne (F:List SItem→Nat):∀L:List (List SItem),zcl F L≠0↔∃t∈L,F t≠0
 | []=>by simp [zcl]
 | t::L=>by
  have e:zcl F (t::L)=F t+zcl F L:=by simp [zcl]
  have ih:=sumF_ne F L;rw [e];constructor
  ·intro h
   by_cases h0:F t=0
   ·obtain ⟨u,h1,h2⟩:=ih.1 (by omega);exact ⟨u,by simp [h1],h2⟩
   ·exact ⟨t,by simp,h0⟩
  ·rintro ⟨u,h1,h2⟩;rcases List.mem_cons.1 h1 with rfl | h1
   ·omega
   ·have:=ih.2 ⟨u,h1,h2⟩;omega
theorem endS_word (d:List SNode) (w:List Int):endS d (zk5 d w)=true↔zcj d ((d.length:Int)-1) w≠0:=by
 unfold zcj;rw [wyn_ends,sumF_ne,endS_iff];constructor
 ·rintro ⟨s,h1,h2⟩;exact ⟨s,(zkr w).1 h1,h2⟩
 ·rintro ⟨s,h1,h2⟩;exact ⟨s,(zkr w).2 h1,h2⟩
theorem zjz {d:List SNode} (h:Rt d) (hl:d.length≤24) (ht:Txt d) {w:List Int} (hw:∀c∈w,InR .u8 c) {u:List SItem} (hu:u∈zk5 d w):Sm d u∧u.length≤24:=after_sm h hl ht hw ((zkr w).1 hu)
theorem zn8 {d:List SNode} (h:Rt d) {w:List Int} (hw:∀c∈w,InR .u8 c):(zk5 d w).length≤pas d.length w.length:=by
 obtain ⟨K,k1,k2⟩:=after_cov h fun c hc=>(zge.1 (hw c hc)).1;rw [aftS_set];exact Nat.le_trans (zlo k2) k1
def canB (d:List SNode) (s:List SItem):List SBranch:=(zir (hds d s)).map fun t=>(t,sat ((hds d s).count t))
theorem canB_can (d:List SNode) (s:List SItem):Can (fun t=>(hds d s).count t) (canB d s):=by
 refine ⟨List.pairwise_map.2 (zf7 _),fun t m=>?_⟩;unfold canB;simp only [List.mem_map,Prod.mk.injEq];constructor
 ·rintro ⟨u,h1,rfl,h2⟩;have:=List.count_pos_iff.2 (zdz.1 h1);exact ⟨by omega,h2.symm⟩
 ·rintro ⟨h1,h2⟩;exact ⟨t,zdz.2 (List.count_pos_iff.1 (by omega)),rfl,h2.symm⟩
def clsA (d:List SNode) (s:List SItem):List Cl:=zm0 d (canB d s)
def zkq (d:List SNode) (l:List (List SItem)):List Cl:=l.flatMap (clsA d)
theorem clsA_in {d:List SNode} {s:List SItem} (h:Sm d s):zbn d s (clsA d s)∧zu d s (clsA d s)∧(clsA d s).length≤256*10001:=by
 obtain ⟨B,b1,b2,b3⟩:=classes_both h;have e:=b1.uniq (canB_can d s);subst e;have:=zl6 d (canB d s);have:=(h.hok b1).few;exact ⟨b2,b3,by unfold clsA;omega⟩
def zd0 (l:List Cl):List Cl:=l.foldl (fun o a=>if a∈o then o else o++[a]) []
theorem zgz (l:List Cl) (a:Cl):zd0 (l++[a])=if a∈zd0 l then zd0 l else zd0 l++[a]:=by unfold zd0;rw [List.foldl_append];rfl
theorem cl_ind {p:List Cl→Prop} (h0:p []) (hs:∀w c,p w→p (w++[c])) (w:List Cl):p w:=by
 have:∀n (w:List Cl),w.length=n→p w:=by
  intro n
  induction n with
  | zero=>intro w hw;rw [List.length_eq_zero_iff.1 hw];exact h0
  | succ n ih=>
   intro w hw;have hne:w≠[]:=fun e=>by subst e;simp at hw
   rw [← List.dropLast_concat_getLast hne];exact hs _ _ (ih _ (by simp [hw]))
 exact this _ w rfl
theorem zga {x:Cl} (l:List Cl):x∈zd0 l↔x∈l:=by
 refine cl_ind (p:=fun l=>x∈zd0 l↔x∈l) (by simp [zd0]) (fun l a ih=>?_) l;rw [zgz]
 by_cases h:a∈zd0 l
 ·rw [if_pos h,List.mem_append,ih,List.mem_singleton];constructor
  ·exact .inl
  ·rintro (h1 | rfl)
   ·exact h1
   ·exact ih.1 h
 ·rw [if_neg h,List.mem_append,List.mem_append,ih]
theorem zk7 (l:List Cl):(zd0 l).Nodup:=by
 refine cl_ind (p:=fun l=>(zd0 l).Nodup) (by simp [zd0]) (fun l a ih=>?_) l;rw [zgz];split
 ·exact ih
 ·rename_i h
  rw [List.nodup_append];exact ⟨ih,by simp,fun x hx y hy e=>by rw [List.mem_singleton.1 hy] at e;subst e;exact h hx⟩
theorem like_mem {l m:List Cl} (h:∀x,x∈l↔x∈m) (c e:Nat):zgl l c e=zgl m c e:=by
 unfold zgl;rw [Bool.eq_iff_iff,List.all_eq_true,List.all_eq_true];exact ⟨fun k x hx=>k x ((h x).2 hx),fun k x hx=>k x ((h x).1 hx)⟩
theorem splitH_mem {l m:List Cl} (h:∀x,x∈l↔x∈m):zon l=zon m:=by
 rw [zll,zll];have:zgm l=zgm m:=by
  unfold zgm;refine List.filter_congr fun c _=>?_
  congr 1
  funext d;rw [like_mem h]
 rw [this]
def bytC (l:List Cl):List Int:=zon (zd0 l)
def zm1 (d:List SNode) (l:List (List SItem)):List Int:=bytC (zkq d l)
theorem bytC_eq (l:List Cl):bytC l=(zgm l).map fun n:Nat=>(n:Int):=by
 unfold bytC;rw [splitH_mem (m:=l) fun x=>zga l,zll]
theorem ztn (l:List Cl):(bytC l).length≤256:=by rw [bytC_eq,List.length_map];exact heads_len l
theorem bytC_u8 {l:List Cl} {b:Int} (h:b∈bytC l):InR .u8 b:=by
 rw [bytC_eq] at h;obtain ⟨n,h1,rfl⟩:=List.mem_map.1 h;have:=(zgc.1 h1).1;exact zge.2 ⟨by omega,by omega⟩
def szN (d:List SNode):Nat→Int→Nat
 | 0,_=>0
 | k+1,i=>match at? d i with
  | none=>0
  | some n=>if n.1=2 then 1 else if n.1=3 then n.2.2.2.2.2.2.length else if n.1=4∨n.1=5 then szN d k n.2.1+szN d k n.2.2.1 else if n.1=6 then szN d k n.2.1 else if n.1=7 then n.2.2.2.2.1.toNat*szN d k n.2.1 else 0
theorem zmk (m:Nat):∀k,sumN (fun _=>m) k=k*m
 | 0=>by simp [sumN]
 | k+1=>by
  show sumN (fun _=>m) k+m=_;rw [zmk m k,Nat.succ_mul]
def nf (d:List SNode):Nat→Int→Bool
 | 0,_=>true
 | k+1,i=>match at? d i with
  | none=>true
  | some n=>if n.1=8∨n.1=9 then false else if n.1=4∨n.1=5 then nf d k n.2.1&&nf d k n.2.2.1 else if n.1=6 then nf d k n.2.1 else if n.1=7 then decide (n.2.2.2.2.1≤0)||nf d k n.2.1 else true
def NoFr (d:List SNode):Prop:=nf d d.length ((d.length:Int)-1)=true
theorem at_mem {d:List SNode} {i:Int} {e:SNode} (he:at? d i=some e):e∈d:=by
 unfold at? at he;split at he
 ·exact List.mem_of_getElem? he
 ·cases he
theorem nf_of {d:List SNode} (h:∀n∈d,n.1≠8∧n.1≠9):∀(k:Nat) (i:Int),nf d k i=true
 | 0,_=>rfl
 | k+1,i=>by
  unfold nf;cases hn:at? d i with
  | none=>rfl
  | some n=>
   have:=h n (at_mem hn);simp only [nf_of h k];rw [if_neg (by omega)];simp
theorem cov_sz {d:List SNode} (hd:ROk d) {f i:Int} (h:Tr d f i):∀k,(i-f+1).toNat≤k→nf d k i=true→Cov (szN d k i) (fun u=>∃w,Rch d [(1,i,0,0)] w u):=by
 induction h with
 | leaf he hk hx h0=>
  rename_i i e
  intro k hk2 hnf;obtain ⟨k,rfl⟩:∃q,k=q+1:=⟨k-1,by omega⟩;have hs:szN d (k+1) i=if e.1=2 then 1 else if e.1=3 then e.2.2.2.2.2.2.length else if e.1=4∨e.1=5 then szN d k e.2.1+szN d k e.2.2.1 else if e.1=6 then szN d k e.2.1 else if e.1=7 then e.2.2.2.2.1.toNat*szN d k e.2.1 else 0:=by
   simp only [szN,he]
  rw [hs];rcases hk with k1 | k1 | k1
  ·exact Cov.none (fun u ⟨w,hu⟩=>zox hd he k1 hu) _
  ·rw [if_pos k1];exact Cov.one [] fun u ⟨w,hu⟩=>zoy hd he k1 hu
  ·rw [if_neg (by omega),if_pos k1];have:=Cov.sum (f:=fun _=>1) (p:=fun j u=>u=if j+1<e.2.2.2.2.2.2.length then [(3,i,((j+1:Nat):Int),0)] else []) e.2.2.2.2.2.2.length fun j hj=>Cov.one _ fun u hu=>hu;refine this.weak (by rw [zmk];omega) fun u ⟨w,hu⟩=>?_;obtain ⟨j,_,h1,h2⟩:=zso hd he k1 hu;exact ⟨j,h1,h2⟩
 | one he hk ha hb hr h ih=>
  rename_i f i e
  intro k hk2 hnf;have hle:=h.le;obtain ⟨k,rfl⟩:∃q,k=q+1:=⟨k-1,by omega⟩;have hs:szN d (k+1) i=if e.1=2 then 1 else if e.1=3 then e.2.2.2.2.2.2.length else if e.1=4∨e.1=5 then szN d k e.2.1+szN d k e.2.2.1 else if e.1=6 then szN d k e.2.1 else if e.1=7 then e.2.2.2.2.1.toNat*szN d k e.2.1 else 0:=by
   simp only [szN,he]
  have ih:=ih k (by omega);unfold nf at hnf;simp only [he] at hnf;rw [hs];rcases hk with k1 | k1 | k1 | k1
  ·rw [if_neg (by omega),if_neg (by omega),if_neg (by omega),if_pos k1,ha];rw [if_neg (by omega),if_neg (by omega),if_pos k1,ha] at hnf;refine (ih hnf).map (·++[(1,i,0,0)]) fun u ⟨w,hu⟩=>?_;obtain ⟨t,h1,h2⟩:=zsp hd he k1 hu;rw [ha] at h1;exact ⟨t,⟨w,h1⟩,h2⟩
  ·rw [if_neg (by omega),if_neg (by omega),if_neg (by omega),if_neg (by omega),if_pos k1,ha];rw [if_neg (by omega),if_neg (by omega),if_neg (by omega),if_pos k1,ha,Bool.or_eq_true,decide_eq_true_iff] at hnf;rcases Int.lt_or_le 0 e.2.2.2.2.1 with h0 | h0
   rotate_left
   ·refine Cov.none (fun u ⟨w,hu⟩=>?_) _;obtain ⟨t,_,h1,_⟩:=zsq hd he k1 hu;omega
   have ih:=ih (hnf.resolve_left (by omega));have:=Cov.sum (f:=fun _=>szN d k (i-1)) (p:=fun t u=>∃u',(∃w,Rch d [(1,i-1,0,0)] w u')∧u=u'++[zju i e (t+1)]) e.2.2.2.2.1.toNat fun t ht=>ih.map (·++[zju i e (t+1)]) fun u hu=>hu;refine this.weak (by rw [zmk];omega) fun u ⟨w,hu⟩=>?_;obtain ⟨t,_,h1,u',h2,h3⟩:=zsq hd he k1 hu;rw [ha] at h2;exact ⟨t,by omega,u',⟨_,h2⟩,h3⟩
  ·rw [if_pos (.inl k1)] at hnf;cases hnf
  ·rw [if_pos (.inr k1)] at hnf;cases hnf
 | two he hk ha hb h1 h2 i1 i2=>
  rename_i f p i e
  intro k hk2 hnf;have l1:=h1.le;have l2:=h2.le;obtain ⟨k,rfl⟩:∃q,k=q+1:=⟨k-1,by omega⟩;have hs:szN d (k+1) i=if e.1=2 then 1 else if e.1=3 then e.2.2.2.2.2.2.length else if e.1=4∨e.1=5 then szN d k e.2.1+szN d k e.2.2.1 else if e.1=6 then szN d k e.2.1 else if e.1=7 then e.2.2.2.2.1.toNat*szN d k e.2.1 else 0:=by
   simp only [szN,he]
  unfold nf at hnf;simp only [he] at hnf;rw [if_neg (by omega),if_pos hk,ha,hb,Bool.and_eq_true] at hnf;have j1:=i1 k (by omega) hnf.2;have j2:=i2 k (by omega) hnf.1;rw [hs,if_neg (by omega),if_neg (by omega),if_pos hk,ha,hb];rcases hk with k1 | k1
  ·refine (j2.map (·++[(1,i-1,0,0)]) (r:=fun u=>∃t,(∃w,Rch d [(1,p-1,0,0)] w t)∧u=t++[(1,i-1,0,0)]) fun u hu=>hu).or j1 fun u ⟨w,hu⟩=>?_;have:=rch_seq hd he k1 hu;rw [ha,hb] at this;exact this.imp (fun ⟨t,a,b⟩=>⟨t,⟨w,a⟩,b⟩) fun a=>⟨w,a⟩
  ·refine j2.or j1 fun u ⟨w,hu⟩=>?_;have:=rch_or hd he k1 hu;rw [ha,hb] at this;exact this.imp (fun a=>⟨w,a⟩) fun a=>⟨w,a⟩
theorem all_cov {d:List SNode} (h:Rt d) (hn:NoFr d):Cov (szN d d.length ((d.length:Int)-1)+1) (fun u=>∃w,u∈zdd d w (stS d)):=by
 refine ((cov_sz h.toROk h.tr d.length (by omega) hn).or (Cov.one (stS d) (p:=fun u=>u=stS d) fun u hu=>hu) fun u ⟨w,hu⟩=>?_);cases w with
 | nil=>
  rw [zdd,List.mem_singleton] at hu;exact .inr hu
 | cons c w=>exact .inl ⟨c::w,[],c::w,rfl,by simp,hu⟩
theorem aftS_all {d:List SNode} (h:Rt d) (hn:NoFr d):∃K:List (List SItem),K.length≤szN d d.length ((d.length:Int)-1)+1∧∀w,∀t∈zk5 d w,t∈K:=by
 obtain ⟨K,h1,h2⟩:=all_cov h hn;exact ⟨K,h1,fun w t ht=>h2 t ⟨w,(zkr w).1 ht⟩⟩
theorem aftS_few {d:List SNode} (h:Rt d) (hn:NoFr d) (w:List Int):(zk5 d w).length≤szN d d.length ((d.length:Int)-1)+1:=by
 obtain ⟨K,h1,h2⟩:=aftS_all h hn;exact Nat.le_trans (ziy (zrs (aftS_srt d w)) (h2 w)) h1
theorem canB_len {d:List SNode} (h:Rt d) (s:List SItem):(canB d s).length≤s.length*(d.length+1)+1:=by
 unfold canB;rw [List.length_map];exact Nat.le_trans (zlo fun t ht=>hds_CS d s t ht) (CS_few h s)
theorem clsA_len {d:List SNode} (h:Rt d) (s:List SItem):(clsA d s).length≤256*(s.length*(d.length+1)+1):=by
 have h1:=zl6 d (canB d s);have h2:=canB_len h s;unfold clsA;omega
theorem ztl {d:List SNode} (h:Rt d) {m:Nat}:∀l:List (List SItem),(∀s∈l,s.length≤m)→(zkq d l).length≤256*(m*(d.length+1)+1)*l.length
 | [],_=>by simp [zkq]
 | s::l,hm=>by
  have h1:=clsA_len h s;have h2:=ztl h l fun u hu=>hm u (by simp [hu]);have h3:s.length*(d.length+1)≤m*(d.length+1):=Nat.mul_le_mul_right _ (hm s (by simp));have e:zkq d (s::l)=clsA d s++zkq d l:=by simp [zkq]
  rw [e,List.length_append,List.length_cons,Nat.mul_add];omega
theorem clsF_of (d:List SNode) (t:List SItem) (hb:∀n∈d,True):∀x∈clsF d t,x∈sing++d.map fun n=>n.2.2.2.2.2.1:=by
 intro x hx;cases t with
 | nil=>cases hx
 | cons y t=>
  simp only [clsF] at hx;cases hn:at? d y.2.1 with
  | none=>rw [hn] at hx;cases hx
  | some n=>
   rw [hn] at hx;simp only at hx;have hm:n∈d:=by
    unfold at? at hn;split at hn
    ·exact List.mem_of_getElem? hn
    ·cases hn
   split at hx
   ·rw [List.mem_singleton] at hx;refine List.mem_append.2 (.inl ?_);have hr:0≤(zej n.2.2.2.2.2.2 y.2.2.1).getD 0∧(zej n.2.2.2.2.2.2 y.2.2.1).getD 0≤255:=by
     cases hq:zej n.2.2.2.2.2.2 y.2.2.1 with
     | none=>simp
     | some c=>exact byte_u8 hq
    rw [hx];refine List.mem_map.2 ⟨((zej n.2.2.2.2.2.2 y.2.2.1).getD 0).toNat,by simp;omega, ?_⟩;have e:((((zej n.2.2.2.2.2.2 y.2.2.1).getD 0).toNat:Nat):Int) % 256=(zej n.2.2.2.2.2.2 y.2.2.1).getD 0:=by omega
    rw [e]
   ·split at hx
    ·rw [List.mem_singleton] at hx;exact List.mem_append.2 (.inr (List.mem_map.2 ⟨n,hm,hx.symm⟩))
    ·exact List.mem_append.2 (.inl hx)
theorem once_few (d:List SNode) (l:List (List SItem)):(zd0 (zkq d l)).length≤256+d.length:=by
 have h1:=ziy (U:=sing++d.map fun n=>n.2.2.2.2.2.1) (zk7 (zkq d l)) fun x hx=>by
  obtain ⟨s,_,h2⟩:=List.mem_flatMap.1 ((zga _).1 hx);unfold clsA zm0 at h2;obtain ⟨b,_,h3⟩:=List.mem_flatMap.1 h2;exact clsF_of d b.1 (fun _ _=>trivial) x h3
 rw [List.length_append,List.length_map,zin] at h1;exact h1
theorem zh3 {a:Cl}:zcd a a.least:=by
 refine zf2 (P:=fun k (_:Unit) v=>zcd.l1 a a.least _ k v) 256 (fun i _=>∀m,m<i→a.has m=false) ?_ ?_ () (by intro m hm;omega)
 ·intro i s hi hs;cases hc:a.has i
  ·refine .inr ⟨(),fun m hm=>?_,fun k h=>⟨fun _=>⟨a.has i,zi3 hi,fun h2=>by simp [hc] at h2,fun _=>⟨zh (by omega) (by omega),h⟩⟩,fun h=>absurd (by omega) (df h)⟩⟩
   by_cases e:m=i
   ·subst e;exact hc
   ·exact hs m (by omega)
  ·refine .inl fun k=>⟨fun _=>⟨a.has i,zi3 hi,fun _=>?_,fun h2=>by simp [hc] at h2⟩,fun h=>absurd (by omega) (df h)⟩;rw [show ((i:Int) % 256)=i by omega];exact least_of hi hc hs
 ·intro s hs k;exact ⟨fun h=>absurd (dt h) (by omega),fun _=>by first | exact ziz hs | (show zcd.j1 _ _;exact ziz hs)⟩
theorem zqn {a:Cl}:zck a (a.count:Int):=by
 refine zf2 (P:=fun k (s:Int) v=>zck.l1 a _ k s v) 256 (fun i s=>s=(((List.range i).countP a.has:Nat):Int)) ?_ ?_ _ (by simp)
 ·rintro i s hi rfl;have hle:=List.countP_le_length (l:=List.range i) (p:=a.has);simp only [List.length_range] at hle;refine .inr ⟨_,rfl,fun k h=>⟨fun _=>⟨a.has i,zi3 hi,fun hc=>?_,fun hc=>?_⟩,fun h=>absurd (by omega) (df h)⟩⟩
  ·rw [List.range_succ,List.countP_append,List.countP_singleton,hc] at h;exact ⟨zh (by omega) (by omega),zh (by omega) (by omega),by simpa using h⟩
  ·rw [List.range_succ,List.countP_append,List.countP_singleton,hc] at h;exact ⟨zh (by omega) (by omega),by simpa using h⟩
 ·rintro s rfl k;exact ⟨fun h=>absurd (dt h) (by omega),fun _=>rfl⟩
theorem zl8 {a b:Cl}:zc1 a b (a &&& b):=by
 refine words_up (P:=fun k s v=>zc1.l1 b _ k s v) (a:=a) (r:=a &&& b) (fun i w=>w &&& b.word i) (fun i hi=>?_) (fun k i s v hi hw hv h=>?_) (fun k=>?_)
 ·refine zjb hi (Nat.and_lt_two_pow _ (b.word_lt i)) fun j hj=>?_;rw [zle,Nat.testBit_and,Cl.word_bit,Cl.word_bit];simp [hj]
 ·refine ⟨fun _=>⟨⟨by omega,by omega⟩,⟨by omega,by omega⟩,⟨by omega,by omega⟩,zh (by omega) (by omega), ?_⟩,fun h=>absurd (by omega) (df h)⟩;rw [show andI (Cl.w s (i:Int)) (Cl.w b (i:Int))=v by rw [hv];unfold andI;rw [w_nat,w_nat,Int.toNat_natCast,hw]];exact h
 ·exact ⟨fun h=>absurd (dt h) (by omega),fun _=>rfl⟩
theorem znf {a:Cl}:zdj a (~~~ a):=by
 refine words_up (P:=fun k s v=>zdj.l1 _ k s v) (a:=a) (r := ~~~ a) (fun i w=>18446744073709551615 ^^^ w) (fun i hi=>?_) (fun k i s v hi hw hv h=>?_) (fun k=>?_)
 ·refine zjb hi (Nat.xor_lt_two_pow (by omega) (a.word_lt i)) fun j hj=>?_;rw [zpe (by omega),Nat.testBit_xor,Cl.word_bit,show 18446744073709551615=2 ^ 64-1 by rfl,Nat.testBit_two_pow_sub_one];simp [hj]
 ·refine ⟨fun _=>⟨⟨by omega,by omega⟩,⟨by omega,by omega⟩,zh (by omega) (by omega), ?_⟩,fun h=>absurd (by omega) (df h)⟩;rw [show xorI 18446744073709551615 (Cl.w s (i:Int))=v by rw [hv];unfold xorI;rw [w_nat,Int.toNat_natCast,hw];rfl];exact h
 ·exact ⟨fun h=>absurd (dt h) (by omega),fun _=>rfl⟩
theorem dt0 {p:Prop} [Decidable p] (h:decide p=true):p:=of_decide_eq_true h
theorem df0 {p:Prop} [Decidable p] (h:decide p=false):¬ p:=of_decide_eq_false h
def ztt (key:Cl→Int) (cmp:Cl × Cl × Int→Prop):Prop:=∀x y,cmp (x,y,key x-key y)
theorem ins_l2 {key:Cl→Int} {cmp:Cl × Cl × Int→Prop} (hc:ztt key cmp) {A B:List Cl} {x:Cl} {X:List Cl→Prop}:
  ∀(m:Nat) (P G:List Cl),P.length=m→Srt key (P++G)→(∀g∈G,key x<key g)→(A++P++x::(G++B)).length<4611686018427387904 →
   (∀Q,Srt key Q→SEq key (P++x::G) Q→X (A++Q++B)) →
   ∃k,zd.l2 (A.length:Int) cmp X k (A++P++x::(G++B)) ((A.length+P.length:Nat):Int):=by
 intro m
 induction m with
 | zero=>
  intro P G hm hs hg hlen hX;have hP:=List.eq_nil_of_length_eq_zero hm;subst hP;refine ⟨1,x,fun h=>absurd (dt0 h) (by simp),fun h=>absurd (dt0 h) (by simp),x,fun h=>absurd (dt0 h) (by simp),0,fun h=>absurd (dt0 h) (by simp),fun h=>?_,fun _=>?_⟩
  ·simp at h
  ·have:=hX (x::G) (Srt.cons.2 ⟨fun y hy=>Int.le_of_lt (hg y hy),by simpa using hs⟩) (SEq.refl _ _);simpa using this
 | succ m ih=>
  intro P G hm hs hg hlen hX;obtain ⟨P,y,rfl⟩:=snoc_of (l:=P) (by rintro rfl;simp at hm);have hmP:P.length=m:=by simpa using hm
  have hl2:A.length+P.length+1<4611686018427387904:=by simp at hlen;omega
  have e0:A++(P++[y])++x::(G++B)=(A++P)++y::x::(G++B):=by simp
  have e1:A++(P++[y])++x::(G++B)=(A++P++[y])++x::(G++B):=by simp
  have hj:((A.length+(P++[y]).length:Nat):Int)=((A.length+P.length:Nat):Int)+1:=by simp <;> omega
  have at1:at? (A++(P++[y])++x::(G++B)) ((A.length+(P++[y]).length:Nat):Int)=some x:=by rw [e1];exact zja (by simp <;> omega)
  have at2:at? (A++(P++[y])++x::(G++B)) (((A.length+(P++[y]).length:Nat):Int)-1)=some y:=by rw [e0];exact zja (by simp <;> omega)
  by_cases hlt:key x<key y
  ·-- a round more
   obtain ⟨k,hk⟩:=ih P (y::G) hmP (by simpa using hs) (fun g hgm=>by
     rcases List.mem_cons.1 hgm with rfl | h
     ·exact hlt
     ·exact hg g h) (by simp at hlen ⊢ <;> omega) (fun Q hQ hE=>hX Q hQ (SEq.trans (by
      have:SEq key ([y]++[x]) ([x]++[y]):=zka (by simp <;> omega);have h2:=(SEq.refl key P).app (this.app (SEq.refl key G));simpa using h2) hE))
   refine ⟨k+1,x,fun _=>at1,fun _=>zh (by omega) (by omega),y,fun _=>at2,key x-key y,fun _=>hc x y,fun _=>?_,fun h=>?_⟩
   ·refine ⟨zh (by omega) (by omega),zh (by omega) (by omega),y,at2,x,at1,x,at1,y, ?_,zh (by omega) (by omega), ?_⟩
    ·rw [e1,ziq (by simp <;> omega)];rw [show (A++P++[y]++y::(G++B))=(A++P)++y::y::(G++B) by simp];exact zja (by simp <;> omega)
    ·have:((A++(P++[y])++x::(G++B)).set ((A.length+(P++[y]).length:Nat):Int).toNat y).set (((A.length+(P++[y]).length:Nat):Int)-1).toNat x=A++P++x::(y::G++B):=by
      rw [e1,ziq (by simp <;> omega)];rw [show (A++P++[y]++y::(G++B))=(A++P)++y::y::(G++B) by simp];rw [ziq (by simp <;> omega)];simp
     rw [this,show (((A.length+(P++[y]).length:Nat):Int)-1)=((A.length+P.length:Nat):Int) by omega];exact hk
   ·exfalso;simp at h;omega
  ·refine ⟨1,x,fun _=>at1,fun _=>zh (by omega) (by omega),y,fun _=>at2,key x-key y,fun _=>hc x y,fun h=>?_,fun _=>?_⟩
   ·exfalso;simp at h;omega
   ·have:=hX (P++[y]++x::G) (Srt.app.2 ⟨(Srt.app.1 hs).1,Srt.cons.2 ⟨fun g hgm=>Int.le_of_lt (hg g hgm),(Srt.app.1 hs).2.1⟩,fun p hp q hq=>?_⟩) (SEq.refl _ _)
    ·simpa using this
    ·have hpy:key p≤key y:=by
      rcases List.mem_append.1 hp with h | h
      ·exact (Srt.app.1 (Srt.app.1 hs).1).2.2 p h y (by simp)
      ·simp at h;subst h;exact Int.le_refl _
     rcases List.mem_cons.1 hq with rfl | h
     ·omega
     ·have:=(Srt.app.1 hs).2.2 p hp q h;exact this
theorem ins_in {key:Cl→Int} {cmp:Cl × Cl × Int→Prop} (hc:ztt key cmp) {A S B:List Cl} {a b:Int} (ha:a=(A.length:Int)) (hb:b=((A.length+S.length:Nat):Int)) (hlen:(A++S++B).length<4611686018427387904):
  zd (A++S++B) a b cmp (A++srt key S++B):=by
 have hlA:A.length+S.length<4611686018427387904:=by simp at hlen;omega
 subst ha;subst hb;have key2:∀(m:Nat) (P R:List Cl),R.length=m→Srt key P→SEq key S (P++R)→∀{X:List Cl→Prop},X (A++srt key S++B) →
   ∃k,zd.l1 (A.length:Int) ((A.length+S.length:Nat):Int) cmp X k (A++(P++R)++B) ((A.length+P.length:Nat):Int):=by
  intro m
  induction m with
  | zero=>
   intro P R hR hP hS X hX;have:=List.eq_nil_of_length_eq_zero hR;subst this;have hl:=hS.length;simp at hl;have e:=zi4 hP (by simpa using hS);exact ⟨1,fun h=>absurd (dt0 h) (by omega),fun _=>by rw [List.append_nil,e];exact hX⟩
  | succ m ih=>
   intro P R hR hP hS X hX;cases R with
   | nil=>simp at hR
   | cons x R=>
    have hl:=hS.length;simp at hl;simp at hR;have hS2:SEq key S (srt key (P++[x])++R):=hS.trans (by
     have:=(zg5 key (P++[x])).app (SEq.refl key R);simpa using this)
    obtain ⟨k,hk⟩:=ih (srt key (P++[x])) R hR (zjg _ _) hS2 hX;refine ⟨k+1,fun _=>?_,fun h=>absurd (by omega) (df0 h)⟩;have:=ins_l2 hc (A:=A) (B:=R++B) (x:=x) (X:=zd.j2 (zd.l1 (A.length:Int) ((A.length+S.length:Nat):Int) cmp X k) ((A.length+P.length:Nat):Int)) P.length P [] rfl (by simpa using hP) (by simp) (by simp at hlen ⊢ <;> omega) (fun Q hQ hE=>by
     have hQe:=zi4 hQ hE;refine ⟨zh (by omega) (by omega), ?_⟩;rw [hQe];have e1:((A.length+(srt key (P++[x])).length:Nat):Int)=((A.length+P.length:Nat):Int)+1:=by rw [zhr];simp;omega
     rw [e1] at hk;simpa using hk)
    simpa using this
 refine ⟨zh (by omega) (by omega), ?_⟩;cases S with
 | nil=>
  refine ⟨1,fun h=>absurd (dt0 h) (by simp <;> omega),fun _=>?_⟩;show A++srt key []++B=A++[]++B;rw [List.eq_nil_of_length_eq_zero (zhr key [])]
 | cons x S=>
  have:=key2 S.length [x] S rfl (by simp [Srt]) (SEq.refl _ _) (X:=zd.j1 (A++srt key (x::S)++B)) rfl;simpa using this
theorem swap_l1 {A M B:List Cl} {a b n:Int} {X:List Cl→Prop}:∀(X2 Y2 X1 Y1:List Cl),X2.length=Y2.length→X1.length=Y1.length→a=(A.length:Int)→b=((A.length+X1.length+X2.length+M.length:Nat):Int)→n=((X1.length+X2.length:Nat):Int) →
  (A++Y1++X2++M++X1++Y2++B).length<4611686018427387904→X (A++(Y1++Y2)++M++(X1++X2)++B) →
  ∃k,zj.l1 a b n X k (A++Y1++X2++M++X1++Y2++B) (X1.length:Int)
 | [],[],X1,Y1,_,h1,ha,hb,hn,hl,hX=>⟨1,fun h=>absurd (dt0 h) (by rw [hn];simp),fun _=>by simpa using hX⟩
 | x::X2,y::Y2,X1,Y1,h0,h1,ha,hb,hn,hl,hX=>by
  simp at h0;have hl':A.length+Y1.length+X2.length+M.length+X1.length+Y2.length+B.length+2<4611686018427387904:=by simp at hl;omega
  obtain ⟨k,hk⟩:=swap_l1 (A:=A) (M:=M) (B:=B) (a:=a) (b:=b) (n:=n) (X:=X) X2 Y2 (X1++[x]) (Y1++[y]) h0 (by simp <;> omega) ha (by rw [hb];simp <;> omega) (by rw [hn];simp <;> omega) (by simp at hl ⊢ <;> omega) (by simpa using hX);have e1:A++Y1++x::X2++M++X1++y::Y2++B=(A++Y1)++x::(X2++M++X1++y::Y2++B):=by simp
  have e2:A++Y1++x::X2++M++X1++y::Y2++B=(A++Y1++x::X2++M++X1)++y::(Y2++B):=by simp
  have pa:a+(X1.length:Int)=((A++Y1).length:Int):=by rw [ha];simp <;> omega
  have pb:b+(X1.length:Int)=((A++Y1++x::X2++M++X1).length:Int):=by rw [hb];simp <;> omega
  have hb0:b+(X1.length:Int)<4611686018427387904∧0≤b+(X1.length:Int):=by rw [pb];simp <;> omega
  have ha0:a+(X1.length:Int)<4611686018427387904∧0≤a+(X1.length:Int):=by rw [pa];simp <;> omega
  have aty:at? (A++Y1++x::X2++M++X1++y::Y2++B) (b+(X1.length:Int))=some y:=by rw [e2];exact zja pb
  have atx:at? (A++Y1++x::X2++M++X1++y::Y2++B) (a+(X1.length:Int))=some x:=by rw [e1];exact zja pa
  have s1:(A++Y1++x::X2++M++X1++y::Y2++B).set (a+(X1.length:Int)).toNat y=A++Y1++y::X2++M++X1++y::Y2++B:=by rw [e1,ziq pa];simp
  have e3:A++Y1++y::X2++M++X1++y::Y2++B=(A++Y1++y::X2++M++X1)++y::(Y2++B):=by simp
  have pb':b+(X1.length:Int)=((A++Y1++y::X2++M++X1).length:Int):=by rw [pb];simp
  refine ⟨k+1,fun _=>⟨zh (by omega) (by omega),zh (by omega) (by omega),zh (by omega) (by omega),y,aty,zh (by omega) (by omega),x,atx,x,atx,y, ?_,zh (by omega) (by omega), ?_⟩,fun h=>absurd (by rw [hn];simp <;> omega) (df0 h)⟩
  ·rw [s1,e3];exact zja pb'
  ·rw [s1,e3,ziq pb'];simpa using hk
 | [],_::_,_,_,h,_,_,_,_,_,_=>by simp at h
 | _::_,[],_,_,h,_,_,_,_,_,_=>by simp at h
theorem swap_in {A X M Y B:List Cl} {a b n:Int} {cmp:Cl × Cl × Int→Prop} (ha:a=(A.length:Int)) (hb:b=((A.length+X.length+M.length:Nat):Int)) (hn:n=(X.length:Int)) (hxy:X.length=Y.length) (hl:(A++X++M++Y++B).length<4611686018427387904):
  zj (A++X++M++Y++B) a b n cmp (A++Y++M++X++B):=by
 have:=swap_l1 (A:=A) (M:=M) (B:=B) (a:=a) (b:=b) (n:=n) (X:=zj.j1 (A++Y++M++X++B)) X Y [] [] hxy rfl ha (by rw [hb];simp) (by rw [hn];simp) (by simpa using hl) rfl;unfold zj;simpa using this
theorem rot_in {A X Y B:List Cl} {a m b:Int} {cmp:Cl × Cl × Int→Prop} (ha:a=(A.length:Int)) (hm:m=((A.length+X.length:Nat):Int)) (hb:b=((A.length+X.length+Y.length:Nat):Int)) (hX:X≠[]) (hY:Y≠[]) (hl:(A++X++Y++B).length<4611686018427387904):
  zq (A++X++Y++B) a m b cmp (A++Y++X++B):=by
 have hl':A.length+X.length+Y.length+B.length<4611686018427387904:=by simp at hl;omega
 refine ⟨zh (by omega) (by omega),zh (by omega) (by omega), ?_⟩;have key:∀(f:Nat) (L X' Y' R:List Cl),X'.length+Y'.length≤f→X'≠[]→Y'≠[]→A.length+L.length+X'.length=A.length+X.length→L++Y'++X'++R=Y++X →
   ∃k,zq.l1 m cmp (zq.j1 m cmp (A++Y++X++B)) k (A++L++X'++Y'++R++B) (X'.length:Int) (Y'.length:Int):=by
  intro f
  induction f with
  | zero=>intro L X' Y' R hf hx;exact absurd (List.eq_nil_of_length_eq_zero (by omega)) hx
  | succ f ih=>
   intro L X' Y' R hf hx hy hmid heq;have hx':0<X'.length:=List.length_pos_iff.2 hx;have hy':0<Y'.length:=List.length_pos_iff.2 hy;have hle:=congrArg List.length heq;simp at hle
   by_cases hlt:Y'.length<X'.length
   ·obtain ⟨X1,X2,rfl,hX1⟩:=zf4 X' (Nat.le_of_lt hlt);have hX2:X2≠[]:=by rintro rfl;simp at hlt;omega
    have hX2':0<X2.length:=List.length_pos_iff.2 hX2;simp at hle hmid hf hlt;obtain ⟨k,hk⟩:=ih (L++Y') X2 X1 R (by omega) hX2 (by rintro rfl;simp at hX1;omega) (by first | omega | (simp;omega)) (by simpa using heq);refine ⟨k+1,fun _=>⟨fun _=>⟨zh (by first | omega | (simp;omega)) (by first | omega | (simp;omega)),A++L++Y'++X2++X1++(R++B), ?_,zh (by first | omega | (simp;omega)) (by first | omega | (simp;omega)), ?_⟩,fun h=>absurd (by simp;omega) (df0 h)⟩,fun h=>by simp at h;omega⟩
    ·have:=swap_in (cmp:=cmp) (A:=A++L) (X:=X1) (M:=X2) (Y:=Y') (B:=R++B) (a:=m-((X1++X2).length:Int)) (b:=m) (n:=(Y'.length:Int)) (by rw [hm];simp;omega) (by rw [hm];simp;omega) (by omega) (by omega) (by simp;omega);simpa using this
    ·have e:(((X1++X2).length:Nat):Int)-(Y'.length:Int)=(X2.length:Int):=by simp;omega
     rw [e,← hX1];simpa using hk
   ·by_cases heq2:X'.length=Y'.length
    ·refine ⟨1,fun h=>?_,fun _=>⟨zh (by first | omega | (simp;omega)) (by first | omega | (simp;omega)),A++L++Y'++X'++R++B, ?_, ?_⟩⟩
     ·simp at h;omega
     ·have:=swap_in (cmp:=cmp) (A:=A++L) (X:=X') (M:=[]) (Y:=Y') (B:=R++B) (a:=m-(X'.length:Int)) (b:=m) (n:=(X'.length:Int)) (by rw [hm];simp;omega) (by rw [hm];simp;omega) rfl heq2 (by simp;omega);simpa using this
     ·have:A++(Y++X)++B=A++(L++Y'++X'++R)++B:=by rw [heq]
      simpa using this
    ·have hlt2:X'.length<Y'.length:=by omega
     obtain ⟨Y1,Y2,rfl,hY1⟩:=zf4 Y' (show Y'.length-X'.length≤Y'.length by omega);have hY2:Y2.length=X'.length:=by simp at hY1 hlt2;omega
     have hY1':Y1≠[]:=by rintro rfl;simp at hY1 hlt2;omega
     simp at hle hmid hf hlt2;obtain ⟨k,hk⟩:=ih L Y2 Y1 (X'++R) (by omega) (by rintro rfl;simp at hY2;omega) hY1' (by omega) (by simpa using heq);refine ⟨k+1,fun _=>⟨fun h=>absurd (dt0 h) (by simp;omega),fun _=>⟨zh (by omega) (by omega),zh (by first | omega | (simp;omega)) (by first | omega | (simp;omega)),zh (by first | omega | (simp;omega)) (by first | omega | (simp;omega)),A++L++Y2++Y1++X'++(R++B), ?_,zh (by first | omega | (simp;omega)) (by first | omega | (simp;omega)), ?_⟩⟩,fun h=>by simp at h;omega⟩
     ·have:=swap_in (cmp:=cmp) (A:=A++L) (X:=X') (M:=Y1) (Y:=Y2) (B:=R++B) (a:=m-(X'.length:Int)) (b:=m+((Y1++Y2).length:Int)-(X'.length:Int)) (n:=(X'.length:Int)) (by rw [hm];simp;omega) (by rw [hm];simp;omega) rfl (by omega) (by simp;omega);simpa using this
     ·have e:(((Y1++Y2).length:Nat):Int)-(X'.length:Int)=(Y1.length:Int):=by simp;omega
      rw [e,← hY2];simpa using hk
 have:=key (X.length+Y.length) [] X Y [] (Nat.le_refl _) hX hY (by simp) (by simp);have e1:m-a=(X.length:Int):=by omega
 have e2:b-m=(Y.length:Int):=by omega
 rw [e1,e2];simpa using this
end Go.Proofs.YtahgmdbioafmbaaGreatDoor.V
