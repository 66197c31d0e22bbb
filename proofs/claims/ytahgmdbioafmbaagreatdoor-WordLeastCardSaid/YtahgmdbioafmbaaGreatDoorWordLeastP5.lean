/-
  The texts that the law's proof needs, part 5.
-/
import Derived.Test.YtahgmdbioafmbaaGreatDoorWordLeastP4

namespace Go.Proofs.YtahgmdbioafmbaaGreatDoor.V
open Go
set_option linter.unusedVariables false
def zb7 (F:List SItem→Nat) (L:List (List SItem)):Nat:=(L.map F).sum
theorem ze1 (F:List SItem→Nat) (A B:List (List SItem)):zb7 F (A++B)=zb7 F A+zb7 F B:=by unfold zb7;rw [List.map_append,List.sum_append]
theorem zgy (F:List SItem→Nat) (m:Nat) (L:List (List SItem)):zb7 F (List.replicate m L).flatten=m*zb7 F L:=by
 induction m with
 | zero=>simp [zb7]
 | succ m ih=>rw [List.replicate_succ,List.flatten_cons,ze1,ih,Nat.succ_mul,Nat.add_comm]
theorem zeo (F:List SItem→Nat) (g:List SItem→List SItem) (L:List (List SItem)):zb7 F (L.map g)=zb7 (fun t=>F (g t)) L:=by unfold zb7;rw [List.map_map];rfl
theorem zgf {F G:List SItem→Nat} {L:List (List SItem)} (h:∀t∈L,F t=G t):zb7 F L=zb7 G L:=by unfold zb7;rw [List.map_congr_left h]
theorem zdf (L:List (List SItem)):L.count []=zb7 (fun t=>if t=[] then 1 else 0) L:=by
 induction L with
 | nil=>rfl
 | cons t L ih=>
  rw [List.count_cons,ih];unfold zb7;rw [List.map_cons,List.sum_cons]
  by_cases h:t=[]
  ·simp [h];omega
  ·simp [h]
theorem zmx (F:List SItem→Nat) (m:Nat) (L:List (List SItem)):zb7 (fun t=>F t*m) L=zb7 F L*m:=by
 induction L with
 | nil=>simp [zb7]
 | cons t L ih=>
  unfold zb7 at *;simp only [List.map_cons,List.sum_cons];rw [ih,Nat.add_mul]
theorem pmI_ne {d:List SNode} (hd:ROk d) (x:SItem):∀p∈pmI d x,p≠[]:=by
 intro p hp e;subst e;have k1:∀i,[] ∉ pm d i:=fun i h=>by
  obtain ⟨y,q,e,_⟩:=PM_rng hd (i.toNat+1) i (by omega) _ h;cases e
 unfold pmI at hp;split at hp
 ·exact k1 _ hp
 ·split at hp
  ·split at hp
   ·split at hp
    ·obtain ⟨q,_,e⟩:=List.mem_map.1 hp;simp at e
    ·cases hp
   ·cases hp
  ·split at hp
   ·cases hp
   ·simp at hp
theorem zr7 {d:List SNode} (hd:ROk d) (F:List SItem→Nat) (r:List SItem):∀s,zb7 F (hds d (s++r))=zb7 (fun t=>if t=[] then zb7 F (hds d r) else F (t++r)) (hds d s)
 | []=>by simp [hds,zb7]
 | x::s=>by
  have ih:=zr7 hd F r s;simp only [List.cons_append,hds];rw [ze1,ze1,zgy,zgy,zeo,zeo,ih]
  congr 1
  refine zgf fun p hp=>?_;rw [if_neg (by have:=pmI_ne hd x p hp;simp [this]),List.append_assoc]
theorem lowF_app (s r:List SItem):zds (s++r)=if (zds s).2=true∧(zds r).2=true then ((zds s).1++(zds r).1,true) else ([],false):=by
 unfold zds;rw [List.any_append,List.map_append];cases s.any zld <;> cases r.any zld <;> simp
theorem zn5 {d:List SNode} {t:List SItem} (ht:t≠[]) (r:List SItem) (c:Int):zx d (t++r) c=if (zx d t c).2=true∧(zds r).2=true then ((zx d t c).1++(zds r).1,true) else ([],false):=by
 cases t with
 | nil=>exact absurd rfl ht
 | cons x rest=>
  have hl:=lowF_app rest r;cases h1:(zds rest).2
  ·have e1:zx d (x::rest) c=([],false):=by unfold zx;simp only;rw [if_pos h1]
   have e2:(zds (rest++r)).2=false:=by rw [hl,h1];simp
   rw [e1];rw [List.cons_append];unfold zx;simp only;rw [if_pos e2];simp
  ·cases h2:(zds r).2
   ·have e2:(zds (rest++r)).2=false:=by rw [hl,h2];simp
    rw [List.cons_append];have e3:zx d (x::(rest++r)) c=([],false):=by unfold zx;simp only;rw [if_pos e2]
    rw [e3,if_neg (by simp)]
   ·have e2:zds (rest++r)=((zds rest).1++(zds r).1,true):=by rw [hl,h1,h2];simp
    rw [List.cons_append];unfold zx;simp only [e2];rw [if_neg (show ¬ true=false by simp),if_neg (show ¬ (zds rest).2=false by rw [h1];simp)];cases hn:at? d x.2.1 with
    | none=>simp
    | some n=>
     simp only
     by_cases h3:x.1=3
     ·rw [if_pos h3,if_pos h3];split
      ·simp
      ·simp
     ·rw [if_neg h3,if_neg h3]
      by_cases h4:x.1=4
      ·rw [if_pos h4,if_pos h4];simp
      ·rw [if_neg h4,if_neg h4]
       by_cases h8:n.1=8
       ·rw [if_pos h8,if_pos h8];simp
       ·rw [if_neg h8,if_neg h8]
        by_cases h9:n.1=9
        ·rw [if_pos h9,if_pos h9];simp
        ·rw [if_neg h9,if_neg h9]
         by_cases hh:n.2.2.2.2.2.1.has c.toNat=true
         ·rw [if_pos hh,if_pos hh];simp
         ·rw [if_neg hh,if_neg hh];simp
def wyn (d:List SNode):List Int→List SItem→Nat
 | [],s=>(hds d s).count []
 | c::w,s=>zb7 (fun t=>if (zx d t c).2=true then wyn d w (zx d t c).1 else 0) (hds d s)
def zo3:Nat→List SItem→Option (List SItem)
 | 0,s=>some s
 | p+1,s=>if (zds s).2=true then zo3 p (zds s).1 else none
def wynO (d:List SNode) (w:List Int):Option (List SItem)→Nat
 | some s=>wyn d w s
 | none=>0
theorem zhn (d:List SNode) (w:List Int) (s:List SItem):wynO d w (some s)=wyn d w s:=rfl
def zek (F:List Int→List Int→Nat):List Int→Nat
 | []=>F [] []
 | c::w=>F [] (c::w)+zek (fun a b=>F (c::a) b) w
theorem zfa {F G:List Int→List Int→Nat}:∀{w:List Int},(∀a b,a++b=w→F a b=G a b)→zek F w=zek G w
 | [],h=>h [] [] rfl
 | c::w,h=>by
  unfold zek;rw [h [] (c::w) rfl,zfa fun a b e=>h (c::a) b (by simp [e])]
theorem zf0:∀(w:List Int),zek (fun _ _=>0) w=0
 | []=>rfl
 | c::w=>by unfold zek;rw [zf0 w]
theorem zm6 (F G:List Int→List Int→Nat):∀(w:List Int),zek (fun a b=>F a b+G a b) w=zek F w+zek G w
 | []=>rfl
 | c::w=>by unfold zek;rw [zm6 (fun a b=>F (c::a) b) (fun a b=>G (c::a) b) w];omega
theorem cutS_sum (g:List SItem→List Int→List Int→Nat) (w:List Int):∀(L:List (List SItem)),zek (fun a b=>zb7 (fun t=>g t a b) L) w=zb7 (fun t=>zek (g t) w) L
 | []=>by simp [zb7,zf0]
 | t::L=>by
  have ih:=cutS_sum g w L;have e:(fun a b=>zb7 (fun t=>g t a b) (t::L))=fun a b=>g t a b+zb7 (fun t=>g t a b) L:=by
   funext a b;simp [zb7]
  rw [e,zm6,ih];simp [zb7]
theorem wyn_app {d:List SNode} (hd:ROk d):∀(w:List Int) (s r:List SItem),wyn d w (s++r)=zek (fun a b=>wyn d a s*wynO d b (zo3 a.length r)) w
 | [],s,r=>by
  simp only [wyn,zek,List.length_nil,zo3,zhn];rw [zdf,zr7 hd,zdf (hds d s),← zmx];refine zgf fun t _=>?_
  by_cases ht:t=[]
  ·rw [if_pos ht,if_pos ht,← zdf,Nat.one_mul]
  ·rw [if_neg ht,if_neg ht,if_neg (by simp [ht])];simp
 | c::w,s,r=>by
  have ih:=wyn_app hd w;simp only [wyn,zek,List.length_nil,zo3,zhn];rw [zr7 hd];cases hl:(zds r).2
  ·-- nothing behind may be lowered
   have e0:zek (fun a b=>zb7 (fun t=>if (zx d t c).2=true then wyn d a (zx d t c).1 else 0) (hds d s)*wynO d b (zo3 (c::a).length r)) w=0:=by
    have:(fun a b=>zb7 (fun t=>if (zx d t c).2=true then wyn d a (zx d t c).1 else 0) (hds d s)*wynO d b (zo3 (c::a).length r))=fun _ _=>0:=by
     funext a b;simp [zo3,hl,wynO]
    rw [this,zf0]
   rw [e0,Nat.add_zero,zdf,← zmx];refine zgf fun t _=>?_
   by_cases ht:t=[]
   ·rw [if_pos ht,if_pos ht,Nat.one_mul]
   ·rw [if_neg ht,if_neg ht,zn5 ht,hl];simp
  ·have e0:zek (fun a b=>zb7 (fun t=>if (zx d t c).2=true then wyn d a (zx d t c).1 else 0) (hds d s)*wynO d b (zo3 (c::a).length r)) w
     = zb7 (fun t=>if (zx d t c).2=true then wyn d w ((zx d t c).1++(zds r).1) else 0) (hds d s):=by
    have e1:(fun a b=>zb7 (fun t=>if (zx d t c).2=true then wyn d a (zx d t c).1 else 0) (hds d s)*wynO d b (zo3 (c::a).length r))
      = fun (a:List Int) b=>zb7 (fun t=>(if (zx d t c).2=true then wyn d a (zx d t c).1 else 0)*wynO d b (zo3 a.length (zds r).1)) (hds d s):=by
     funext a b;rw [zmx];simp [zo3,hl]
    rw [e1,cutS_sum (fun t a b=>(if (zx d t c).2=true then wyn d a (zx d t c).1 else 0)*wynO d b (zo3 a.length (zds r).1))];refine zgf fun t _=>?_;cases hr:(zx d t c).2
    ·simp [zf0]
    ·simp only [if_true];rw [ih]
   rw [e0,zdf,← zmx];have e2:∀(A B:List SItem→Nat) (L:List (List SItem)),zb7 A L+zb7 B L=zb7 (fun t=>A t+B t) L:=by
    intro A B L
    induction L with
    | nil=>rfl
    | cons t L ih=>unfold zb7 at *;simp only [List.map_cons,List.sum_cons];omega
   rw [e2];refine zgf fun t _=>?_
   by_cases ht:t=[]
   ·subst ht;simp [zx]
   ·rw [if_neg ht,if_neg ht,zn5 ht,hl];cases hr:(zx d t c).2
    ·simp
    ·simp
def zbm (d:List SNode) (i:Int) (w:List Int):Nat:=wyn d w [(1,i,0,0)]
theorem zmt {d:List SNode} {s s':List SItem} (h:∀F,zb7 F (hds d s)=zb7 F (hds d s')) (w:List Int):wyn d w s=wyn d w s':=by
 cases w with
 | nil=>simp only [wyn];rw [zdf,zdf,h]
 | cons c w=>simp only [wyn];rw [h]
theorem wyn_two {d:List SNode} {s s1 s2:List SItem} (h:∀F,zb7 F (hds d s)=zb7 F (hds d s1)+zb7 F (hds d s2)) (w:List Int):wyn d w s=wyn d w s1+wyn d w s2:=by
 cases w with
 | nil=>simp only [wyn];rw [zdf,zdf,zdf,h]
 | cons c w=>simp only [wyn];rw [h]
theorem zql (d:List SNode) (w:List Int):wyn d w []=if w=[] then 1 else 0:=by
 cases w with
 | nil=>simp [wyn,hds]
 | cons c w=>simp [wyn,hds,zb7,zx]
theorem zmf (d:List SNode) (r:Int):hds d [(1,r,0,0)]=pm d r++(List.replicate (nw d r) [[]]).flatten:=by
 have e1:pmI d (1,r,0,0)=pm d r:=rfl;have e2:nwI d (1,r,0,0)=nw d r:=rfl;simp only [hds,e1,e2,List.append_nil];rw [List.map_id']
theorem zdh (d:List SNode) (F:List SItem→Nat) (i:Int):zb7 F (hds d [(1,i,0,0)])=zb7 F (pm d i)+nw d i*F []:=by
 have e1:pmI d (1,i,0,0)=pm d i:=rfl;have e2:nwI d (1,i,0,0)=nw d i:=rfl;simp only [hds,e1,e2,List.append_nil];rw [List.map_id',ze1,zgy];simp [zb7]
theorem zho (d:List SNode) (F:List SItem→Nat) (i:Int) (r:List SItem):zb7 F (hds d ((1,i,0,0)::r))=zb7 (fun p=>F (p++r)) (pm d i)+nw d i*zb7 F (hds d r):=by
 have e1:pmI d (1,i,0,0)=pm d i:=rfl;have e2:nwI d (1,i,0,0)=nw d i:=rfl;simp only [hds,e1,e2];rw [ze1,zgy,zeo]
theorem zke {d:List SNode} (hd:ROk d) {i:Int} {n:SNode} (hn:at? d i=some n) (h:n.1=6∨n.1=7):nw d n.2.1=0:=by
 obtain ⟨p,q⟩:=hd.one _ n hn (by omega);obtain ⟨m,hm⟩:=zdu hn p q;have:=zkd hd (n.2.1.toNat+1) _ m (by omega) hm;rw [hd.nn _ n hn h] at this;rcases Nat.eq_zero_or_pos (nw d n.2.1) with h0 | h0
 ·exact h0
 ·have:=this.1 (by omega);cases this
def NoEnd (s:List SItem):Prop:=∀x∈s,x.1≠5
theorem lowF_plain {s:List SItem} (h:NoEnd s):zds s=(s,true):=by
 unfold zds;have h1:s.any zld=false:=by
  rw [List.any_eq_false];intro x hx;simp [zld,h x hx]
 rw [h1];simp only [Bool.false_eq_true,if_false,Prod.mk.injEq,and_true];have:∀x∈s,zlh x=id x:=fun x hx=>by unfold zlh;rw [if_neg (h x hx)];rfl
 rw [List.map_congr_left this,List.map_id]
theorem ze8 {s:List SItem} (h:NoEnd s):∀p,zo3 p s=some s
 | 0=>rfl
 | p+1=>by
  unfold zo3;rw [lowF_plain h];simp only [if_true];exact ze8 h p
theorem zne {d:List SNode} (hd:ROk d) (w:List Int) (s:List SItem) {r:List SItem} (h:NoEnd r):wyn d w (s++r)=zek (fun a b=>wyn d a s*wyn d b r) w:=by
 rw [wyn_app hd];exact zfa fun a b _=>by rw [ze8 h,zhn]
section
variable {d : List SNode} (hd : ROk d) {i : Int} {n : SNode} (hn : at? d i = some n)
include hd hn
theorem zqd (h:n.1=1) (w:List Int):zbm d i w=if w=[] then 1 else 0:=by
 have e:=zj3 hd hn;rw [if_pos h] at e;have e1:pm d i=[]:=by unfold pm;rw [e]
 have e2:nw d i=1:=by unfold nw;rw [e]
 unfold zbm;rw [← zql d w];refine zmt (fun F=>?_) w;rw [zdh,e1,e2];simp [hds,zb7]
theorem zrp (h:n.1=4) (w:List Int):zbm d i w=zek (fun a b=>zbm d n.2.1 a*zbm d n.2.2.1 b) w:=by
 have e:=zj3 hd hn;rw [if_neg (by omega),if_neg (by omega),if_pos h] at e;have e1:pm d i=(pm d n.2.1).map (·++[(1,n.2.2.1,0,0)])++(List.replicate (nw d n.2.1) (pm d n.2.2.1)).flatten:=by
  have:pm d i=(PM d d.length i).1:=rfl;rw [this,e]
 have e2:nw d i=nw d n.2.1*nw d n.2.2.1:=by
  have:nw d i=(PM d d.length i).2:=rfl;rw [this,e]
 unfold zbm;rw [← zne hd w [(1,n.2.1,0,0)] (r:=[(1,n.2.2.1,0,0)]) (by intro x hx;rw [List.mem_singleton.1 hx];simp)];refine zmt (fun F=>?_) w;rw [zdh,List.singleton_append,zho,zdh,e1,e2,ze1,zeo,zgy,Nat.mul_add,Nat.mul_assoc,Nat.add_assoc]
theorem zrq (h:n.1=5) (w:List Int):zbm d i w=zbm d n.2.1 w+zbm d n.2.2.1 w:=by
 have e:=zj3 hd hn;rw [if_neg (by omega),if_neg (by omega),if_neg (by omega),if_pos h] at e;have e1:pm d i=pm d n.2.1++pm d n.2.2.1:=by
  have:pm d i=(PM d d.length i).1:=rfl;rw [this,e]
 have e2:nw d i=nw d n.2.1+nw d n.2.2.1:=by
  have:nw d i=(PM d d.length i).2:=rfl;rw [this,e]
 unfold zbm;refine wyn_two (fun F=>?_) w;rw [zdh,zdh,zdh,e1,e2,ze1,Nat.add_mul];omega
theorem node_star (h:n.1=6) (w:List Int):zbm d i w=(if w=[] then 1 else 0)+zek (fun a b=>zbm d n.2.1 a*zbm d i b) w:=by
 have e:=zj3 hd hn;rw [if_neg (by omega),if_neg (by omega),if_neg (by omega),if_neg (by omega),if_pos h] at e;have e1:pm d i=(pm d n.2.1).map (·++[(1,i,0,0)]):=by
  have:pm d i=(PM d d.length i).1:=rfl;rw [this,e]
 have e2:nw d i=1:=by
  have:nw d i=(PM d d.length i).2:=rfl;rw [this,e]
 have z:=zke hd hn (.inl h);unfold zbm;rw [← zne hd w [(1,n.2.1,0,0)] (r:=[(1,i,0,0)]) (by intro x hx;rw [List.mem_singleton.1 hx];simp),← zql d w];refine wyn_two (fun F=>?_) w;rw [zdh,List.singleton_append,zho,e1,e2,z,zeo];simp [hds,zb7];omega
theorem item_rep (h:n.1=7) (lo hi:Int) (w:List Int):wyn d w [(2,i,lo,hi)]=(if lo=0∧w=[] then 1 else 0)+if 0<hi then zek (fun a b=>zbm d n.2.1 a*wyn d b [(2,i,max (lo-1) 0,hi-1)]) w else 0:=by
 have z:=zke hd hn (.inr h);have e1:pmI d (2,i,lo,hi)=if 0<hi then (pm d n.2.1).map (·++[(2,i,max (lo-1) 0,hi-1)]) else []:=by
  unfold pmI;simp [hn]
 have e2:nwI d (2,i,lo,hi)=if lo=0 then 1 else 0:=by simp [nwI]
 have base:∀F,zb7 F (hds d [(2,i,lo,hi)])=(if lo=0 then F [] else 0)+if 0<hi then zb7 F (hds d ([(1,n.2.1,0,0)]++[(2,i,max (lo-1) 0,hi-1)])) else 0:=by
  intro F;simp only [List.singleton_append];rw [zho,z];have e3:hds d [(2,i,lo,hi)]=(pmI d (2,i,lo,hi)).map (·++[])++(List.replicate (nwI d (2,i,lo,hi)) [[]]).flatten:=rfl;rw [e3,ze1,zgy,e1,e2,zeo]
  by_cases h0:lo=0
  ·by_cases h1:0<hi
   ·simp only [if_pos h0,if_pos h1,List.append_nil];rw [zeo];simp [zb7];omega
   ·simp only [if_pos h0,if_neg h1];simp [zb7]
  ·by_cases h1:0<hi
   ·simp only [if_neg h0,if_pos h1,List.append_nil];rw [zeo];simp [zb7]
   ·simp only [if_neg h0,if_neg h1];simp [zb7]
 have ap:=zne hd w [(1,n.2.1,0,0)] (r:=[(2,i,max (lo-1) 0,hi-1)]) (by intro x hx;rw [List.mem_singleton.1 hx];simp);unfold zbm;rw [← ap];cases w with
 | nil=>
  simp only [wyn];rw [zdf,base,← zdf]
  by_cases h0:lo=0 <;> simp [h0]
 | cons c w=>
  simp only [wyn];rw [base]
  by_cases h0:lo=0 <;> simp [h0,zx]
theorem node_rep (h:n.1=7) (w:List Int):zbm d i w=wyn d w [(2,i,n.2.2.2.1,n.2.2.2.2.1)]:=by
 have e:=zj3 hd hn;rw [if_neg (by omega),if_neg (by omega),if_neg (by omega),if_neg (by omega),if_neg (by omega),if_pos h] at e;have e1:pm d i=if 0<n.2.2.2.2.1 then (pm d n.2.1).map (·++[(2,i,max (n.2.2.2.1-1) 0,n.2.2.2.2.1-1)]) else []:=by
  have:pm d i=(PM d d.length i).1:=rfl;rw [this,e]
 have e2:nw d i=if n.2.2.2.1=0 then 1 else 0:=by
  have:nw d i=(PM d d.length i).2:=rfl;rw [this,e]
 have e3:pmI d (2,i,n.2.2.2.1,n.2.2.2.2.1)=pm d i:=by rw [e1];unfold pmI;simp [hn]
 have e4:nwI d (2,i,n.2.2.2.1,n.2.2.2.2.1)=nw d i:=by rw [e2];simp [nwI]
 unfold zbm;refine zmt (fun F=>?_) w;have e5:hds d [(2,i,n.2.2.2.1,n.2.2.2.2.1)]=(pmI d (2,i,n.2.2.2.1,n.2.2.2.2.1)).map (·++[])++(List.replicate (nwI d (2,i,n.2.2.2.1,n.2.2.2.2.1)) [[]]).flatten:=rfl;rw [e5,e3,e4];rfl
theorem zm0 (h:n.1=2∨n.1=8∨n.1=9):pm d i=[[(1,i,0,0)]]∧nw d i=0:=by
 have e:=zj3 hd hn;rw [if_neg (by omega),if_neg (by omega),if_neg (by omega),if_neg (by omega),if_neg (by omega),if_neg (by omega)] at e;have h1:pm d i=(PM d d.length i).1:=rfl;have h2:nw d i=(PM d d.length i).2:=rfl;rw [h1,h2,e];exact ⟨rfl,rfl⟩
theorem zl0 (h:n.1=2∨n.1=8∨n.1=9):zbm d i []=0∧∀c w,zbm d i (c::w)=if (zx d [(1,i,0,0)] c).2=true then wyn d w (zx d [(1,i,0,0)] c).1 else 0:=by
 obtain ⟨e1,e2⟩:=zm0 hd hn h;have e3:hds d [(1,i,0,0)]=[[(1,i,0,0)]]:=by rw [zmf,e1,e2];rfl
 unfold zbm;refine ⟨by simp [wyn,e3],fun c w=>by simp [wyn,e3,zb7]⟩
theorem zjt (h:n.1=2) (w:List Int):zbm d i w=match w with | []=>0 | c::w=>if n.2.2.2.2.2.1.has c.toNat=true∧w=[] then 1 else 0:=by
 obtain ⟨k1,k2⟩:=zl0 hd hn (.inl h);cases w with
 | nil=>exact k1
 | cons c w=>
  rw [k2];have e:zx d [(1,i,0,0)] c=if n.2.2.2.2.2.1.has c.toNat=true then ([],true) else ([],false):=by
   unfold zx;simp only [hn];rw [if_neg (by simp [zds]),if_neg (by decide),if_neg (by decide),if_neg (by omega),if_neg (by omega)];rfl
  rw [e]
  by_cases hh:n.2.2.2.2.2.1.has c.toNat=true
  ·rw [if_pos hh];simp only [if_true];rw [zql];simp [hh]
  ·rw [if_neg hh];simp [hh]
end
end Go.Proofs.YtahgmdbioafmbaaGreatDoor.V
namespace Go.Proofs.YtahgmdbioafmbaaGreatDoor.V
open Go
set_option linter.unusedVariables false
theorem zsd {F:List Int→List Int→Nat}:∀{w:List Int},(∀a b,a++b=w→b≠[]→F a b=0)→zek F w=F w []
 | [],_=>rfl
 | c::w,h=>by
  unfold zek;rw [h [] (c::w) rfl (by simp),Nat.zero_add];exact zsd fun a b e hb=>h (c::a) b (by simp [e]) hb
theorem zm3 (m:Int) (hm:0≤m):∀p:Nat,zo3 p [(5,0,m,0)]=if (p:Int)≤m then some [(5,0,m-p,0)] else none:=by
 intro p
 induction p generalizing m with
 | zero=>simp [zo3,hm]
 | succ p ih=>
  unfold zo3
  by_cases h0:m≤0
  ·have e:zds [(5,0,m,0)]=([],false):=by simp [zds,zld,h0]
   rw [e,if_neg (by simp),if_neg (by omega)]
  ·have e:zds [(5,0,m,0)]=([(5,0,m-1,0)],true):=by simp [zds,zld,zlh,h0]
   rw [e];simp only [if_true];rw [ih (m-1) (by omega)]
   by_cases h1:((p+1:Nat):Int)≤m
   ·rw [if_pos (by omega),if_pos h1]
    congr 3
    simp;omega
   ·rw [if_neg (by omega),if_neg h1]
theorem wyn_end (d:List SNode) (m:Int) (w:List Int):wyn d w [(5,0,m,0)]=if m=0∧w=[] then 1 else 0:=by
 have e:hds d [(5,0,m,0)]=if m=0 then [[]] else []:=by
  have e1:pmI d (5,0,m,0)=[]:=by simp [pmI]
  have e2:nwI d (5,0,m,0)=if m=0 then 1 else 0:=by simp [nwI]
  have e3:hds d [(5,0,m,0)]=(pmI d (5,0,m,0)).map (·++[])++(List.replicate (nwI d (5,0,m,0)) [[]]).flatten:=rfl;rw [e3,e1,e2];split <;> rfl
 cases w with
 | nil=>simp only [wyn,e];split <;> simp_all
 | cons c w=>simp only [wyn,e];split <;> simp [zb7,zx]
section
variable {d : List SNode} (hd : ROk d)
include hd
theorem wyn_held (i:Int) {c:Int} (hc:0≤c) (w:List Int):wyn d w [(1,i,0,0),(5,0,c,0)]=if (w.length:Int)=c then zbm d i w else 0:=by
 have e:=wyn_app hd w [(1,i,0,0)] [(5,0,c,0)];rw [List.singleton_append] at e;rw [e,zsd]
 ·rw [zm3 c hc];unfold zbm
  by_cases h:(w.length:Int)=c
  ·rw [if_pos (by omega),if_pos h,zhn,wyn_end,if_pos ⟨by omega,rfl⟩,Nat.mul_one]
  ·rw [if_neg h]
   by_cases h1:(w.length:Int)≤c
   ·rw [if_pos h1,zhn,wyn_end,if_neg (by omega)];simp
   ·rw [if_neg h1];simp [wynO]
 ·intro a b hab hb;rw [zm3 c hc];split
  ·rw [zhn,wyn_end,if_neg (by simp [hb])];simp
  ·simp [wynO]
variable {i : Int} {n : SNode} (hn : at? d i = some n)
include hn
theorem zjs (h:n.1=8) (w:List Int) (hw:∀c∈w,0≤c):zbm d i w=match w with | []=>0 | c::w=>if (w.length:Int)=c then zbm d n.2.1 w else 0:=by
 obtain ⟨k1,k2⟩:=zl0 hd hn (.inr (.inl h));cases w with
 | nil=>exact k1
 | cons c w=>
  rw [k2];have e:zx d [(1,i,0,0)] c=([(1,n.2.1,0,0),(5,0,c,0)],true):=by
   unfold zx;simp only [hn];rw [if_neg (by simp [zds]),if_neg (by decide),if_neg (by decide),if_pos h];rfl
  rw [e];simp only [if_true];exact wyn_held hd n.2.1 (hw c (by simp)) w
theorem ziy (h:n.1=9) (w:List Int) (hw:∀c∈w,0≤c):zbm d i w=match w with | []=>0 | [_]=>0 | c::b::w=>if (w.length:Int)=256*c+b then zbm d n.2.1 w else 0:=by
 obtain ⟨k1,k2⟩:=zl0 hd hn (.inr (.inr h));cases w with
 | nil=>exact k1
 | cons c w=>
  rw [k2];have e:zx d [(1,i,0,0)] c=([(4,i,c,0)],true):=by
   unfold zx;simp only [hn];rw [if_neg (by simp [zds]),if_neg (by decide),if_neg (by decide),if_neg (by omega),if_pos h];rfl
  rw [e];simp only [if_true];have e4:hds d [(4,i,c,0)]=[[(4,i,c,0)]]:=by
   have e1:pmI d (4,i,c,0)=[[(4,i,c,0)]]:=by simp [pmI]
   have e2:nwI d (4,i,c,0)=0:=by simp [nwI]
   have e3:hds d [(4,i,c,0)]=(pmI d (4,i,c,0)).map (·++[])++(List.replicate (nwI d (4,i,c,0)) [[]]).flatten:=rfl;rw [e3,e1,e2];rfl
  cases w with
  | nil=>simp [wyn,e4]
  | cons b w=>
   have e5:zx d [(4,i,c,0)] b=([(1,n.2.1,0,0),(5,0,256*c+b,0)],true):=by
    unfold zx;simp only [hn];rw [if_neg (by simp [zds]),if_neg (by decide),if_pos trivial];rfl
   simp only [wyn,e4];have hc0:=hw c (by simp);have hb0:=hw b (by simp);have:zb7 (fun t=>if (zx d t b).2=true then wyn d w (zx d t b).1 else 0) [[(4,i,c,0)]]=wyn d w [(1,n.2.1,0,0),(5,0,256*c+b,0)]:=by
    simp [zb7,e5]
   rw [this];exact wyn_held hd n.2.1 (by omega) w
omit hd in
theorem wyn_text (h:n.1=3):∀(w:List Int) (lo:Nat),lo<n.2.2.2.2.2.2.length→wyn d w [(3,i,(lo:Int),0)]=if w=(n.2.2.2.2.2.2.map fun b=>(b.toNat:Int)).drop lo then 1 else 0:=by
 have e3:∀lo:Int,hds d [(3,i,lo,0)]=[[(3,i,lo,0)]]:=fun lo=>by
  have e1:pmI d (3,i,lo,0)=[[(3,i,lo,0)]]:=by simp [pmI]
  have e2:nwI d (3,i,lo,0)=0:=by simp [nwI]
  have e3:hds d [(3,i,lo,0)]=(pmI d (3,i,lo,0)).map (·++[])++(List.replicate (nwI d (3,i,lo,0)) [[]]).flatten:=rfl
  rw [e3,e1,e2];rfl
 intro w
 induction w with
 | nil=>
  intro lo hlo
  rw [if_neg (by
   intro e
   have:=congrArg List.length e
   simp at this
   omega)]
  simp [wyn,e3]
 | cons c w ih=>
  intro lo hlo
  have hb:zd2 n.2.2.2.2.2.2 (lo:Int)=some ((n.2.2.2.2.2.2[lo]).toNat:Int):=by
   unfold zd2
   rw [zbq,List.getElem?_eq_getElem hlo];rfl
  have hdr:(n.2.2.2.2.2.2.map fun b=>(b.toNat:Int)).drop lo=((n.2.2.2.2.2.2[lo]).toNat:Int)::(n.2.2.2.2.2.2.map fun b=>(b.toNat:Int)).drop (lo+1):=by
   rw [List.drop_eq_getElem_cons (by simpa using hlo)];simp
  have hr:zx d [(3,i,(lo:Int),0)] c=if zd2 n.2.2.2.2.2.2 (lo:Int)=some c then (if (lo:Int)+1<(n.2.2.2.2.2.2.length:Int) then [(3,i,(lo:Int)+1,0)] else [],true) else ([],false):=by
   unfold zx
   simp only [hn]
   rw [if_neg (by simp [zds]),if_pos trivial]
   split
   ·split <;> rfl
   ·rfl
  simp only [wyn,e3]
  have es:zb7 (fun t=>if (zx d t c).2=true then wyn d w (zx d t c).1 else 0) [[(3,i,(lo:Int),0)]]=if (zx d [(3,i,(lo:Int),0)] c).2=true then wyn d w (zx d [(3,i,(lo:Int),0)] c).1 else 0:=by simp [zb7]
  rw [es,hdr]
  by_cases hc:((n.2.2.2.2.2.2[lo]).toNat:Int)=c
  ·have hr2:zx d [(3,i,(lo:Int),0)] c=(if (lo:Int)+1<(n.2.2.2.2.2.2.length:Int) then [(3,i,(lo:Int)+1,0)] else [],true):=by rw [hr,hb,if_pos (by rw [hc])]
   rw [hr2]
   simp only [if_true]
   by_cases hl:lo+1<n.2.2.2.2.2.2.length
   ·rw [if_pos (show (lo:Int)+1<(n.2.2.2.2.2.2.length:Int) by omega)]
    have:=ih (lo+1) hl
    have ec:((lo+1:Nat):Int)=(lo:Int)+1:=by omega
    rw [ec] at this
    rw [this,hc]
    simp
   ·rw [if_neg (show ¬ (lo:Int)+1<(n.2.2.2.2.2.2.length:Int) by omega),zql,hc]
    have:(n.2.2.2.2.2.2.map fun b=>(b.toNat:Int)).drop (lo+1)=[]:=List.drop_of_length_le (by simp;omega)
    rw [this]
    simp
  ·have hr2:zx d [(3,i,(lo:Int),0)] c=([],false):=by rw [hr,hb,if_neg (by simpa using hc)]
   rw [hr2]
   simp only [Bool.false_eq_true,if_false]
   rw [if_neg]
   intro e
   injection e with e1 e2
   exact hc e1.symm
theorem zob (h:n.1=3) (w:List Int):zbm d i w=if w=(n.2.2.2.2.2.2.map fun b=>(b.toNat:Int)) then 1 else 0:=by
 have hne:=hd.ntx _ n hn h;have hlo:0<n.2.2.2.2.2.2.length:=List.length_pos_iff.2 hne;have e:=zj3 hd hn;rw [if_neg (by omega),if_pos h] at e;have e1:pm d i=[[(3,i,0,0)]]:=by
  have:pm d i=(PM d d.length i).1:=rfl;rw [this,e]
 have e2:nw d i=0:=by
  have:nw d i=(PM d d.length i).2:=rfl;rw [this,e]
 have:=wyn_text hn h w 0 hlo;rw [List.drop_zero] at this;rw [← this];unfold zbm;refine zmt (fun F=>?_) w;rw [zdh,e1,e2];have e3:pmI d (3,i,((0:Nat):Int),0)=[[(3,i,0,0)]]:=by simp [pmI]
 have e4:nwI d (3,i,((0:Nat):Int),0)=0:=by simp [nwI]
 have e5:hds d [(3,i,((0:Nat):Int),0)]=(pmI d (3,i,((0:Nat):Int),0)).map (·++[])++(List.replicate (nwI d (3,i,((0:Nat):Int),0)) [[]]).flatten:=rfl;rw [e5,e3,e4];simp [zb7]
end
end Go.Proofs.YtahgmdbioafmbaaGreatDoor.V
namespace Go.Proofs.YtahgmdbioafmbaaGreatDoor.V
open Go
set_option linter.unusedVariables false
def zde (N:Nat) (g:Nat→Int):List Int:=(List.range (N+1)).map g
theorem zh8 (N:Nat) (g:Nat→Int):(zde N g).length=N+1:=by simp [zde]
theorem zhd {N:Nat} {g:Nat→Int} {q:Nat} (h:q≤N):at? (zde N g) (q:Int)=some (g q):=by
 rw [zbq];unfold zde;rw [List.getElem?_map,List.getElem?_range (by omega)];rfl
theorem zg4 (N:Nat) (g:Nat→Int) (q:Nat) (v:Int):(zde N g).set q v=zde N (fun k=>if k=q then v else g k):=by
 apply List.ext_getElem
 ·simp [zde]
 ·intro i h1 h2;rw [List.getElem_set];simp only [zde,List.getElem_map,List.getElem_range]
  by_cases h:q=i
  ·subst h;simp
  ·rw [if_neg h,if_neg (fun e=>h e.symm)]
theorem zbh {N:Nat} {g h:Nat→Int} (e:∀q,q≤N→g q=h q):zde N g=zde N h:=by
 unfold zde;refine List.map_congr_left fun q hq=>e q ?_;have:=List.mem_range.1 hq;omega
theorem znd {w:List Int} (hw:w.length≤1000):ze7 w (zde w.length fun _=>0):=by
 refine ⟨zh (by omega) (by omega),⟨by omega,by omega⟩, ?_⟩;have e:((w.length:Int)+1).toNat=w.length+1:=by omega
 rw [e];apply List.ext_getElem
 ·simp [zde]
 ·intro i h1 h2;simp [zde]
theorem zrk {N:Nat} (hN:N≤1000) {g h:Nat→Int} {t:Int} (hg:∀q,0≤g q∧g q≤2) (hh:∀q,0≤h q∧h q≤2) (ht:0≤t∧t≤2):zb1 (zde N g) (zde N h) t (zde N fun q=>min 2 (g q+t*h q)):=by
 refine ⟨by rw [zh8];simp;omega, ?_⟩;refine zgx (P:=fun k (o:List Int) v=>zb1.l1 (zde N h) t _ k o v) (N+1) (fun i o=>o=zde N fun q=>if q<i then min 2 (g q+t*h q) else g q) ?_ ?_ _ (by simp)
 ·rintro i o hi rfl;have e1:at? (zde N fun q=>if q<i then min 2 (g q+t*h q) else g q) (i:Int)=some (g i):=by
   rw [zhd (by omega),if_neg (by omega)]
  have e2:at? (zde N h) (i:Int)=some (h i):=zhd (by omega);have hp:0≤t*h i∧t*h i≤4:=by
   have h1:=hh i;have:t=0∨t=1∨t=2:=by omega
   rcases this with rfl | rfl | rfl <;> omega
  have hgi:=hg i;refine .inr ⟨_,rfl,fun k hk=>⟨fun _=>⟨_,e1,_,e2,zh (by omega) (by omega),zh (by omega) (by omega),_,e1,zh (by omega) (by omega), ?_⟩,fun hx=>absurd (by rw [zh8];omega) (df hx)⟩⟩;rw [Int.toNat_natCast,zg4];have:(zde N fun k=>if k=i then min 2 (g i+t*h i) else if k<i then min 2 (g k+t*h k) else g k)=zde N fun q=>if q<i+1 then min 2 (g q+t*h q) else g q:=zbh fun q _=>by
   by_cases h1:q=i
   ·subst h1;simp
   ·rw [if_neg h1]
    by_cases h2:q<i
    ·rw [if_pos h2,if_pos (by omega)]
    ·rw [if_neg h2,if_neg (by omega)]
  rw [this];exact hk
 ·rintro o rfl k;refine ⟨fun hx=>absurd (dt hx) (by rw [zh8];omega),fun _=>?_⟩;show zde N _=zde N _;exact zbh fun q hq=>by rw [if_pos (by omega)]
theorem zhc (n:Nat):0≤sat n∧sat n≤2:=by unfold sat;omega
theorem sat_more (x a b:Nat):min 2 (sat x+sat a*sat b)=sat (x+a*b):=by
 have h:=min_mul a b;have e:(sat a*sat b:Int)=((min 2 a*min 2 b:Nat):Int):=by unfold sat;rw [Int.natCast_mul]
 rw [e];generalize min 2 a*min 2 b=P at *;generalize a*b=Q at *;unfold sat;omega
theorem sat_plus (x b:Nat):min 2 (sat x+1*sat b)=sat (x+b):=by unfold sat;omega
def zen (K:Nat) (f:Nat→Nat):Nat:=((List.range K).map f).sum
theorem zc1 (K:Nat) (f:Nat→Nat):zen (K+1) f=zen K f+f K:=by
 unfold zen;rw [List.range_succ,List.map_append,List.sum_append];simp
theorem zis (K:Nat):zen K (fun _=>0)=0:=by
 induction K with
 | zero=>rfl
 | succ K ih=>rw [zc1,ih]
theorem zem {K:Nat} {f g:Nat→Nat} (h:∀k,k<K→f k=g k):zen K f=zen K g:=by
 unfold zen;rw [List.map_congr_left fun k hk=>h k (List.mem_range.1 hk)]
theorem sumK_pick {K m:Nat} (hm:m<K) {f g:Nat→Nat} (h1:∀k,k≠m→f k=g k) (h2:g m=0):zen K f=f m+zen K g:=by
 induction K with
 | zero=>omega
 | succ K ih=>
  rw [zc1,zc1]
  by_cases h:m=K
  ·subst h;rw [h2,zem fun k hk=>h1 k (by omega)];omega
  ·rw [ih (by omega),h1 K (fun e=>h e.symm)];omega
def seg (w:List Int) (p q:Nat):List Int:=(w.take q).drop p
theorem zg3 (w:List Int) (p:Nat):seg w p p=[]:=by
 unfold seg;exact List.drop_of_length_le (by rw [List.length_take];omega)
theorem ze2 {w:List Int} {p q:Nat} (h:p<q) (hq:q≤w.length):seg w p q=w[p]'(by omega)::seg w (p+1) q:=by
 unfold seg;rw [List.drop_eq_getElem_cons (by rw [List.length_take];omega)];simp
theorem cutS_seg {w:List Int}:∀(m p q:Nat) (F:List Int→List Int→Nat),q=p+m→q≤w.length→zek F (seg w p q)=zen (w.length+1) fun k=>if p≤k∧k≤q then F (seg w p k) (seg w k q) else 0:=by
 intro m
 induction m with
 | zero=>
  intro p q F h hq;have:q=p:=by omega
  subst this;rw [sumK_pick (m:=q) (by omega) (g:=fun _=>0) (fun k hk=>if_neg (by omega)) rfl,zis,if_pos ⟨Nat.le_refl _,Nat.le_refl _⟩,zg3];rfl
 | succ m ih=>
  intro p q F h hq;have hp:p<w.length:=by omega
  have pick:=sumK_pick (K:=w.length+1) (m:=p) (by omega) (f:=fun k=>if p≤k∧k≤q then F (seg w p k) (seg w k q) else 0) (g:=fun k=>if p+1≤k∧k≤q then F (seg w p k) (seg w k q) else 0) (fun k hk=>by
   by_cases h1:p≤k∧k≤q
   ·rw [if_pos h1,if_pos (by omega)]
   ·rw [if_neg h1,if_neg (by omega)]) (if_neg (by omega))
  rw [pick];rw [if_pos (by omega),zg3,ze2 (show p<q by omega) hq];simp only [zek];rw [ih (p+1) q _ (by omega) hq]
  congr 1
  refine zem fun k hk=>?_
  by_cases h1:p+1≤k∧k≤q
  ·rw [if_pos h1,if_pos h1,ze2 (show p<k by omega) (by omega)]
  ·rw [if_neg h1,if_neg h1]
theorem through_in {n_:SDesc→Int→List Int→Int→List Int→Prop} {d:SDesc} {i:Int} {w:List Int} (hw:w.length≤1000) {A:Nat→Nat} {B:Nat→Nat→Nat} (hB:∀k,k≤w.length→A k≠0→n_ d i w (k:Int) (zde w.length fun q=>sat (B k q))):
  ref12_through.b n_ d i w (zde w.length fun k=>sat (A k)) (zde w.length fun q=>sat (zen (w.length+1) fun k=>A k*B k q)):=by
 refine ⟨_,znd hw, ?_⟩;refine zgx (P:=fun k (o:List Int) v=>ref12_through.l1 n_ d i w (zde w.length fun k=>sat (A k)) _ k o v) (w.length+1) (fun K o=>o=zde w.length fun q=>sat (zen K fun k=>A k*B k q)) ?_ ?_ _ ?_
 ·rintro K o hK rfl;have e1:at? (zde w.length fun k=>sat (A k)) (K:Int)=some (sat (A K)):=zhd (by omega);refine .inr ⟨_,rfl,fun k hk=>⟨fun _=>⟨_,e1,fun h0=>?_,fun h0=>⟨zh (by omega) (by omega), ?_⟩⟩,fun hx=>absurd (by rw [zh8];omega) (df hx)⟩⟩
  ·have h0:A K≠0:=by have:=dt h0;unfold sat at this;omega
   refine ⟨_,hB K (by omega) h0,_,e1,_,zrk hw (fun q=>zhc _) (fun q=>zhc _) (zhc _),zh (by omega) (by omega), ?_⟩;have:(zde w.length fun q=>min 2 (sat (zen K fun k=>A k*B k q)+sat (A K)*sat (B K q)))=zde w.length fun q=>sat (zen (K+1) fun k=>A k*B k q):=zbh fun q _=>by rw [sat_more,zc1]
   rw [this];exact hk
  ·have h0:A K=0:=by have:=df h0;unfold sat at this;omega
   have:(zde w.length fun q=>sat (zen K fun k=>A k*B k q))=zde w.length fun q=>sat (zen (K+1) fun k=>A k*B k q):=zbh fun q _=>by rw [zc1,h0];simp
   rw [this];exact hk
 ·rintro o rfl k;exact ⟨fun hx=>absurd (dt hx) (by rw [zh8];omega),fun _=>rfl⟩
 ·rfl
def zhe (f:List Int→Nat):Nat→List Int→Nat
 | 0,u=>if u=[] then 1 else 0
 | t+1,u=>zek (fun a b=>zhe f t a*f b) u
theorem zfw (f:List Int→Nat) (t:Nat) (u:List Int):zhe f (t+1) u=zek (fun a b=>zhe f t a*f b) u:=rfl
def zjo (f:List Int→Nat) (w:List Int) (p t q:Nat):Nat:=if p≤q then zhe f t (seg w p q) else 0
def zka (f:List Int→Nat) (w:List Int) (k q:Nat):Nat:=if k≤q then f (seg w k q) else 0
theorem powQ_succ {f:List Int→Nat} {w:List Int} {p t q:Nat} (hq:q≤w.length):zjo f w p (t+1) q=zen (w.length+1) fun k=>zjo f w p t k*zka f w k q:=by
 unfold zjo zka
 by_cases h:p≤q
 ·rw [if_pos h,zfw,cutS_seg (q-p) p q _ (by omega) hq];refine zem fun k hk=>?_
  by_cases h1:p≤k
  ·by_cases h2:k≤q
   ·rw [if_pos ⟨h1,h2⟩,if_pos h1,if_pos h2]
   ·rw [if_neg (by omega),if_neg h2];simp
  ·rw [if_neg (by omega),if_neg h1];simp
 ·rw [if_neg h];have:(fun k=>(if p≤k then zhe f t (seg w p k) else 0)*if k≤q then f (seg w k q) else 0)=fun _=>0:=by
   funext k
   by_cases h1:p≤k
   ·rw [if_neg (show ¬ k≤q by omega)];simp
   ·rw [if_neg h1];simp
  rw [this,zis]
theorem times_l2 {n_:SDesc→Int→List Int→Int→List Int→Prop} {d:SDesc} {i:Int} {w:List Int} (hw:w.length≤1000) {A:Nat→Nat} {B:Nat→Nat→Nat} (hB:∀k,k≤w.length→A k≠0→n_ d i w (k:Int) (zde w.length fun q=>sat (B k q))) (hz:∀k,B k k=0) {X:List Int→Prop}
  (hX:X (zde w.length fun q=>sat (zen (w.length+1) fun k=>A k*B k q))):∃k,ref12_times.l2 n_ d i w (zde w.length fun k=>sat (A k)) X k (zde w.length fun _=>0) 0:=by
 refine zgx (P:=fun k (o:List Int) v=>ref12_times.l2 n_ d i w (zde w.length fun k=>sat (A k)) X k o v) (w.length+1) (fun K o=>o=zde w.length fun q=>sat (zen K fun k=>A k*B k q)) ?_ ?_ _ rfl
 ·rintro K o hK rfl;have e1:at? (zde w.length fun k=>sat (A k)) (K:Int)=some (sat (A K)):=zhd (by omega);refine .inr ⟨_,rfl,fun k hk=>⟨fun _=>⟨_,e1,fun h0=>?_,fun h0=>⟨zh (by omega) (by omega), ?_⟩⟩,fun hx=>absurd (by rw [zh8];omega) (df hx)⟩⟩
  ·have h0:A K≠0:=by have:=dt h0;unfold sat at this;omega
   have es:(zde w.length fun q=>sat (B K q)).set (K:Int).toNat 0=zde w.length fun q=>sat (B K q):=by
    rw [Int.toNat_natCast,zg4];refine zbh fun q _=>?_
    by_cases hq:q=K
    ·subst hq;rw [if_pos rfl,hz];rfl
    ·rw [if_neg hq]
   refine ⟨_,hB K (by omega) h0,_,zhd (by omega),_,e1,_,by rw [es];exact zrk hw (fun q=>zhc _) (fun q=>zhc _) (zhc _),zh (by omega) (by omega), ?_⟩;have:(zde w.length fun q=>min 2 (sat (zen K fun k=>A k*B k q)+sat (A K)*sat (B K q)))=zde w.length fun q=>sat (zen (K+1) fun k=>A k*B k q):=zbh fun q _=>by rw [sat_more,zc1]
   rw [this];exact hk
  ·have h0:A K=0:=by have:=df h0;unfold sat at this;omega
   have:(zde w.length fun q=>sat (zen K fun k=>A k*B k q))=zde w.length fun q=>sat (zen (K+1) fun k=>A k*B k q):=zbh fun q _=>by rw [zc1,h0];simp
   rw [this];exact hk
 ·rintro o rfl k;exact ⟨fun hx=>absurd (dt hx) (by rw [zh8];omega),fun _=>hX⟩
def zft (w:List Int) (hi:Int):Nat:=if 0≤hi∧hi≤(w.length:Int)+1 then hi.toNat+1 else w.length+2
theorem times_in {n_:SDesc→Int→List Int→Int→List Int→Prop} {d:SDesc} {i:Int} {w:List Int} (hw:w.length≤1000) {p:Nat} (hp:p≤w.length) {f:List Int→Nat} (hf:f []=0) (lo hi:Int)
  (hB:∀k,p≤k→k≤w.length→n_ d i w (k:Int) (zde w.length fun q=>sat (zka f w k q))):
  ref12_times.b n_ d i w (p:Int) lo hi (zde w.length fun q=>sat (zen (zft w hi) fun t=>if lo≤(t:Int) then zjo f w p t q else 0)):=by
 refine ⟨_,znd hw,_,zhd hp,_,znd hw, ?_⟩;refine zgx (P:=fun k (s:List Int × List Int) v=>ref12_times.l1 n_ d i w lo hi _ _ k s.1 s.2 v) (w.length+2) (fun T s=>(s.1=zde w.length fun q=>sat (zjo f w p T q))∧(s.2=zde w.length fun q=>sat (zen T fun t=>if lo≤(t:Int) then zjo f w p t q else 0))∧(0≤hi→(T:Int)≤hi)) ?_ ?_ (_,_) ⟨?_,rfl,fun h=>by omega⟩
 ·rintro T ⟨now,out⟩ hT ⟨h1,h2,h3⟩;simp only at h1 h2;subst h1;subst h2;have es:∀q,zen (T+1) (fun t=>if lo≤(t:Int) then zjo f w p t q else 0)=zen T (fun t=>if lo≤(t:Int) then zjo f w p t q else 0)+if lo≤(T:Int) then zjo f w p T q else 0:=fun q=>zc1 _ _
  have hplus:lo≤(T:Int)→zb1 (zde w.length fun q=>sat (zen T fun t=>if lo≤(t:Int) then zjo f w p t q else 0)) (zde w.length fun q=>sat (zjo f w p T q)) 1 (zde w.length fun q=>sat (zen (T+1) fun t=>if lo≤(t:Int) then zjo f w p t q else 0)):=fun hl=>by
   have:=zrk hw (g:=fun q=>sat (zen T fun t=>if lo≤(t:Int) then zjo f w p t q else 0)) (h:=fun q=>sat (zjo f w p T q)) (t:=1) (fun q=>zhc _) (fun q=>zhc _) (by omega);have e:(zde w.length fun q=>min 2 (sat (zen T fun t=>if lo≤(t:Int) then zjo f w p t q else 0)+1*sat (zjo f w p T q)))=zde w.length fun q=>sat (zen (T+1) fun t=>if lo≤(t:Int) then zjo f w p t q else 0):=zbh fun q _=>by rw [sat_plus,es,if_pos hl]
   rw [e] at this;exact this
  have hsame:¬ lo≤(T:Int)→(zde w.length fun q=>sat (zen T fun t=>if lo≤(t:Int) then zjo f w p t q else 0))=zde w.length fun q=>sat (zen (T+1) fun t=>if lo≤(t:Int) then zjo f w p t q else 0):=fun hl=>zbh fun q _=>by rw [es,if_neg hl,Nat.add_zero]
  by_cases hhi:(T:Int)=hi
  ·-- the last one
   have eT:zft w hi=T+1:=by unfold zft;rw [if_pos (by omega)];omega
   refine .inl fun k=>⟨zh (by omega) (by omega),fun _=>⟨fun hl=>⟨_,hplus (dt hl),fun _=>?_,fun h=>absurd hhi (ne_of_beq_false h)⟩,fun hl=>⟨fun _=>?_,fun h=>absurd hhi (ne_of_beq_false h)⟩⟩,fun hx=>absurd (by omega) (df hx)⟩
   ·show zde _ _=zde _ _;rw [eT]
   ·show zde _ _=zde _ _;rw [eT,hsame (df hl)]
  ·have e2:(zde w.length fun q=>sat (zen (w.length+1) fun k=>zjo f w p T k*zka f w k q))=zde w.length fun q=>sat (zjo f w p (T+1) q):=zbh fun q hq=>by rw [powQ_succ hq]
   have inner:∀(out':List Int) (k:Nat),(ref12_times.l1 n_ d i w lo hi (zde w.length fun q=>sat (zen (zft w hi) fun t=>if lo≤(t:Int) then zjo f w p t q else 0)) (ref12_times.j1 (zde w.length fun q=>sat (zen (zft w hi) fun t=>if lo≤(t:Int) then zjo f w p t q else 0))) k (zde w.length fun q=>sat (zjo f w p (T+1) q)) out' ((T:Int)+1)) →
     ref12_times.j3 n_ (ref12_times.l1 n_ d i w lo hi (zde w.length fun q=>sat (zen (zft w hi) fun t=>if lo≤(t:Int) then zjo f w p t q else 0)) (ref12_times.j1 (zde w.length fun q=>sat (zen (zft w hi) fun t=>if lo≤(t:Int) then zjo f w p t q else 0))) k) d i w hi (zde w.length fun q=>sat (zen (zft w hi) fun t=>if lo≤(t:Int) then zjo f w p t q else 0)) (zde w.length fun q=>sat (zjo f w p T q)) (T:Int) out':=by
    intro out' k hk;refine ⟨fun h=>absurd (eq_of_beq h) hhi,fun _=>⟨_,znd hw, ?_⟩⟩;refine times_l2 hw (A:=fun k=>zjo f w p T k) (B:=zka f w) (fun k hk hA=>hB k (by
     rcases Nat.lt_or_ge k p with h | h
     ·exact absurd (if_neg (by omega)) hA
     ·exact h) hk) (fun k=>by unfold zka;rw [if_pos (Nat.le_refl k),zg3,hf]) ?_
    rw [e2];exact ⟨zh (by omega) (by omega),hk⟩
   refine .inr ⟨(_,_),⟨rfl,rfl,fun h=>by have:=h3 h;omega⟩,fun k hk=>⟨zh (by omega) (by omega),fun _=>⟨fun hl=>⟨_,hplus (dt hl),inner _ k hk⟩,fun hl=>by rw [hsame (df hl)];exact inner _ k hk⟩,fun hx=>absurd (by omega) (df hx)⟩⟩
 ·rintro ⟨now,out⟩ ⟨h1,h2,h3⟩ k;simp only at h1 h2;subst h1;subst h2;refine ⟨zh (by omega) (by omega),fun hx=>absurd (dt hx) (by omega),fun _=>?_⟩;show zde _ _=zde _ _;have eT:zft w hi=w.length+2:=by unfold zft;rw [if_neg (by omega)]
  rw [eT]
 ·simp only;rw [Int.toNat_natCast,zg4];refine zbh fun q hq=>?_;unfold zjo zhe
  by_cases h:q=p
  ·subst h;rw [if_pos rfl,if_pos (Nat.le_refl q),zg3];rfl
  ·rw [if_neg h]
   by_cases h1:p≤q
   ·rw [if_pos h1,if_neg]
    ·rfl
    ·rw [ze2 (by omega) hq];simp
   ·rw [if_neg h1];rfl
theorem zqh:∀(u:List Int) (g:List Int→List Int→List Int→Nat),zek (fun a c=>zek (fun x y=>g x y c) a) u=zek (fun x e=>zek (fun y c=>g x y c) e) u
 | [],g=>rfl
 | c::u,g=>by
  have ih:=zqh u (fun x y e=>g (c::x) y e);have e1:(fun a b=>zek (fun x y=>g x y b) (c::a))=fun a b=>g [] (c::a) b+zek (fun x y=>g (c::x) y b) a:=by
   funext a b;rfl
  have h1:zek (fun a b=>zek (fun x y=>g x y b) (c::a)) u=zek (fun y e=>g [] (c::y) e) u+zek (fun x e=>zek (fun y b=>g (c::x) y b) e) u:=by rw [e1,zm6,ih]
  have h2:zek (fun a c=>zek (fun x y=>g x y c) a) (c::u)=g [] [] (c::u)+zek (fun a b=>zek (fun x y=>g x y b) (c::a)) u:=rfl;have h3:zek (fun x e=>zek (fun y c=>g x y c) e) (c::u)=(g [] [] (c::u)+zek (fun y e=>g [] (c::y) e) u)+zek (fun x e=>zek (fun y b=>g (c::x) y b) e) u:=rfl;exact h2.trans ((congrArg _ h1).trans ((Nat.add_assoc _ _ _).symm.trans h3.symm))
theorem cutS_mul (F:List Int→List Int→Nat) (m:Nat):∀u,zek (fun a b=>F a b*m) u=zek F u*m
 | []=>rfl
 | c::u=>by
  unfold zek;rw [cutS_mul (fun a b=>F (c::a) b) m u,Nat.add_mul]
theorem cutS_lmul (F:List Int→List Int→Nat) (m:Nat):∀u,zek (fun a b=>m*F a b) u=m*zek F u
 | []=>rfl
 | c::u=>by
  unfold zek;rw [cutS_lmul (fun a b=>F (c::a) b) m u,Nat.mul_add]
theorem zot (F:Nat→List Int→List Int→Nat) (u:List Int):∀T,zek (fun a b=>zen T fun t=>F t a b) u=zen T fun t=>zek (F t) u
 | 0=>by simp only [zen,List.range_zero,List.map_nil,List.sum_nil];exact zf0 u
 | T+1=>by
  have e:(fun a b=>zen (T+1) fun t=>F t a b)=fun a b=>(zen T fun t=>F t a b)+F T a b:=by funext a b;rw [zc1]
  rw [e,zm6,zot F u T,zc1]
theorem zkm (m:Nat) (f:Nat→Nat):∀T,m*zen T f=zen T fun t=>m*f t
 | 0=>by simp [zen]
 | T+1=>by rw [zc1,zc1,Nat.mul_add,zkm m f T]
theorem zp1 (T:Nat) (f:Nat→Nat):zen (T+1) f=f 0+zen T fun t=>f (t+1):=by
 induction T with
 | zero=>simp [zen]
 | succ T ih=>rw [zc1,ih,zc1];omega
theorem cut_first (F:List Int→List Int→Nat):∀u,(∀a b,a++b=u→a≠[]→F a b=0)→zek F u=F [] u
 | [],_=>rfl
 | c::u,h=>by
  unfold zek;rw [zfa (G:=fun _ _=>0) fun a b e=>h (c::a) b (by simp [e]) (by simp),zf0];rfl
section
variable {f : List Int → Nat}
theorem zrj:∀(t:Nat) (u:List Int),zhe f (t+1) u=zek (fun a b=>f a*zhe f t b) u
 | 0,u=>by
  rw [zfw];have e1:zek (fun a b=>zhe f 0 a*f b) u=f u:=by
   rw [cut_first _ u fun a b _ ha=>by simp [zhe,ha]];simp [zhe]
  have e2:zek (fun a b=>f a*zhe f 0 b) u=f u:=by
   rw [zsd fun a b _ hb=>by simp [zhe,hb]];simp [zhe]
  rw [e1,e2]
 | t+1,u=>by
  rw [zfw];have e1:(fun a b=>zhe f (t+1) a*f b)=fun a c=>zek (fun x y=>f x*zhe f t y*f c) a:=by
   funext a c;rw [zrj t a,cutS_mul]
  have e2:(fun x e=>zek (fun y c=>f x*zhe f t y*f c) e)=fun x e=>f x*zhe f (t+1) e:=by
   funext x e;rw [zfw,← cutS_lmul]
   congr 1
   funext y c;rw [Nat.mul_assoc]
  rw [e1,zqh,e2]
theorem pow_none (hf:f []=0):∀(t:Nat) (u:List Int),u.length<t→zhe f t u=0
 | 0,u,h=>by omega
 | t+1,u,h=>by
  rw [zfw];rw [zfa (G:=fun _ _=>0) fun a b e=>?_,zf0]
  by_cases hb:b=[]
  ·rw [hb,hf,Nat.mul_zero]
  ·have hl:a.length<t:=by
    have:=congrArg List.length e;have:=List.length_pos_iff.2 hb;simp at *;omega
   rw [pow_none hf t a hl,Nat.zero_mul]
theorem pow_more (hf:f []=0) {T T':Nat} {u:List Int} (h:u.length<T) (h':T≤T') (c:Nat→Bool):(zen T' fun t=>if c t=true then zhe f t u else 0)=zen T fun t=>if c t=true then zhe f t u else 0:=by
 obtain ⟨m,rfl⟩:∃m,T'=T+m:=⟨T' - T,by omega⟩;clear h'
 induction m with
 | zero=>rfl
 | succ m ih=>
  rw [← Nat.add_assoc,zc1,ih,pow_none hf (T+m) u (by omega)];simp
theorem star_pow (hf:f []=0) {g:List Int→Nat} (hg:∀u,g u=(if u=[] then 1 else 0)+zek (fun a b=>f a*g b) u):∀(m:Nat) (u:List Int),u.length≤m→∀T,u.length<T→g u=zen T fun t=>zhe f t u
 | m,u,hm,T,hT=>by
  obtain ⟨T',rfl⟩:∃T',T=T'+1:=⟨T-1,by omega⟩;rw [hg,zp1]
  congr 1
  have e:zek (fun a b=>f a*g b) u=zek (fun a b=>zen T' fun t=>f a*zhe f t b) u:=by
   refine zfa fun a b e=>?_
   by_cases ha:a=[]
   ·rw [ha,hf,Nat.zero_mul,← zkm,Nat.zero_mul]
   ·have hl:b.length<u.length:=by
     have:=congrArg List.length e;have:=List.length_pos_iff.2 ha;simp at *;omega
    cases m with
    | zero=>omega
    | succ m=>rw [star_pow hf hg m b (by omega) T' (by omega),zkm]
  rw [e,zot (fun t a b=>f a*zhe f t b)];exact zem fun t _=>(zrj t u).symm
theorem rep_pow {R:Int→Int→List Int→Nat} (hR:∀lo hi u,R lo hi u=(if lo=0∧u=[] then 1 else 0)+if 0<hi then zek (fun a b=>f a*R (max (lo-1) 0) (hi-1) b) u else 0):∀(h:Nat) (lo:Int) (u:List Int),0≤lo→lo≤(h:Int)→R lo (h:Int) u=zen (h+1) fun t=>if lo≤(t:Int) then zhe f t u else 0
 | 0,lo,u,h0,h1=>by
  have:lo=0:=by omega
  subst this;rw [hR,if_neg (show ¬ 0<((0:Nat):Int) by omega)];simp [zen,zhe]
 | h+1,lo,u,h0,h1=>by
  rw [hR,if_pos (show 0<((h+1:Nat):Int) by omega),zp1];have e0:((h+1:Nat):Int)-1=(h:Int):=by omega
  rw [e0]
  congr 1
  ·by_cases hl:lo=0
   ·subst hl;simp [zhe]
   ·rw [if_neg (by omega),if_neg (by omega)]
  ·have e:zek (fun a b=>f a*R (max (lo-1) 0) (h:Int) b) u=zek (fun a b=>zen (h+1) fun t=>f a*if max (lo-1) 0≤(t:Int) then zhe f t b else 0) u:=by
    refine zfa fun a b _=>?_;rw [rep_pow hR h (max (lo-1) 0) b (by omega) (by omega),zkm]
   rw [e,zot (fun t a b=>f a*if max (lo-1) 0≤(t:Int) then zhe f t b else 0)];refine zem fun t _=>?_
   by_cases hl:lo≤((t+1:Nat):Int)
   ·rw [if_pos hl,zrj];refine zfa fun a b _=>?_;rw [if_pos (by omega)]
   ·rw [if_neg hl,zfa (G:=fun _ _=>0) fun a b _=>by rw [if_neg (by omega),Nat.mul_zero],zf0]
end
end Go.Proofs.YtahgmdbioafmbaaGreatDoor.V
namespace Go.Proofs.YtahgmdbioafmbaaGreatDoor.V
open Go
set_option linter.unusedVariables false
theorem zlw {w:List Int} {p q:Nat} (h:p≤q) (hq:q≤w.length):(seg w p q).length=q-p:=by
 unfold seg;rw [List.length_drop,List.length_take];omega
theorem zlv {w:List Int} {p q:Nat} (h:p≤q) (hq:q≤w.length):seg w p q=[]↔q=p:=by
 constructor
 ·intro e;have:=zlw h hq;rw [e] at this;simp at this;omega
 ·rintro rfl;exact zg3 w q
theorem pm_cnt {d:List SNode} (hd:ROk d) (r:Int):(pm d r).count []=0:=by
 rw [List.count_eq_zero];intro h;obtain ⟨x,q,e,_⟩:=PM_rng hd (r.toNat+1) r (by omega) _ h;cases e
def rowN (d:List SNode) (i:Int) (w:List Int) (p:Nat):List Int:=zde w.length fun q=>sat (zka (zbm d i) w p q)
theorem conv_row {f g:List Int→Nat} {w:List Int} {p q:Nat} (hq:q≤w.length):(if p≤q then zek (fun a b=>f a*g b) (seg w p q) else 0)=zen (w.length+1) fun k=>zka f w p k*zka g w k q:=by
 unfold zka
 by_cases h:p≤q
 ·rw [if_pos h,cutS_seg (q-p) p q _ (by omega) hq];refine zem fun k hk=>?_
  by_cases h1:p≤k
  ·by_cases h2:k≤q
   ·rw [if_pos ⟨h1,h2⟩,if_pos h1,if_pos h2]
   ·rw [if_neg (by omega),if_neg h2];simp
  ·rw [if_neg (by omega),if_neg h1];simp
 ·rw [if_neg h];have:(fun k=>(if p≤k then f (seg w p k) else 0)*if k≤q then g (seg w k q) else 0)=fun _=>0:=by
   funext k
   by_cases h1:p≤k
   ·rw [if_neg (show ¬ k≤q by omega)];simp
   ·rw [if_neg h1];simp
  rw [this,zis]
section
variable {d : List SNode} (hd : ROk d) {i : Int} {n : SNode} (hn : at? d i = some n) {w : List Int} {p : Nat}
include hd hn
theorem row_empty (h:n.1=1):rowN d i w p=(zde w.length fun _=>0).set p 1:=by
 rw [zg4];refine zbh fun q hq=>?_;unfold zka
 by_cases h1:p≤q
 ·rw [if_pos h1,zqd hd hn h]
  by_cases h2:q=p
  ·rw [if_pos ((zlv h1 hq).2 h2),if_pos h2];rfl
  ·rw [if_neg (fun e=>h2 ((zlv h1 hq).1 e)),if_neg h2];rfl
 ·rw [if_neg h1,if_neg (by omega)];rfl
theorem row_bytes (h:n.1=2):rowN d i w p=if hlt:p<w.length then (if n.2.2.2.2.2.1.has (w[p]).toNat=true then (zde w.length fun _=>0).set (p+1) 1 else zde w.length fun _=>0) else zde w.length fun _=>0:=by
 have key:∀q,q≤w.length→zka (zbm d i) w p q=if hlt:p<w.length then (if n.2.2.2.2.2.1.has (w[p]).toNat=true∧q=p+1 then 1 else 0) else 0:=by
  intro q hq;unfold zka
  by_cases h1:p≤q
  ·rw [if_pos h1,zjt hd hn h]
   by_cases h2:q=p
   ·subst h2;rw [zg3];simp only;split
    ·rw [if_neg (by omega)]
    ·rfl
   ·have hlt:p<w.length:=by omega
    rw [dif_pos hlt,ze2 (by omega) hq];simp only
    by_cases h3:q=p+1
    ·have:seg w (p+1) q=[]:=(zlv (by omega) hq).2 h3;rw [this];simp [h3]
    ·have:¬ seg w (p+1) q=[]:=fun e=>h3 ((zlv (by omega) hq).1 e);simp [this,h3]
  ·rw [if_neg h1];split
   ·rw [if_neg (by omega)]
   ·rfl
 by_cases hlt:p<w.length
 ·rw [dif_pos hlt]
  by_cases hh:n.2.2.2.2.2.1.has (w[p]).toNat=true
  ·rw [if_pos hh,zg4];refine zbh fun q hq=>?_;rw [key q hq,dif_pos hlt]
   by_cases h3:q=p+1
   ·rw [if_pos ⟨hh,h3⟩,if_pos h3];rfl
   ·rw [if_neg (by omega),if_neg h3];rfl
  ·rw [if_neg hh];refine zbh fun q hq=>?_;rw [key q hq,dif_pos hlt,if_neg (fun e=>hh e.1)];rfl
 ·rw [dif_neg hlt];refine zbh fun q hq=>?_;rw [key q hq,dif_neg hlt];rfl
theorem row_seq (h:n.1=4):rowN d i w p=zde w.length fun q=>sat (zen (w.length+1) fun k=>zka (zbm d n.2.1) w p k*zka (zbm d n.2.2.1) w k q):=by
 refine zbh fun q hq=>?_;rw [← conv_row hq];unfold zka
 by_cases h1:p≤q
 ·rw [if_pos h1,if_pos h1,zrp hd hn h]
 ·rw [if_neg h1,if_neg h1]
theorem row_or (h:n.1=5):rowN d i w p=zde w.length fun q=>min 2 (sat (zka (zbm d n.2.1) w p q)+1*sat (zka (zbm d n.2.2.1) w p q)):=by
 refine zbh fun q hq=>?_;rw [sat_plus];unfold zka
 by_cases h1:p≤q
 ·rw [if_pos h1,if_pos h1,if_pos h1,zrq hd hn h]
 ·rw [if_neg h1,if_neg h1,if_neg h1]
theorem zkx (h:n.1=6∨n.1=7):zbm d n.2.1 []=0:=by
 have:=zke hd hn h;unfold zbm;simp only [wyn];rw [zmf,this];simp only [List.replicate_zero,List.flatten_nil,List.append_nil];exact pm_cnt hd n.2.1
theorem row_star (h:n.1=6):rowN d i w p=zde w.length fun q=>sat (zen (zft w (-1)) fun t=>if (0:Int)≤(t:Int) then zjo (zbm d n.2.1) w p t q else 0):=by
 refine zbh fun q hq=>?_;have eT:zft w (-1)=w.length+2:=by unfold zft;rw [if_neg (by omega)]
 rw [eT];unfold zka zjo
 by_cases h1:p≤q
 ·rw [if_pos h1,star_pow (zkx hd hn (.inl h)) (fun u=>node_star hd hn h u) _ (seg w p q) (Nat.le_refl _) (w.length+2) (by rw [zlw h1 hq];omega)];refine congrArg sat (zem fun t _=>?_);rw [if_pos (by omega),if_pos h1]
 ·rw [if_neg h1];have:(fun t:Nat=>if (0:Int)≤(t:Int) then (if p≤q then zhe (zbm d n.2.1) t (seg w p q) else 0) else 0)=fun _=>0:=by
   funext t;rw [if_neg h1];simp
  rw [this,zis]
theorem row_rep (h:n.1=7):rowN d i w p=zde w.length fun q=>sat (zen (zft w n.2.2.2.2.1) fun t=>if n.2.2.2.1≤(t:Int) then zjo (zbm d n.2.1) w p t q else 0):=by
 obtain ⟨r0,r1,r2⟩:=hd.rep _ n hn h;obtain ⟨hi,hhi⟩:∃hi:Nat,n.2.2.2.2.1=(hi:Int):=⟨n.2.2.2.2.1.toNat,by omega⟩;refine zbh fun q hq=>?_;unfold zka zjo
 by_cases h1:p≤q
 ·rw [if_pos h1,node_rep hd hn h,hhi,rep_pow (R:=fun lo hi u=>wyn d u [(2,i,lo,hi)]) (f:=zbm d n.2.1) (fun lo hi u=>item_rep hd hn h lo hi u) hi n.2.2.2.1 (seg w p q) r0 (by omega)];have e1:(zen (zft w (hi:Int)) fun t=>if n.2.2.2.1≤(t:Int) then (if p≤q then zhe (zbm d n.2.1) t (seg w p q) else 0) else 0)=zen (zft w (hi:Int)) fun t=>if decide (n.2.2.2.1≤(t:Int))=true then zhe (zbm d n.2.1) t (seg w p q) else 0:=zem fun t _=>by
   rw [if_pos h1];simp
  have e2:(zen (hi+1) fun t=>if n.2.2.2.1≤(t:Int) then zhe (zbm d n.2.1) t (seg w p q) else 0)=zen (hi+1) fun t=>if decide (n.2.2.2.1≤(t:Int))=true then zhe (zbm d n.2.1) t (seg w p q) else 0:=zem fun t _=>by simp
  rw [e1,e2];unfold zft
  by_cases h2:(hi:Int)≤(w.length:Int)+1
  ·rw [if_pos (by omega)]
   congr 2
  ·rw [if_neg (by omega),pow_more (zkx hd hn (.inr h)) (T:=w.length+2) (T':=hi+1) (by rw [zlw h1 hq];omega) (by omega)]
 ·rw [if_neg h1];have:(fun t:Nat=>if n.2.2.2.1≤(t:Int) then (if p≤q then zhe (zbm d n.2.1) t (seg w p q) else 0) else 0)=fun _=>0:=by
   funext t;rw [if_neg h1];simp
  rw [this,zis]
theorem row_text (h:n.1=3):rowN d i w p=if p+n.2.2.2.2.2.2.length≤w.length∧seg w p (p+n.2.2.2.2.2.2.length)=(n.2.2.2.2.2.2.map fun b=>(b.toNat:Int)) then (zde w.length fun _=>0).set (p+n.2.2.2.2.2.2.length) 1 else zde w.length fun _=>0:=by
 have key:∀q,q≤w.length→zka (zbm d i) w p q=if (p+n.2.2.2.2.2.2.length≤w.length∧seg w p (p+n.2.2.2.2.2.2.length)=(n.2.2.2.2.2.2.map fun b=>(b.toNat:Int)))∧q=p+n.2.2.2.2.2.2.length then 1 else 0:=by
  intro q hq;unfold zka
  by_cases h1:p≤q
  ·rw [if_pos h1,zob hd hn h]
   by_cases h2:q=p+n.2.2.2.2.2.2.length
   ·subst h2
    by_cases h3:seg w p (p+n.2.2.2.2.2.2.length)=(n.2.2.2.2.2.2.map fun b=>(b.toNat:Int))
    ·rw [if_pos h3,if_pos ⟨⟨hq,h3⟩,rfl⟩]
    ·rw [if_neg h3,if_neg fun e=>h3 e.1.2]
   ·rw [if_neg,if_neg fun e=>h2 e.2];intro e;have:=congrArg List.length e;rw [zlw h1 hq,List.length_map] at this;omega
  ·rw [if_neg h1,if_neg (by omega)]
 by_cases hc:p+n.2.2.2.2.2.2.length≤w.length∧seg w p (p+n.2.2.2.2.2.2.length)=(n.2.2.2.2.2.2.map fun b=>(b.toNat:Int))
 ·rw [if_pos hc,zg4];refine zbh fun q hq=>?_;rw [key q hq]
  by_cases h3:q=p+n.2.2.2.2.2.2.length
  ·rw [if_pos ⟨hc,h3⟩,if_pos h3];rfl
  ·rw [if_neg fun e=>h3 e.2,if_neg h3];rfl
 ·rw [if_neg hc];refine zbh fun q hq=>?_;rw [key q hq,if_neg fun e=>hc e.1];rfl
theorem row_frame (h:n.1=8) (hw:∀c∈w,0≤c):rowN d i w p=if hlt:p<w.length then (if p+1+(w[p]).toNat≤w.length then (zde w.length fun _=>0).set (p+1+(w[p]).toNat) (sat (zbm d n.2.1 (seg w (p+1) (p+1+(w[p]).toNat)))) else zde w.length fun _=>0) else zde w.length fun _=>0:=by
 have hs:∀a b,∀c∈seg w a b,0≤c:=fun a b c hc=>hw c (List.mem_of_mem_take (List.mem_of_mem_drop hc));have key:∀q,q≤w.length→zka (zbm d i) w p q=if hlt:p<w.length then (if q=p+1+(w[p]).toNat then zbm d n.2.1 (seg w (p+1) q) else 0) else 0:=by
  intro q hq;unfold zka
  by_cases h1:p≤q
  ·rw [if_pos h1]
   by_cases h2:q=p
   ·subst h2;have f0:zbm d i []=0:=zjs hd hn h [] (by simp);rw [zg3,f0];split
    ·rw [if_neg (by omega)]
    ·rfl
   ·have hlt:p<w.length:=by omega
    have h0:=hw _ (List.getElem_mem hlt);have hsq:=hs p q;rw [ze2 (by omega) hq] at hsq;have f1:zbm d i (w[p]::seg w (p+1) q)=if ((seg w (p+1) q).length:Int)=w[p] then zbm d n.2.1 (seg w (p+1) q) else 0:=zjs hd hn h _ hsq
    rw [dif_pos hlt,ze2 (by omega) hq,f1];rw [zlw (by omega) hq]
    by_cases h3:q=p+1+(w[p]).toNat
    ·rw [if_pos h3,if_pos (by omega)]
    ·rw [if_neg h3,if_neg (by omega)]
  ·rw [if_neg h1];split
   ·rw [if_neg (by omega)]
   ·rfl
 by_cases hlt:p<w.length
 ·rw [dif_pos hlt]
  by_cases hh:p+1+(w[p]).toNat≤w.length
  ·rw [if_pos hh,zg4];refine zbh fun q hq=>?_;rw [key q hq,dif_pos hlt]
   by_cases h3:q=p+1+(w[p]).toNat
   ·rw [if_pos h3,if_pos h3,h3]
   ·rw [if_neg h3,if_neg h3];rfl
  ·rw [if_neg hh];refine zbh fun q hq=>?_;rw [key q hq,dif_pos hlt,if_neg (by omega)];rfl
 ·rw [dif_neg hlt];refine zbh fun q hq=>?_;rw [key q hq,dif_neg hlt];rfl
theorem row_wide (h:n.1=9) (hw:∀c∈w,0≤c):rowN d i w p=if hlt:p+1<w.length then (if p+2+(256*(w[p])+w[p+1]).toNat≤w.length then (zde w.length fun _=>0).set (p+2+(256*(w[p])+w[p+1]).toNat) (sat (zbm d n.2.1 (seg w (p+2) (p+2+(256*(w[p])+w[p+1]).toNat)))) else zde w.length fun _=>0) else zde w.length fun _=>0:=by
 have hs:∀a b,∀c∈seg w a b,0≤c:=fun a b c hc=>hw c (List.mem_of_mem_take (List.mem_of_mem_drop hc));have key:∀q,q≤w.length→zka (zbm d i) w p q=if hlt:p+1<w.length then (if q=p+2+(256*(w[p])+w[p+1]).toNat then zbm d n.2.1 (seg w (p+2) q) else 0) else 0:=by
  intro q hq;unfold zka
  by_cases h1:p≤q
  ·rw [if_pos h1]
   by_cases h2:q=p
   ·subst h2;have f0:zbm d i []=0:=ziy hd hn h [] (by simp);rw [zg3,f0];split
    ·rw [if_neg (by omega)]
    ·rfl
   ·have hsq:=hs p q
    by_cases h4:q=p+1
    ·rw [ze2 (by omega) hq,(zlv (by omega) hq).2 h4] at hsq;have f1:zbm d i [w[p]'(by omega)]=0:=ziy hd hn h _ hsq;rw [ze2 (by omega) hq,(zlv (by omega) hq).2 h4,f1];split
     ·rw [if_neg (by omega)]
     ·rfl
    ·have hlt:p+1<w.length:=by omega
     have h0:=hw _ (List.getElem_mem (show p<w.length by omega));have h5:=hw _ (List.getElem_mem hlt);rw [ze2 (by omega) hq,ze2 (by omega) hq] at hsq;have f1:zbm d i (w[p]::w[p+1]::seg w (p+1+1) q)=if ((seg w (p+1+1) q).length:Int)=256*w[p]+w[p+1] then zbm d n.2.1 (seg w (p+1+1) q) else 0:=ziy hd hn h _ hsq
     rw [dif_pos hlt,ze2 (by omega) hq,ze2 (by omega) hq,f1];rw [zlw (by omega) hq]
     by_cases h3:q=p+2+(256*(w[p])+w[p+1]).toNat
     ·rw [if_pos h3,if_pos (by omega)]
     ·rw [if_neg h3,if_neg (by omega)]
  ·rw [if_neg h1];split
   ·rw [if_neg (by omega)]
   ·rfl
 by_cases hlt:p+1<w.length
 ·rw [dif_pos hlt]
  by_cases hh:p+2+(256*(w[p])+w[p+1]).toNat≤w.length
  ·rw [if_pos hh,zg4];refine zbh fun q hq=>?_;rw [key q hq,dif_pos hlt]
   by_cases h3:q=p+2+(256*(w[p])+w[p+1]).toNat
   ·rw [if_pos h3,if_pos h3,h3]
   ·rw [if_neg h3,if_neg h3];rfl
  ·rw [if_neg hh];refine zbh fun q hq=>?_;rw [key q hq,dif_pos hlt,if_neg (by omega)];rfl
 ·rw [dif_neg hlt];refine zbh fun q hq=>?_;rw [key q hq,dif_neg hlt];rfl
end
end Go.Proofs.YtahgmdbioafmbaaGreatDoor.V
namespace Go.Proofs.YtahgmdbioafmbaaGreatDoor.V
open Go
set_option linter.unusedVariables false
theorem strB_back (s:Str):zmy (s.map fun b=>(b.toNat:Int))=s:=by
 unfold zmy;rw [List.map_map];have:∀b∈s,((fun n:Int=>UInt8.ofNat n.toNat) ∘ fun b:UInt8=>(b.toNat:Int)) b=id b:=fun b _=>by simp
 rw [List.map_congr_left this,List.map_id]
theorem strB_iff {l:List Int} (hl:∀c∈l,InR .u8 c) {s:Str}:zmy l=s↔l=s.map fun b=>(b.toNat:Int):=by
 constructor
 ·rintro rfl;unfold zmy;rw [List.map_map];have:∀c∈l,((fun b:UInt8=>(b.toNat:Int)) ∘ fun n:Int=>UInt8.ofNat n.toNat) c=id c:=fun c hc=>by
   have:=zcy.1 (hl c hc);simp only [Function.comp,id,UInt8.toNat_ofNat'];omega
  rw [List.map_congr_left this,List.map_id]
 ·rintro rfl;exact strB_back s
theorem ends_in {d:List SNode} (hd:ROk d) (ht:∀n∈d,n.2.2.2.2.2.2.length≤140737488351232):∀(k:Nat) (i:Int) (n:SNode),i<(k:Int)→at? d i=some n→∀(w:List Int),w.length≤1000→(∀c∈w,InR .u8 c)→∀p:Nat,p≤w.length→zcg.n k d i w (p:Int) (rowN d i w p)
 | 0,i,n,hi,hn,w,hw,hu,p,hp=>by have:=zbv hn;omega
 | k+1,i,n,hi,hn,w,hw,hu,p,hp=>by
  have ih:=ends_in hd ht k;have hw0:∀c∈w,0≤c:=fun c hc=>(zcy.1 (hu c hc)).1;have hk9:=hd.kind _ n hn;have z:∀q:Nat,q≤w.length→at? (zde w.length fun _=>(0:Int)) (q:Int)=some 0:=fun q hq=>zhd hq;have hm:n∈d:=by
   obtain ⟨j,_,hj⟩:=zmq hn;exact List.mem_of_getElem? hj
  have no:∀{a:Int},n.1≠a→¬ (n.1==a)=true:=fun h e=>h (eq_of_beq e);refine ⟨n,hn,_,znd hw,fun h=>⟨0,z p hp, ?_⟩,fun k1=>⟨fun h=>?_,fun k2=>⟨fun h=>?_,fun k3=>⟨fun h=>?_,fun k4=>⟨fun h=>?_,fun k5=>⟨fun h=>?_,fun k6=>⟨fun h=>?_,fun k7=>⟨fun h=>?_,fun k8=>⟨fun h=>?_,fun k9=>?_⟩⟩⟩⟩⟩⟩⟩⟩⟩
  ·rw [row_empty hd hn (eq_of_beq h),Int.toNat_natCast]
  ·-- a byte of a class
   rw [row_bytes hd hn (eq_of_beq h)]
   by_cases hlt:p<w.length
   ·rw [dif_pos hlt];have hat:at? w (p:Int)=some w[p]:=by rw [zbq];simp [hlt]
    refine ⟨w[p],fun _=>hat,_,fun _=>zmd (hu _ (List.getElem_mem hlt)),fun hb=>?_,fun hb=>?_⟩
    ·simp only [Bool.and_eq_true,decide_eq_true_eq] at hb;have e:(p:Int)+1=((p+1:Nat):Int):=by omega
     rw [if_pos hb.2,e];exact ⟨zh (by omega) (by omega),0,z _ (by omega),by rw [Int.toNat_natCast]⟩
    ·have hh:¬ n.2.2.2.2.2.1.has (w[p]).toNat=true:=by
      intro e;rw [e] at hb;simp at hb;omega
     rw [if_neg hh]
   ·rw [dif_neg hlt];exact ⟨0,fun hx=>absurd (dt hx) (by omega),false,fun hx=>absurd (dt hx) (by omega),fun hb=>by simp at hb,fun _=>rfl⟩
  ·-- a text
   rw [row_text hd hn (eq_of_beq h)];have htl:=ht n hm;have e:(p:Int)+(n.2.2.2.2.2.2.length:Int)=((p+n.2.2.2.2.2.2.length:Nat):Int):=by omega
   have hsu:∀c∈seg w p (p+n.2.2.2.2.2.2.length),InR .u8 c:=fun c hc=>hu c (List.mem_of_mem_take (List.mem_of_mem_drop hc));rw [e];refine ⟨zh (by omega) (by omega),_,rfl,fun hb=>zh (by omega) (by omega),fun hb=>?_,_,rfl,fun hb=>?_,fun hb=>?_⟩
   ·have:=dt hb;omega
   ·simp only [Bool.and_eq_true,decide_eq_true_eq,beq_iff_eq] at hb;obtain ⟨b1,b2⟩:=hb;have b2':seg w p (p+n.2.2.2.2.2.2.length)=_:=(strB_iff hsu).1 b2;rw [if_pos ⟨by omega,b2'⟩];exact ⟨zh (by omega) (by omega),0,z _ (by omega),by rw [Int.toNat_natCast]⟩
   ·rw [if_neg];rintro ⟨b1,b2⟩;have b2':zmy ((w.take ((p+n.2.2.2.2.2.2.length:Nat):Int).toNat).drop ((p:Nat):Int).toNat)=n.2.2.2.2.2.2:=(strB_iff hsu).2 b2;rw [b2'] at hb;simp at hb;omega
  ·-- one behind the other
   have h4:=eq_of_beq h;obtain ⟨⟨a,b⟩,c,e⟩:=hd.two _ n hn (.inl h4);obtain ⟨m1,hm1⟩:=zdu hn a b;obtain ⟨m2,hm2⟩:=zdu hn c e;refine ⟨_,ih _ m1 (by omega) hm1 w hw hu p hp,_,through_in hw (A:=fun k=>zka (zbm d n.2.1) w p k) (B:=zka (zbm d n.2.2.1) w) (fun q hq _=>ih _ m2 (by omega) hm2 w hw hu q hq), ?_⟩;rw [row_seq hd hn h4]
  ·have h5:=eq_of_beq h;obtain ⟨⟨a,b⟩,c,e⟩:=hd.two _ n hn (.inr h5);obtain ⟨m1,hm1⟩:=zdu hn a b;obtain ⟨m2,hm2⟩:=zdu hn c e;refine ⟨_,ih _ m1 (by omega) hm1 w hw hu p hp,_,ih _ m2 (by omega) hm2 w hw hu p hp,_,zrk hw (fun q=>zhc _) (fun q=>zhc _) (by omega), ?_⟩;rw [row_or hd hn h5]
  ·have h6:=eq_of_beq h;obtain ⟨a,b⟩:=hd.one _ n hn (.inl h6);obtain ⟨m1,hm1⟩:=zdu hn a b;refine ⟨_,times_in hw hp (zkx hd hn (.inl h6)) 0 (-1) (fun q _ hq=>ih _ m1 (by omega) hm1 w hw hu q hq), ?_⟩;rw [row_star hd hn h6]
  ·have h7:=eq_of_beq h;obtain ⟨a,b⟩:=hd.one _ n hn (.inr (.inl h7));obtain ⟨m1,hm1⟩:=zdu hn a b;refine ⟨_,times_in hw hp (zkx hd hn (.inr h7)) _ _ (fun q _ hq=>ih _ m1 (by omega) hm1 w hw hu q hq), ?_⟩;rw [row_rep hd hn h7]
  ·-- a frame
   have h8:=eq_of_beq h;obtain ⟨a,b⟩:=hd.one _ n hn (.inr (.inr (.inl h8)));obtain ⟨m1,hm1⟩:=zdu hn a b;rw [row_frame hd hn h8 hw0];refine ⟨fun hx=>?_,fun hx=>by rw [dif_neg (by have:=df hx;omega)]⟩;have hlt:p<w.length:=by have:=dt hx;omega
   have hat:at? w (p:Int)=some w[p]:=by rw [zbq];simp [hlt]
   have hb:=zcy.1 (hu _ (List.getElem_mem hlt));have e:(p:Int)+1+w[p]=((p+1+(w[p]).toNat:Nat):Int):=by omega
   rw [dif_pos hlt];refine ⟨zh (by omega) (by omega),w[p],hat,zh (by omega) (by omega),fun hy=>?_,fun hy=>by rw [if_neg (by have:=df hy;omega)]⟩;have hle:p+1+(w[p]).toNat≤w.length:=by have:=dt hy;omega
   rw [if_pos hle,e,Int.toNat_natCast];have hwt:(w.take (p+1+(w[p]).toNat)).length=p+1+(w[p]).toNat:=by rw [List.length_take];omega
   have e1:(p:Int)+1=((p+1:Nat):Int):=by omega
   refine ⟨⟨by omega,by omega⟩,zh (by omega) (by omega),_,by rw [e1];exact ih _ m1 (by omega) hm1 (w.take (p+1+(w[p]).toNat)) (by omega) (fun c hc=>hu c (List.mem_of_mem_take hc)) (p+1) (by omega),_,by unfold rowN;exact zhd (by omega),0,z _ hle, ?_⟩;have es:seg (w.take (p+1+(w[p]).toNat)) (p+1) (p+1+(w[p]).toNat)=seg w (p+1) (p+1+(w[p]).toNat):=by unfold seg;rw [List.take_take,Nat.min_self]
   unfold zka;rw [if_pos (by omega),es]
  ·have h9:=eq_of_beq h;obtain ⟨a,b⟩:=hd.one _ n hn (.inr (.inr (.inr h9)));obtain ⟨m1,hm1⟩:=zdu hn a b;rw [row_wide hd hn h9 hw0];refine ⟨zh (by omega) (by omega),fun hx=>?_,fun hx=>by rw [dif_neg (by have:=df hx;omega)]⟩;have hlt:p+1<w.length:=by have:=dt hx;omega
   have hat:at? w (p:Int)=some w[p]:=by rw [zbq];simp [show p<w.length by omega]
   have e1:(p:Int)+1=((p+1:Nat):Int):=by omega
   have hat1:at? w ((p:Int)+1)=some w[p+1]:=by rw [e1,zbq];simp [hlt]
   have hb:=zcy.1 (hu _ (List.getElem_mem (show p<w.length by omega)));have hb1:=zcy.1 (hu _ (List.getElem_mem hlt));have e:(p:Int)+2+256*w[p]+w[p+1]=((p+2+(256*w[p]+w[p+1]).toNat:Nat):Int):=by omega
   rw [dif_pos hlt];refine ⟨zh (by omega) (by omega),w[p],hat,zh (by omega) (by omega),zh (by omega) (by omega),zh (by omega) (by omega),w[p+1],hat1,zh (by omega) (by omega),_,rfl,fun hy=>?_,fun hy=>by rw [if_neg (by have:=df hy;omega)]⟩;have hle:p+2+(256*w[p]+w[p+1]).toNat≤w.length:=by have:=dt hy;omega
   rw [if_pos hle,e,Int.toNat_natCast];have hwt:(w.take (p+2+(256*w[p]+w[p+1]).toNat)).length=p+2+(256*w[p]+w[p+1]).toNat:=by rw [List.length_take];omega
   have e2:(p:Int)+2=((p+2:Nat):Int):=by omega
   refine ⟨⟨by omega,by omega⟩,zh (by omega) (by omega),_,by rw [e2];exact ih _ m1 (by omega) hm1 (w.take (p+2+(256*w[p]+w[p+1]).toNat)) (by omega) (fun c hc=>hu c (List.mem_of_mem_take hc)) (p+2) (by omega),_,by unfold rowN;exact zhd (by omega),0,z _ hle, ?_⟩;have es:seg (w.take (p+2+(256*w[p]+w[p+1]).toNat)) (p+2) (p+2+(256*w[p]+w[p+1]).toNat)=seg w (p+2) (p+2+(256*w[p]+w[p+1]).toNat):=by unfold seg;rw [List.take_take,Nat.min_self]
   unfold zka;rw [if_pos (by omega),es]
  ·exfalso;have j1:=ne_of_beq_false k1;have j2:=ne_of_beq_false k2;have j3:=ne_of_beq_false k3;have j4:=ne_of_beq_false k4;have j5:=ne_of_beq_false k5;have j6:=ne_of_beq_false k6;have j7:=ne_of_beq_false k7;have j8:=ne_of_beq_false k8;have j9:=ne_of_beq_false k9;omega
theorem zq7 {d:List SNode} (h:Rt d) (hl:d.length≤1000) (ht:∀n∈d,n.2.2.2.2.2.2.length≤140737488351232) {w:List Int} (hw:w.length≤1000) (hu:∀c∈w,InR .u8 c):zjj d w (sat (zbm d ((d.length:Int)-1) w)):=by
 have hr:=h.tr.le;obtain ⟨m,hm,_⟩:=zoz (xs:=d) (i:=(d.length:Int)-1) hr.2 (by omega);refine ⟨zh (by omega) (by omega),_,⟨d.length,ends_in h.toROk ht d.length _ m (by omega) hm w hw hu 0 (by omega)⟩,_,by unfold rowN;exact zhd (Nat.le_refl _), ?_⟩;have es:seg w 0 w.length=w:=by unfold seg;simp
 unfold zka;rw [if_pos (by omega),es]
theorem heads_few {d:List SNode} {s:List SItem} (h:Sm d s) {B:List SBranch} (hB:Can (fun t=>(hds d s).count t) B):B.length≤10001:=by
 have h0:=zsh hB (U:=CS d s) fun t ht=>hds_CS d s t (List.count_pos_iff.1 (by omega));have h1:=CS_few h.rt s;have h3:=h.slen;have h4:s.length*(d.length+1)≤400*25:=Nat.mul_le_mul h3 (by have:=h.len;omega);omega
theorem heads_ok {d:List SNode} {s:List SItem} (h:Sm d s) {t:List SItem} (ht:(hds d s).count t≠0):t.length≤424∧rdy d t=true∧zd9 d t=true:=by
 obtain ⟨L,⟨k,hk⟩,hp⟩:=hds_lv h.rt.toROk s h.form;have hm:t∈L:=hp.mem_iff.2 (List.count_pos_iff.1 (by omega));obtain ⟨h1,h2⟩:=lv_vs h.rt.toROk (n0:=400) k s L hk (Vs.start h.form h.slen) t hm;have:=h1.len;have:=h.len;exact ⟨by omega,h2,h1.form⟩
def fB (d:List SNode) (c:Int) (B:List SBranch) (u:List SItem):Nat:=(B.map fun b=>if (zx d b.1 c).2=true∧(zx d b.1 c).1=u then b.2.toNat else 0).sum
theorem fB_snoc (d:List SNode) (c:Int) (B:List SBranch) (b:SBranch) (u:List SItem):fB d c (B++[b]) u=fB d c B u+if (zx d b.1 c).2=true∧(zx d b.1 c).1=u then b.2.toNat else 0:=by
 simp [fB]
theorem fB_pos {d:List SNode} {c:Int} {B:List SBranch} {u:List SItem} (h:fB d c B u≠0):∃b∈B,(zx d b.1 c).2=true∧(zx d b.1 c).1=u:=by
 induction B with
 | nil=>simp [fB] at h
 | cons b B ih=>
  by_cases hb:(zx d b.1 c).2=true∧(zx d b.1 c).1=u
  ·exact ⟨b,by simp,hb⟩
  ·have e:fB d c (b::B) u=fB d c B u:=by
    unfold fB;rw [List.map_cons,List.sum_cons,if_neg hb,Nat.zero_add]
   rw [e] at h;obtain ⟨b',h1,h2⟩:=ih h;exact ⟨b',by simp [h1],h2⟩
structure HOk (d:List SNode) (B:List SBranch):Prop where
 few:B.length≤10001
 ok:∀b∈B,b.1.length≤424∧rdy d b.1=true∧zd9 d b.1=true
 many:∀b∈B,1≤b.2∧b.2≤2
theorem Sm.hok {d:List SNode} {s:List SItem} (h:Sm d s) {B:List SBranch} (hB:Can (fun t=>(hds d s).count t) B):HOk d B:=
 ⟨heads_few h hB,fun b hb=>heads_ok h (hB.many hb).2.1,fun b hb=>(hB.many hb).2.2⟩
theorem fB_read {d:List SNode} {c:Int} {B:List SBranch} (h:HOk d B) {u:List SItem} (hu:fB d c B u≠0):u.length≤425:=by
 obtain ⟨b,hb,_,rfl⟩:=fB_pos hu;have:=zku d b.1 c;have:=(h.ok b hb).1;omega
theorem onB_len {d:List SNode} {c:Int} {B:List SBranch} {R:List SBranch} (hR:Can (fB d c B) R):R.length≤B.length:=by
 have:=zsh hR (U:=B.map fun b=>(zx d b.1 c).1) fun u hu=>by
  obtain ⟨b,hb,_,e⟩:=fB_pos hu;exact List.mem_map.2 ⟨b,hb,e⟩
 simpa using this
theorem HOk.take {d:List SNode} {B:List SBranch} (h:HOk d B) (i:Nat):HOk d (B.take i):=
 ⟨by have:=h.few;rw [List.length_take];omega,fun b hb=>h.ok b (List.mem_of_mem_take hb),fun b hb=>h.many b (List.mem_of_mem_take hb)⟩
section
variable {d : List SNode} (hd : ROk d) (hl : d.length ≤ 1000) (ht : ∀ n ∈ d,n.2.2.2.2.2.2.length ≤ 140737488351232) {c : Int} (hc : InR .u8 c) {B : List SBranch} (hB : HOk d B)
include hd hl ht hc hB
theorem ref15_On_l:∃R,(∃k,ze3.l1 d c B (ze3.j1 R) k [] 0)∧Can (fB d c B) R:=by
 have key:∀(m i:Nat) (out:List SBranch),i+m=B.length→Can (fB d c (B.take i)) out→∃(R:List SBranch) (k:Nat),ze3.l1 d c B (ze3.j1 R) k out (i:Int)∧Can (fB d c B) R:=by
  intro m
  induction m with
  | zero=>
   intro i out hi ho;rw [List.take_of_length_le (by omega)] at ho;exact ⟨out,1,⟨fun h=>absurd (dt h) (by omega),fun _=>rfl⟩,ho⟩
  | succ m ih=>
   intro i out hi ho;have hil:i<B.length:=by omega
   have hat:at? B (i:Int)=some B[i]:=by rw [zbq];simp [hil]
   have hbm:=List.getElem_mem hil;obtain ⟨b1,b2,b3⟩:=hB.ok _ hbm;obtain ⟨m1,m2⟩:=hB.many _ hbm;have hrd:=zq3 hd hl ht (by omega) b3 b2 hc;have e:=fB_snoc d c (B.take i) B[i];rw [← List.take_succ_eq_append_getElem hil] at e;have hfew:=hB.few;cases hr:(zx d B[i].1 c).2
   ·obtain ⟨R,k,hk1,hk2⟩:=ih (i+1) out (by omega) (ho.congr fun t=>by rw [e,hr];simp);exact ⟨R,k+1,⟨fun _=>⟨_,hat,_,hrd,(fun h=>by rw [hr] at h;cases h),fun _=>⟨zh (by omega) (by omega),hk1⟩⟩,fun h=>absurd (by omega) (df h)⟩,hk2⟩
   ·have hn:(B[i].2.toNat:Nat)≠0:=by omega
    have hsat:sat B[i].2.toNat=B[i].2:=by unfold sat;omega
    have hadd:=ho.add (zx d B[i].1 c).1 hn;rw [hsat] at hadd;have hol:=onB_len ho;have hbo:BrOk out:=ho.brok fun t ht=>by have:=fB_read (hB.take i) ht;omega
    have hrl:=zku d B[i].1 c;obtain ⟨R,k,hk1,hk2⟩:=ih (i+1) (zml (zx d B[i].1 c).1 B[i].2 out) (by omega) (hadd.congr fun t=>by
     rw [e,hr];simp only [true_and,eq_comm])
    exact ⟨R,k+1,⟨fun _=>⟨_,hat,_,hrd,fun _=>⟨_,hat,_,zmc ho.srt hbo (by rw [List.length_take] at hol;omega) (by omega) ⟨by omega,by omega⟩,zh (by omega) (by omega),hk1⟩,(fun h=>by rw [hr] at h;cases h)⟩,fun h=>absurd (by omega) (df h)⟩,hk2⟩
 obtain ⟨R,k,h1,h2⟩:=key B.length 0 [] (by omega) (Can.nil.congr fun t=>by simp [fB]);exact ⟨R,⟨k,h1⟩,h2⟩
structure MapN (f:List SItem→Nat) (m:List (Str × Int)):Prop where
 kn:KN m
 mem:∀k v,(k,v)∈m↔∃u,k=keyS u∧f u≠0∧v=sat (f u)
omit hd hl ht hc hB in
theorem MapN.get {f:List SItem→Nat} {m} (h:MapN f m) (u:List SItem):zeg m (keyS u) (0:Int)=sat (f u):=by
 by_cases hu:f u=0
 ·rw [zhw fun p hp e=>?_]
  ·rw [hu];rfl
  ·obtain ⟨k,v⟩:=p
   obtain ⟨w,h1,h2,_⟩:=(h.mem k v).1 hp
   simp only at e
   rw [e] at h1
   rw [zgd.1 h1] at hu
   exact h2 hu
 ·have hm:=(h.mem (keyS u) (sat (f u))).2 ⟨u,rfl,hu,rfl⟩
  exact zm1 h.kn hm (0:Int)
omit hd hl ht hc hB in
theorem MapN.put {f:List SItem→Nat} {m} (h:MapN f m) (u:List SItem) {n:Nat} (hn:n≠0) {v:Int} (hv:v=sat (f u+n)):MapN (fun t=>f t+if t=u then n else 0) (zfx m (keyS u) v):=by
 refine ⟨mput_kn h.kn _ _,fun k w=>?_⟩
 rw [zrr,h.mem,Prod.mk.injEq]
 constructor
 ·rintro (⟨h1,h2⟩ | ⟨h1,u',h2,h3,h4⟩)
  ·exact ⟨u,h1,by simp;omega,by rw [h2,hv];simp⟩
  ·have hne:u'≠u:=fun e=>h1 (by rw [h2,e])
   exact ⟨u',h2,by simp [hne,h3],by rw [h4];simp [hne]⟩
 ·rintro ⟨u',h1,h2,h3⟩
  by_cases e:u'=u
  ·subst e;exact .inl ⟨h1,by rw [h3,hv];simp⟩
  ·refine .inr ⟨fun e'=>e (zgd.1 (h1.symm.trans e')),u',h1, ?_, ?_⟩
   ·simpa [e] using h2
   ·rw [h3];simp [e]
theorem next_On_l:∃R,(∃k,zbp.l2 d c B (zbp.j2 R) k [] [] 0)∧Can (fB d c B) R:=by
 have hfew:=hB.few;have last:∀(many:List (Str × Int)) (out:List SBranch),MapN (fB d c B) many→(out.map (·.1)).Nodup→(∀u,u∈out.map (·.1)↔fB d c B u≠0)→out.length≤10001→∃R,zbp.j2 R many out∧Can (fB d c B) R:=by
  intro many out hm hn ho hlen;have hlo:∀b∈out,b.1.length≤1000:=fun b hb=>by
   have:=fB_read hB ((ho b.1).1 (List.mem_map.2 ⟨b,hb,rfl⟩));omega
  let out':=out.map fun b=>(b.1,sat (fB d c B b.1))
  have e1:out'.map (·.1)=out.map (·.1):=by simp [out',Function.comp_def]
  have hn':(out'.map (·.1)).Nodup:=by rw [e1];exact hn
  have hcan:Can (fB d c B) (srtB out'):=by
   refine ⟨zmz hn',fun t m=>?_⟩;rw [(zgl out').mem_iff];constructor
   ·intro h;obtain ⟨b,hb,e⟩:=List.mem_map.1 h;simp only [Prod.mk.injEq] at e;obtain ⟨rfl,rfl⟩:=e;exact ⟨(ho _).1 (List.mem_map.2 ⟨b,hb,rfl⟩),rfl⟩
   ·rintro ⟨h1,h2⟩;obtain ⟨b,hb,e⟩:=List.mem_map.1 ((ho t).2 h1);exact List.mem_map.2 ⟨b,hb,by rw [e,h2]⟩
  refine ⟨srtB out', ?_,hcan⟩;refine zgx (P:=fun k (o:List SBranch) v=>zbp.l1 many out (zbp.j1 (srtB out')) k o v) out.length (fun i o=>o=out'.take i++out.drop i) ?_ ?_ out (by simp)
  ·rintro i o hi rfl;have hl1:(out'.take i).length=i:=by simp [out'];omega
   have hat:at? (out'.take i++out.drop i) (i:Int)=some out[i]:=by
    rw [zbq,List.getElem?_append_right (by omega),hl1,Nat.sub_self];simp [hi]
   have hset:(out'.take i++out.drop i).set i (out[i].1,sat (fB d c B out[i].1))=out'.take (i+1)++out.drop (i+1):=by
    rw [List.set_append_right _ _ (by omega),hl1,Nat.sub_self,List.drop_eq_getElem_cons hi,List.set_cons_zero,List.take_succ_eq_append_getElem (show i<out'.length by simp [out'];exact hi)];simp [out']
   refine .inr ⟨_,rfl,fun k hk=>⟨fun _=>⟨_,hat,_,⟨hlo _ (List.getElem_mem hi),rfl⟩,_,hat,zh (by omega) (by omega), ?_⟩,fun h=>absurd (by omega) (df h)⟩⟩;rw [hm.get,Int.toNat_natCast,hset];exact hk
  ·rintro o rfl k;refine ⟨fun h=>absurd (dt h) (by omega),fun _=>?_⟩;have hl2:out'.length=out.length:=by simp [out']
   rw [List.take_of_length_le (by omega),List.drop_length,List.append_nil];exact ⟨_,⟨hn',fun b hb=>by
    obtain ⟨b',hb',rfl⟩:=List.mem_map.1 hb;exact hlo b' hb',by omega,rfl⟩,rfl⟩
 have key:∀(m i:Nat) (many:List (Str × Int)) (out:List SBranch),i+m=B.length→MapN (fB d c (B.take i)) many→(out.map (·.1)).Nodup→(∀u,u∈out.map (·.1)↔fB d c (B.take i) u≠0)→out.length≤i→∃(R:List SBranch) (k:Nat),zbp.l2 d c B (zbp.j2 R) k many out (i:Int)∧Can (fB d c B) R:=by
  intro m
  induction m with
  | zero=>
   intro i many out hi hm hn ho hlen;rw [List.take_of_length_le (by omega)] at hm ho;obtain ⟨R,h1,h2⟩:=last many out hm hn ho (by omega);exact ⟨R,1,⟨fun h=>absurd (dt h) (by omega),fun _=>h1⟩,h2⟩
  | succ m ih=>
   intro i many out hi hm hn ho hlen;have hil:i<B.length:=by omega
   have hat:at? B (i:Int)=some B[i]:=by rw [zbq];simp [hil]
   have hbm:=List.getElem_mem hil;obtain ⟨b1,b2,b3⟩:=hB.ok _ hbm;obtain ⟨m1,m2⟩:=hB.many _ hbm;have hrd:=next_Read_in hd hl ht (by omega) b3 b2 hc;have hrl:=zku d B[i].1 c;have e:=fB_snoc d c (B.take i) B[i];rw [← List.take_succ_eq_append_getElem hil] at e;cases hr:(zx d B[i].1 c).2
   ·have e0:∀u,fB d c (B.take (i+1)) u=fB d c (B.take i) u:=fun u=>by rw [e,hr];simp
    have e0':fB d c (B.take (i+1))=fB d c (B.take i):=funext e0;obtain ⟨R,k,hk1,hk2⟩:=ih (i+1) many out (by omega) (by rw [e0'];exact hm) hn (by rw [e0'];exact ho) (by omega);exact ⟨R,k+1,⟨fun _=>⟨_,hat,_,hrd,fun _=>⟨zh (by omega) (by omega),hk1⟩,(fun h=>by rw [hr] at h;cases h)⟩,fun h=>absurd (by omega) (df h)⟩,hk2⟩
   ·have hn0:B[i].2.toNat≠0:=by omega
    have hg:=hm.get (zx d B[i].1 c).1;have hv:min (zeg many (keyS (zx d B[i].1 c).1) 0+B[i].2) 2=sat (fB d c (B.take i) (zx d B[i].1 c).1+B[i].2.toNat):=by
     rw [hg];unfold sat;omega
    have e0':fB d c (B.take (i+1))=fun t=>fB d c (B.take i) t+if t=(zx d B[i].1 c).1 then B[i].2.toNat else 0:=funext fun u=>by
     rw [e,hr];simp only [true_and,eq_comm]
    have hput:=hm.put (zx d B[i].1 c).1 hn0 hv;rw [← e0'] at hput;have hin:InR .i64 (zeg many (keyS (zx d B[i].1 c).1) 0+B[i].2):=by rw [hg];unfold sat;exact zh (by omega) (by omega)
    by_cases h0:fB d c (B.take i) (zx d B[i].1 c).1=0
    ·obtain ⟨R,k,hk1,hk2⟩:=ih (i+1) _ (out++[((zx d B[i].1 c).1,0)]) (by omega) hput (by
      rw [List.map_append,List.nodup_append];refine ⟨hn,by simp,fun a ha b hb e=>?_⟩;simp at hb;subst hb;subst e;exact (ho _).1 ha h0) (fun u=>by
      rw [e0',List.map_append,List.mem_append,ho]
      by_cases hu:u=(zx d B[i].1 c).1
      ·subst hu;simp;omega
      ·simp [hu]) (by simp;omega)
     refine ⟨R,k+1,⟨fun _=>⟨_,hat,_,hrd,fun h=>by rw [hr] at h;simp at h,fun _=>⟨_,⟨by omega,rfl⟩,fun _=>⟨by simp;omega,hin,zh (by omega) (by omega),hk1⟩,fun h=>?_⟩⟩,fun h=>absurd (by omega) (df h)⟩,hk2⟩;rw [hg,h0] at h;simp [sat] at h
    ·obtain ⟨R,k,hk1,hk2⟩:=ih (i+1) _ out (by omega) hput hn (fun u=>by
      rw [e0',ho]
      by_cases hu:u=(zx d B[i].1 c).1
      ·subst hu;simp [h0]
      ·simp [hu]) (by omega)
     refine ⟨R,k+1,⟨fun _=>⟨_,hat,_,hrd,fun h=>by rw [hr] at h;simp at h,fun _=>⟨_,⟨by omega,rfl⟩,fun h=>?_,fun _=>⟨hin,zh (by omega) (by omega),hk1⟩⟩⟩,fun h=>absurd (by omega) (df h)⟩,hk2⟩;exfalso;rw [hg] at h;have:=eq_of_beq h;unfold sat at this;omega
 obtain ⟨R,k,h1,h2⟩:=key B.length 0 [] [] (by omega) ⟨List.nodup_nil,fun k v=>by simp [fB]⟩ (by simp) (by simp [fB]) (by simp);exact ⟨R,⟨k,h1⟩,h2⟩
end
theorem on_both {d:List SNode} {s:List SItem} (h:Sm d s) {c:Int} (hc:InR .u8 c):∃B R,zfo d s B∧Can (fun t=>(hds d s).count t) B∧zbp d s c R∧ze3 d s c R∧Can (fB d c B) R:=by
 obtain ⟨B,b1,b2,b3⟩:=zl5 h;have hB:=h.hok b3;have hl:d.length≤1000:=by have:=h.len;omega
 obtain ⟨R,⟨k,h1⟩,h2⟩:=next_On_l h.rt.toROk hl h.txt hc hB;obtain ⟨R',⟨k',h1'⟩,h2'⟩:=ref15_On_l h.rt.toROk hl h.txt hc hB;have e:=h2'.uniq h2;subst e;exact ⟨B,R',b1,b3,⟨B,b1,k,h1⟩,⟨B,b2,k',h1'⟩,h2⟩
end Go.Proofs.YtahgmdbioafmbaaGreatDoor.V
namespace Go.Proofs.YtahgmdbioafmbaaGreatDoor.V
open Go
set_option linter.unusedVariables false
def zd8 (d:List SNode) (c:Int) (s:List SItem):List (List SItem):=(hds d s).filterMap fun t=>if (zx d t c).2=true then some (zx d t c).1 else none
def zcx (d:List SNode):List Int→List SItem→List (List SItem)
 | [],s=>[s]
 | c::w,s=>(zd8 d c s).flatMap (zcx d w)
theorem zqg (d:List SNode) (c:Int):∀(w:List Int) (s:List SItem),zcx d (w++[c]) s=(zcx d w s).flatMap (zd8 d c)
 | [],s=>by
  show (zd8 d c s).flatMap (zcx d [])=_;have:zcx d []=fun t=>[t]:=by funext t;rfl
  rw [this];simp
 | e::w,s=>by
  show (zd8 d e s).flatMap (zcx d (w++[c]))=((zd8 d e s).flatMap (zcx d w)).flatMap (zd8 d c);rw [List.flatMap_assoc]
  congr 1
  funext t;exact zqg d c w t
theorem sumF_flat (F:List SItem→Nat) (g:List SItem→List (List SItem)) (L:List (List SItem)):zb7 F (L.flatMap g)=zb7 (fun t=>zb7 F (g t)) L:=by
 induction L with
 | nil=>rfl
 | cons t L ih=>
  rw [List.flatMap_cons,ze1,ih];simp [zb7]
theorem sumF_step (d:List SNode) (c:Int) (G:List SItem→Nat) (s:List SItem):zb7 G (zd8 d c s)=zb7 (fun t=>if (zx d t c).2=true then G (zx d t c).1 else 0) (hds d s):=by
 unfold zd8
 induction hds d s with
 | nil=>rfl
 | cons t L ih=>
  rw [List.filterMap_cons]
  by_cases h:(zx d t c).2=true
  ·simp only [h,if_true];have:∀x (M:List (List SItem)),zb7 G (x::M)=G x+zb7 G M:=fun x M=>by simp [zb7]
   rw [this,ih];simp [zb7,h]
  ·simp only [h];rw [show zb7 (fun t=>if (zx d t c).2=true then G (zx d t c).1 else 0) (t::L)=zb7 (fun t=>if (zx d t c).2=true then G (zx d t c).1 else 0) L by simp [zb7,h]];exact ih
theorem wyn_ends (d:List SNode):∀(w:List Int) (s:List SItem),wyn d w s=zb7 (fun u=>(hds d u).count []) (zcx d w s)
 | [],s=>by simp [wyn,zcx,zb7]
 | c::w,s=>by
  show zb7 (fun t=>if (zx d t c).2=true then wyn d w (zx d t c).1 else 0) (hds d s)=zb7 _ ((zd8 d c s).flatMap (zcx d w));rw [sumF_flat,← sumF_step d c (fun t=>wyn d w t) s];exact zgf fun t _=>wyn_ends d w t
theorem zp0 {α:Type} (K:List α):(K.map fun _=>(0:Nat)).sum=0:=by
 induction K with
 | nil=>rfl
 | cons a K ih=>rw [List.map_cons,List.sum_cons,ih]
theorem zpz {g:List SItem→Nat} {t:List SItem}:∀{K:List (List SItem)},K.Nodup→t∈K→(K.map fun k=>(if k=t then 1 else 0)*g k).sum=g t
 | [],_,h=>by cases h
 | k::K,hn,h=>by
  rw [List.nodup_cons] at hn;rw [List.map_cons,List.sum_cons]
  by_cases e:k=t
  ·subst e;have z:(K.map fun k'=>(if k'=k then 1 else 0)*g k').sum=0:=by
    have:∀k'∈K,(if k'=k then 1 else 0)*g k'=0:=fun k' hk=>by
     have hne:k'≠k:=fun e'=>hn.1 (by rw [← e'];exact hk);rw [if_neg hne,Nat.zero_mul]
    rw [List.map_congr_left this,zp0]
   rw [z];simp
  ·rw [if_neg e,Nat.zero_mul,Nat.zero_add];exact zpz hn.2 ((List.mem_cons.1 h).resolve_left fun h'=>e h'.symm)
theorem sum_by {g:List SItem→Nat} {K:List (List SItem)} (hn:K.Nodup):∀(L:List (List SItem)),(∀t∈L,t∈K)→zb7 g L=(K.map fun k=>L.count k*g k).sum
 | [],_=>by
  have:∀k∈K,([]:List (List SItem)).count k*g k=0:=fun k _=>by simp
  rw [List.map_congr_left this,zp0];rfl
 | t::L,h=>by
  have ih:=sum_by hn (g:=g) L fun u hu=>h u (by simp [hu]);have e1:zb7 g (t::L)=g t+zb7 g L:=by simp [zb7]
  have e2:(K.map fun k=>(t::L).count k*g k).sum=(K.map fun k=>L.count k*g k).sum+(K.map fun k=>(if k=t then 1 else 0)*g k).sum:=by
   clear h ih e1 hn
   induction K with
   | nil=>rfl
   | cons a K ih=>
    simp only [List.map_cons,List.sum_cons];rw [ih,List.count_cons,Nat.add_mul];have:(if (t==a)=true then 1 else 0)=(if a=t then 1 else 0):=by
     by_cases h:a=t
     ·subst h;simp
     ·rw [if_neg (by simpa using fun e=>h e.symm),if_neg h]
    rw [this];omega
  rw [e1,ih,e2,zpz hn (h t (by simp))];omega
theorem fB_step {d:List SNode} {s:List SItem} {B:List SBranch} (hB:Can (fun t=>(hds d s).count t) B) (c:Int) (u:List SItem):sat (fB d c B u)=sat ((zd8 d c s).count u):=by
 have e1:(zd8 d c s).count u=zb7 (fun t=>if t=u then 1 else 0) (zd8 d c s):=by
  induction zd8 d c s with
  | nil=>rfl
  | cons t L ih=>
   rw [List.count_cons,ih];unfold zb7;rw [List.map_cons,List.sum_cons]
   by_cases h:t=u
   ·simp [h];omega
   ·simp [h]
 rw [e1,sumF_step,sum_by hB.nodup (hds d s) fun t ht=>(hB.keys t).2 (by have:=List.count_pos_iff.2 ht;omega),List.map_map];unfold fB;have key:∀b∈B,sat (if (zx d b.1 c).2=true∧(zx d b.1 c).1=u then b.2.toNat else 0)=sat ((hds d s).count b.1*if (zx d b.1 c).2=true then (if (zx d b.1 c).1=u then 1 else 0) else 0):=fun b hb=>by
  have h1:=(hB.many hb).1
  by_cases h2:(zx d b.1 c).2=true
  ·by_cases h3:(zx d b.1 c).1=u
   ·rw [if_pos ⟨h2,h3⟩,if_pos h2,if_pos h3,Nat.mul_one,h1];unfold sat;omega
   ·rw [if_neg fun e=>h3 e.2,if_pos h2,if_neg h3];rfl
  ·rw [if_neg fun e=>h2 e.1,if_neg h2];rfl
 clear hB e1
 induction B with
 | nil=>rfl
 | cons b B ih=>
  have k1:=key b (by simp);have k2:=ih fun b' hb'=>key b' (by simp [hb']);simp only [List.map_cons,List.sum_cons,Function.comp] at k2 ⊢;unfold sat at *;omega
theorem next_Ends_l {B:List SBranch} {f:List SItem→Nat} (hB:Can f B) (hl:B.length≤10001):∃k,zcv.l1 B (sat (f [])) (zcv.j1 (sat (f []))) k 0:=by
 refine zgx (P:=fun k (_:Unit) v=>zcv.l1 B (sat (f [])) _ k v) B.length (fun i _=>∀b∈B.take i,b.1≠[]) ?_ ?_ () (by simp)
 ·intro i _ hi hn;have hat:at? B (i:Int)=some B[i]:=by rw [zbq];simp [hi]
  by_cases h0:B[i].1=[]
  ·refine .inl fun k=>⟨fun _=>⟨_,hat,fun _=>?_,fun h=>by rw [h0] at h;simp at h⟩,fun h=>absurd (by omega) (df h)⟩;have:=(hB.many (List.getElem_mem hi)).1;rw [h0] at this;exact this.symm
  ·refine .inr ⟨(),fun b hb=>?_,fun k hk=>⟨fun _=>⟨_,hat,fun h=>absurd (by simpa using h) h0,fun _=>⟨zh (by omega) (by omega),hk⟩⟩,fun h=>absurd (by omega) (df h)⟩⟩;rw [List.take_succ_eq_append_getElem hi] at hb;rcases List.mem_append.1 hb with hb | hb
   ·exact hn b hb
   ·rw [List.mem_singleton.1 hb];exact h0
 ·intro _ hn k;refine ⟨fun h=>absurd (dt h) (by omega),fun _=>?_⟩;show sat (f [])=0;rw [List.take_length] at hn;have:f []=0:=by
   rcases Nat.eq_zero_or_pos (f []) with h | h
   ·exact h
   ·obtain ⟨b,hb,e⟩:=List.mem_map.1 ((hB.keys []).2 (by omega));exact absurd e (hn b hb)
  rw [this];rfl
theorem ref15_Ends_l {B:List SBranch} {f:List SItem→Nat} (hB:Can f B) (hl:B.length≤10001):∃k,zep.l1 B (sat (f [])) (zep.j1 (sat (f []))) k 0:=by
 refine zgx (P:=fun k (_:Unit) v=>zep.l1 B (sat (f [])) _ k v) B.length (fun i _=>∀b∈B.take i,b.1≠[]) ?_ ?_ () (by simp)
 ·intro i _ hi hn;have hat:at? B (i:Int)=some B[i]:=by rw [zbq];simp [hi]
  by_cases h0:B[i].1=[]
  ·refine .inl fun k=>⟨fun _=>⟨_,hat,fun _=>⟨_,hat, ?_⟩,fun h=>by rw [h0] at h;simp at h⟩,fun h=>absurd (by omega) (df h)⟩;have:=(hB.many (List.getElem_mem hi)).1;rw [h0] at this;exact this.symm
  ·refine .inr ⟨(),fun b hb=>?_,fun k hk=>⟨fun _=>⟨_,hat,fun h=>absurd (by simpa using h) h0,fun _=>⟨zh (by omega) (by omega),hk⟩⟩,fun h=>absurd (by omega) (df h)⟩⟩;rw [List.take_succ_eq_append_getElem hi] at hb;rcases List.mem_append.1 hb with hb | hb
   ·exact hn b hb
   ·rw [List.mem_singleton.1 hb];exact h0
 ·intro _ hn k;refine ⟨fun h=>absurd (dt h) (by omega),fun _=>?_⟩;show sat (f [])=0;rw [List.take_length] at hn;have:f []=0:=by
   rcases Nat.eq_zero_or_pos (f []) with h | h
   ·exact h
   ·obtain ⟨b,hb,e⟩:=List.mem_map.1 ((hB.keys []).2 (by omega));exact absurd e (hn b hb)
  rw [this];rfl
theorem ends_both {d:List SNode} {s:List SItem} (h:Sm d s):zcv d s (sat ((hds d s).count []))∧zep d s (sat ((hds d s).count [])):=by
 obtain ⟨B,b1,b2,b3⟩:=zl5 h;have hl:=heads_few h b3;exact ⟨⟨B,b1,next_Ends_l b3 hl⟩,⟨B,b2,ref15_Ends_l b3 hl⟩⟩
def sing:List Cl:=(List.range 256).map fun (c:Nat)=>Cl.row ((c:Int) % 256) ((c:Int) % 256)
def clsF (d:List SNode) (t:List SItem):List Cl:=
 match t with
 | []=>[]
 | x::_=>match at? d x.2.1 with
  | none=>[]
  | some n=>if x.1=3 then [Cl.row ((zd2 n.2.2.2.2.2.2 x.2.2.1).getD 0) ((zd2 n.2.2.2.2.2.2 x.2.2.1).getD 0)] else if n.1=2 then [n.2.2.2.2.2.1] else sing
def zli (d:List SNode) (B:List SBranch):List Cl:=B.flatMap fun b=>clsF d b.1
theorem zh4:sing.length=256:=by simp [sing]
theorem clsF_len (d:List SNode) (t:List SItem):(clsF d t).length≤256:=by
 unfold clsF;cases t with
 | nil=>simp
 | cons x t=>
  simp only;cases at? d x.2.1 with
  | none=>simp
  | some n=>
   simp only;split
   ·simp
   ·split
    ·simp
    ·rw [zh4];exact Nat.le_refl _
theorem zk9 (d:List SNode):∀B:List SBranch,(zli d B).length≤256*B.length
 | []=>by simp [zli]
 | b::B=>by
  have h1:=clsF_len d b.1;have h2:=zk9 d B;unfold zli at *;simp only [List.flatMap_cons,List.length_append,List.length_cons];omega
theorem clsB_snoc (d:List SNode) (B:List SBranch) (b:SBranch):zli d (B++[b])=zli d B++clsF d b.1:=by simp [zli]
theorem zod:zbt sing:=by
 refine zgx (P:=fun k (o:List Cl) v=>zbt.l1 (zbt.j1 sing) k o v) 256 (fun i o=>o=sing.take i) ?_ ?_ [] (by simp)
 ·rintro i o hi rfl;have e:sing.take (i+1)=sing.take i++[Cl.row ((i:Int) % 256) ((i:Int) % 256)]:=by
   rw [List.take_succ_eq_append_getElem (by rw [zh4];exact hi)];simp [sing]
  refine .inr ⟨_,rfl,fun k hk=>⟨fun _=>⟨_,zov,by rw [List.length_take];simp;omega,zh (by omega) (by omega), ?_⟩,fun h=>absurd (by omega) (df h)⟩⟩;rw [e] at hk;exact hk
 ·rintro o rfl k;refine ⟨fun h=>absurd (dt h) (by omega),fun _=>?_⟩;show sing=sing.take 256;rw [List.take_of_length_le (by rw [zh4];exact Nat.le_refl _)]
theorem zpn {d:List SNode} {B:List SBranch} (hB:HOk d B):∃k,zbf.l1 d B (zbf.j1 (zli d B)) k [] 0:=by
 have hfew:=hB.few;refine zgx (P:=fun k (o:List Cl) v=>zbf.l1 d B (zbf.j1 (zli d B)) k o v) B.length (fun i o=>o=zli d (B.take i)) ?_ ?_ [] (by simp [zli])
 ·rintro i o hi rfl;have hat:at? B (i:Int)=some B[i]:=by rw [zbq];simp [hi]
  obtain ⟨b1,b2,b3⟩:=hB.ok _ (List.getElem_mem hi);have hlen:=zk9 d (B.take i);rw [List.length_take] at hlen;have e:zli d (B.take (i+1))=zli d (B.take i)++clsF d B[i].1:=by rw [List.take_succ_eq_append_getElem hi,clsB_snoc]
  refine .inr ⟨_,rfl,fun k hk=>⟨fun _=>⟨_,hat,fun h0=>?_,fun h0=>?_⟩,fun h=>absurd (by omega) (df h)⟩⟩
  ·have h1:B[i].1=[]:=by simpa using h0
   rw [e,h1] at hk;simp only [clsF,List.append_nil] at hk;exact ⟨zh (by omega) (by omega),hk⟩
  ·rw [e] at hk;generalize B[i].1=t at *;cases t with
   | nil=>simp at h0
   | cons x rest=>
    obtain ⟨n,hn,hm,hkk⟩:=zjm b3 b2;simp only [clsF,hn] at hk;refine ⟨x,rfl,n,hn,fun h3=>?_,fun h3=>⟨fun h2=>?_,fun h2=>?_⟩⟩
    ·have h3':=eq_of_beq h3;rw [if_pos h3'] at hk;obtain ⟨_,_,h6,h7⟩:n.1=3∧x.2.2.2=0∧0≤x.2.2.1∧x.2.2.1<(n.2.2.2.2.2.2.length:Int):=by
      rcases hkk with ⟨h,_⟩ | ⟨_,h⟩ | ⟨h,_⟩
      ·omega
      ·exact h
      ·omega
     obtain ⟨b,hb2,_⟩:=zow h6 h7;rw [hb2] at hk;exact ⟨b,hb2,b,hb2,_,zov,by simp;omega,zh (by omega) (by omega),hk⟩
    ·have h3':=ne_of_beq_false h3;rw [if_neg h3',if_pos (eq_of_beq h2)] at hk;exact ⟨by simp;omega,zh (by omega) (by omega),hk⟩
    ·have h3':=ne_of_beq_false h3;rw [if_neg h3',if_neg (ne_of_beq_false h2)] at hk;exact ⟨_,zod,by rw [zh4];omega,zh (by omega) (by omega),hk⟩
 ·rintro o rfl k;refine ⟨fun h=>absurd (dt h) (by omega),fun _=>?_⟩;show zli d B=_;rw [List.take_length]
theorem zn1 {d:List SNode} {B:List SBranch} (hB:HOk d B):∃k,zbc.l1 d B (zbc.j1 (zli d B)) k [] 0:=by
 have hfew:=hB.few;refine zgx (P:=fun k (o:List Cl) v=>zbc.l1 d B (zbc.j1 (zli d B)) k o v) B.length (fun i o=>o=zli d (B.take i)) ?_ ?_ [] (by simp [zli])
 ·rintro i o hi rfl;have hat:at? B (i:Int)=some B[i]:=by rw [zbq];simp [hi]
  obtain ⟨b1,b2,b3⟩:=hB.ok _ (List.getElem_mem hi);have hlen:=zk9 d (B.take i);rw [List.length_take] at hlen;have e:zli d (B.take (i+1))=zli d (B.take i)++clsF d B[i].1:=by rw [List.take_succ_eq_append_getElem hi,clsB_snoc]
  refine .inr ⟨_,rfl,fun k hk=>⟨fun _=>⟨_,hat,fun h0=>?_,fun h0=>?_⟩,fun h=>absurd (by omega) (df h)⟩⟩
  ·have h1:B[i].1=[]:=by simpa using h0
   rw [e,h1] at hk;simp only [clsF,List.append_nil] at hk;exact ⟨zh (by omega) (by omega),hk⟩
  ·rw [e] at hk;refine ⟨_,hat, ?_⟩;generalize B[i].1=t at *;cases t with
   | nil=>simp at h0
   | cons x rest=>
    obtain ⟨n,hn,hm,hkk⟩:=zjm b3 b2;simp only [clsF,hn] at hk;refine ⟨x,rfl,n,hn,fun h3=>?_,fun h3=>⟨fun h2=>?_,fun h2=>?_⟩⟩
    ·have h3':=eq_of_beq h3;rw [if_pos h3'] at hk;obtain ⟨_,_,h6,h7⟩:n.1=3∧x.2.2.2=0∧0≤x.2.2.1∧x.2.2.1<(n.2.2.2.2.2.2.length:Int):=by
      rcases hkk with ⟨h,_⟩ | ⟨_,h⟩ | ⟨h,_⟩
      ·omega
      ·exact h
      ·omega
     obtain ⟨b,hb2,hb3⟩:=zow h6 h7;rw [hb2] at hk;exact ⟨b,hb2,b,hb2,_,zix hb3 hb3,by simp;omega,zh (by omega) (by omega),hk⟩
    ·have h3':=ne_of_beq_false h3;simp only [Bool.and_eq_true,beq_iff_eq] at h2;rw [if_neg h3',if_pos h2.2] at hk;exact ⟨by simp;omega,zh (by omega) (by omega),hk⟩
    ·have h3':=ne_of_beq_false h3;have h2':¬ n.1=2:=by
      intro e2;rcases hkk with ⟨h,_⟩ | ⟨h,_⟩ | ⟨h,h',_⟩
      ·simp [h,e2] at h2
      ·exact h3' h
      ·omega
     rw [if_neg h3',if_neg h2'] at hk;refine zgx (P:=fun k' (o:List Cl) v=>zbc.l2 (zbc.j2 (zbc.l1 d B (zbc.j1 (zli d B)) k) (i:Int)) k' o v) 256 (fun j o=>o=zli d (B.take i)++sing.take j) ?_ ?_ (zli d (B.take i)) (by simp)
     ·rintro j o hj rfl;have e:sing.take (j+1)=sing.take j++[Cl.row ((j:Int) % 256) ((j:Int) % 256)]:=by
       rw [List.take_succ_eq_append_getElem (by rw [zh4];exact hj)];simp [sing]
      have hu8:InR .u8 ((j:Int) % 256):=zcy.2 ⟨by omega,by omega⟩;refine .inr ⟨_,rfl,fun k' hk'=>⟨fun _=>⟨_,zix hu8 hu8,by rw [List.length_append,List.length_take];simp;omega,zh (by omega) (by omega), ?_⟩,fun h=>absurd (by omega) (df h)⟩⟩;rw [e,← List.append_assoc] at hk';exact hk'
     ·rintro o rfl k';refine ⟨fun h=>absurd (dt h) (by omega),fun _=>⟨zh (by omega) (by omega), ?_⟩⟩;rw [List.take_of_length_le (l:=sing) (by rw [zh4];exact Nat.le_refl _)];exact hk
 ·rintro o rfl k;refine ⟨fun h=>absurd (dt h) (by omega),fun _=>?_⟩;show zli d B=_;rw [List.take_length]
theorem classes_both {d:List SNode} {s:List SItem} (h:Sm d s):∃B,Can (fun t=>(hds d s).count t) B∧zbf d s (zli d B)∧zbc d s (zli d B):=by
 obtain ⟨B,b1,b2,b3⟩:=zl5 h;have hB:=h.hok b3;exact ⟨B,b3,⟨B,b1,zpn hB⟩,⟨B,b2,zn1 hB⟩⟩
def d5:List SNode:=[(2,0,0,0,0,Cl.row 5 6,([]:Str))]
theorem small_txt {d:List SNode} (h:∀n∈d,n.2.2.2.2.2.2=[]):∀n∈d,n.2.2.2.2.2.2.length≤140737488351232:=fun n hn=>by rw [h n hn];simp
def d55:List SNode:=zky 5 d5 d5
def d8:List SNode:=wrapD 8 d5
abbrev Txt (d:List SNode):Prop:=∀n∈d,n.2.2.2.2.2.2.length≤140737488351232
theorem byte_u8 {s:Str} {i:Int} {c:Int} (h:zd2 s i=some c):0≤c∧c≤255:=by
 unfold zd2 at h;obtain ⟨x,_,rfl⟩:=Option.map_eq_some_iff.1 h;have:=x.toNat_lt;omega
theorem read_same {d:List SNode} {t:List SItem} (hf:zd9 d t=true) (hr:rdy d t=true) {a b:Int} (ha:InR .u8 a) (hb:InR .u8 b) (h:∀x∈clsF d t,x.has a.toNat=x.has b.toNat):zx d t a=zx d t b:=by
 have ha':=zcy.1 ha;have hb':=zcy.1 hb;cases t with
 | nil=>rfl
 | cons x rest=>
  obtain ⟨n,hn,hm,hk⟩:=zjm hf hr;simp only [clsF,hn] at h;unfold zx;simp only [hn]
  by_cases hl:(zds rest).2=false
  ·rw [if_pos hl,if_pos hl]
  ·rw [if_neg hl,if_neg hl]
   by_cases h3:x.1=3
   ·rw [if_pos h3] at h;rw [if_pos h3,if_pos h3];obtain ⟨h6,h7⟩:0≤x.2.2.1∧x.2.2.1<(n.2.2.2.2.2.2.length:Int):=by
     rcases hk with ⟨h,_⟩ | ⟨_,_,_,h⟩ | ⟨h,_⟩
     ·omega
     ·exact h
     ·omega
    obtain ⟨c,hc,_⟩:=zow h6 h7;have hcr:=byte_u8 hc;have hh:=h _ (List.mem_singleton.2 rfl);rw [hc] at hh ⊢;simp only [Option.getD_some] at hh;rw [zkh (by omega),zkh (by omega)] at hh;have e:(some c=some a)↔(some c=some b):=by
     simp only [Option.some.injEq];have e1:(decide (c≤((a.toNat:Nat):Int))&&decide (((a.toNat:Nat):Int)≤c))=true↔c=a:=by simp only [Bool.and_eq_true,decide_eq_true_eq];omega
     have e2:(decide (c≤((b.toNat:Nat):Int))&&decide (((b.toNat:Nat):Int)≤c))=true↔c=b:=by simp only [Bool.and_eq_true,decide_eq_true_eq];omega
     rw [← e1,← e2,hh]
    by_cases hca:(some c=some a)
    ·rw [if_pos hca,if_pos (e.1 hca)]
    ·rw [if_neg hca,if_neg fun hcb=>hca (e.2 hcb)]
   ·rw [if_neg h3] at h
    by_cases h2:n.1=2
    ·rw [if_pos h2] at h;have h1:x.1=1:=by
      rcases hk with ⟨h,_⟩ | ⟨h,_⟩ | ⟨_,h,_⟩
      ·exact h
      ·exact absurd h h3
      ·omega
     have hh:=h _ (List.mem_singleton.2 rfl);rw [if_neg h3,if_neg (show ¬ x.1=4 by omega),if_neg (show ¬ n.1=8 by omega),if_neg (show ¬ n.1=9 by omega),if_neg h3,if_neg (show ¬ x.1=4 by omega),if_neg (show ¬ n.1=8 by omega),if_neg (show ¬ n.1=9 by omega),hh]
    ·rw [if_neg h2] at h;have hm:Cl.row a a∈sing:=by
      refine List.mem_map.2 ⟨a.toNat,by simp;omega, ?_⟩;have e:((a.toNat:Nat):Int) % 256=a:=by omega
      rw [e]
     have hh:=h _ hm;rw [zkh (by omega),zkh (by omega)] at hh;have e1:(decide (a≤((a.toNat:Nat):Int))&&decide (((a.toNat:Nat):Int)≤a))=true:=by simp only [Bool.and_eq_true,decide_eq_true_eq];omega
     rw [e1] at hh;have hh:=hh.symm;simp only [Bool.and_eq_true,decide_eq_true_eq] at hh;have:a=b:=by omega
     rw [this]
theorem form_low1 {d:List SNode} {x:SItem} (h:zfb d x=true) (hb:zld x=false):zfb d (zlh x)=true:=by
 unfold zlh;split
 ·rename_i h5
  unfold zfb at h ⊢;rw [if_pos h5] at h;rw [if_pos (show (x.1,x.2.1,x.2.2.1-1,x.2.2.2).1=5 from h5)];simp only [zld,h5] at hb;simp at hb;simp only [Bool.and_eq_true,decide_eq_true_eq,beq_iff_eq] at h ⊢;omega
 ·exact h
theorem form_lowF {d:List SNode} {s:List SItem} (h:zd9 d s=true):zd9 d (zds s).1=true:=by
 unfold zds;split
 ·rfl
 ·rename_i hb
  have hb:s.any zld=false:=by simpa using hb
  unfold zd9 at *;rw [List.all_eq_true] at *;intro y hy;obtain ⟨x,hx,rfl⟩:=List.mem_map.1 hy;rw [List.any_eq_false] at hb;exact form_low1 (h x hx) (by simpa using hb x hx)
theorem form_read {d:List SNode} (hd:ROk d) {t:List SItem} (hf:zd9 d t=true) (hr:rdy d t=true) {c:Int} (hc:InR .u8 c):zd9 d (zx d t c).1=true:=by
 have hc':=zcy.1 hc;cases t with
 | nil=>rfl
 | cons x rest=>
  obtain ⟨n,hn,hm,hk⟩:=zjm hf hr;have hlow:=form_lowF (zdp hf).2;have five:∀v:Int,0≤v→v≤65535→zfb d (5,0,v,0)=true:=fun v h0 h1=>by
   unfold zfb;simp;omega
  unfold zx;simp only [hn];split
  ·rfl
  ·split
   ·rename_i h3
    split
    ·split
     ·rename_i hlt
      refine zfp ?_ hlow;obtain ⟨h4,h6⟩:n.1=3∧0≤x.2.2.1:=by
       rcases hk with ⟨h,_⟩ | ⟨_,h,_,h',_⟩ | ⟨h,_⟩
       ·omega
       ·exact ⟨h,h'⟩
       ·omega
      unfold zfb;simp [hn,h4];omega
     ·exact hlow
    ·rfl
   ·split
    ·rename_i h3 h4
     obtain ⟨h9,h6,h7⟩:n.1=9∧0≤x.2.2.1∧x.2.2.1≤255:=by
      rcases hk with ⟨h,_⟩ | ⟨h,_⟩ | ⟨_,h⟩
      ·omega
      ·omega
      ·exact h
     obtain ⟨p,q⟩:=hd.one _ n hn (by omega);exact zfp (zig (zdu hn p q)) (zfp (five _ (by omega) (by omega)) hlow)
    ·split
     ·rename_i h8
      obtain ⟨p,q⟩:=hd.one _ n hn (by omega);exact zfp (zig (zdu hn p q)) (zfp (five _ (by omega) (by omega)) hlow)
     ·split
      ·rename_i h9
       refine zfp ?_ hlow;unfold zfb;simp [hn,h9];omega
      ·split
       ·exact hlow
       ·rfl
theorem step_ok {d:List SNode} (hd:ROk d) {s:List SItem} (hf:zd9 d s=true) {c:Int} (hc:InR .u8 c):∀u∈zd8 d c s,zd9 d u=true∧u.length≤s.length+d.length+1:=by
 intro u hu;obtain ⟨t,h1,h2⟩:=List.mem_filterMap.1 hu;obtain ⟨L,⟨k,hk⟩,hp⟩:=hds_lv hd s hf;obtain ⟨h3,h4⟩:=lv_vs hd (n0:=s.length) k s L hk (Vs.start hf (Nat.le_refl _)) t (hp.mem_iff.2 h1);split at h2
 ·cases h2;have:=h3.len;have:=zku d t c;exact ⟨form_read hd h3.form h4 hc,by omega⟩
 ·cases h2
theorem ends_ok {d:List SNode} (hd:ROk d):∀(w:List Int) (s:List SItem),(∀c∈w,InR .u8 c)→zd9 d s=true→∀u∈zcx d w s,zd9 d u=true∧u.length≤s.length+w.length*(d.length+1)
 | [],s,_,hf,u,hu=>by
  rw [zcx,List.mem_singleton] at hu;subst hu;exact ⟨hf,by simp⟩
 | c::w,s,hw,hf,u,hu=>by
  obtain ⟨t,h1,h2⟩:=List.mem_flatMap.1 hu;obtain ⟨h3,h4⟩:=step_ok hd hf (hw c (by simp)) t h1;obtain ⟨h5,h6⟩:=ends_ok hd w t (fun e he=>hw e (by simp [he])) h3 u h2;refine ⟨h5, ?_⟩;rw [List.length_cons,Nat.succ_mul];omega
theorem hds_mem {d:List SNode} (hd:ROk d) (r:List SItem) (t:List SItem):∀s,t∈hds d (s++r)↔(∃t',t'∈hds d s∧t'≠[]∧t=t'++r)∨([]∈hds d s∧t∈hds d r):=by
 intro s;have h:=zr7 hd (fun u=>if u=t then 1 else 0) r s;have cnt1:∀L:List (List SItem),zb7 (fun u=>if u=t then 1 else 0) L≠0↔t∈L:=fun L=>by
  induction L with
  | nil=>simp [zb7]
  | cons u L ih=>
   have e:zb7 (fun u=>if u=t then 1 else 0) (u::L)=(if u=t then 1 else 0)+zb7 (fun u=>if u=t then 1 else 0) L:=by simp [zb7]
   rw [e,List.mem_cons]
   by_cases hu:u=t
   ·subst hu;simp
   ·rw [if_neg hu,Nat.zero_add,ih];constructor
    ·exact .inr
    ·rintro (e | e)
     ·exact absurd e.symm hu
     ·exact e
 have cnt2:∀(G:List SItem→Nat) (L:List (List SItem)),zb7 G L≠0↔∃u∈L,G u≠0:=fun G L=>by
  induction L with
  | nil=>simp [zb7]
  | cons u L ih=>
   have e:zb7 G (u::L)=G u+zb7 G L:=by simp [zb7]
   rw [e];constructor
   ·intro h0
    by_cases hu:G u=0
    ·obtain ⟨v,h1,h2⟩:=ih.1 (by omega);exact ⟨v,by simp [h1],h2⟩
    ·exact ⟨u,by simp,hu⟩
   ·rintro ⟨v,h1,h2⟩;rcases List.mem_cons.1 h1 with rfl | h1
    ·omega
    ·have:=ih.2 ⟨v,h1,h2⟩;omega
 rw [← cnt1,h,cnt2];constructor
 ·rintro ⟨u,h1,h2⟩
  by_cases hu:u=[]
  ·subst hu;simp only [if_true] at h2;exact .inr ⟨h1,(cnt1 _).1 h2⟩
  ·simp only [if_neg hu] at h2
   by_cases he:u++r=t
   ·exact .inl ⟨u,h1,hu,he.symm⟩
   ·rw [if_neg he] at h2;exact absurd rfl h2
 ·rintro (⟨u,h1,hu,rfl⟩ | ⟨h1,h2⟩)
  ·exact ⟨u,h1,by simp only [if_neg hu];simp⟩
  ·exact ⟨[],h1,by simp only [if_true];exact (cnt1 _).2 h2⟩
theorem zdo {d:List SNode} {c:Int} {s u:List SItem}:u∈zd8 d c s↔∃t∈hds d s,(zx d t c).2=true∧(zx d t c).1=u:=by
 unfold zd8;rw [List.mem_filterMap];constructor
 ·rintro ⟨t,h1,h2⟩;split at h2
  ·rename_i h3;cases h2;exact ⟨t,h1,h3,rfl⟩
  ·cases h2
 ·rintro ⟨t,h1,h2,rfl⟩;exact ⟨t,h1,by rw [if_pos h2]⟩
theorem step_app {d:List SNode} (hd:ROk d) {c:Int} {s r u:List SItem} (h:u∈zd8 d c (s++r)):(∃u',u'∈zd8 d c s∧(zds r).2=true∧u=u'++(zds r).1)∨([]∈hds d s∧u∈zd8 d c r):=by
 obtain ⟨t,h1,h2,rfl⟩:=zdo.1 h;rcases (hds_mem hd r t s).1 h1 with ⟨t',k1,k2,rfl⟩ | ⟨k1,k2⟩
 ·rw [zn5 k2] at h2 ⊢
  by_cases hc:(zx d t' c).2=true∧(zds r).2=true
  ·rw [if_pos hc];exact .inl ⟨_,zdo.2 ⟨t',k1,hc.1,rfl⟩,hc.2,rfl⟩
  ·rw [if_neg hc] at h2;cases h2
 ·exact .inr ⟨k1,zdo.2 ⟨t,k2,h2,rfl⟩⟩
def Cov (n:Nat) (p:List SItem→Prop):Prop:=∃K:List (List SItem),K.length≤n∧∀u,p u→u∈K
theorem Cov.weak {m n:Nat} {p q:List SItem→Prop} (h:Cov m p) (hm:m≤n) (hq:∀u,q u→p u):Cov n q:=
 let ⟨K,h1,h2⟩:=h
 ⟨K,Nat.le_trans h1 hm,fun u hu=>h2 u (hq u hu)⟩
theorem Cov.none {p:List SItem→Prop} (h:∀u,¬ p u) (n:Nat):Cov n p:=⟨[],Nat.zero_le _,fun u hu=>(h u hu).elim⟩
theorem Cov.one {p:List SItem→Prop} (x:List SItem) (h:∀u,p u→u=x):Cov 1 p:=⟨[x],by simp,fun u hu=>by rw [h u hu];simp⟩
theorem Cov.or {m n:Nat} {p q r:List SItem→Prop} (h:Cov m p) (k:Cov n q) (e:∀u,r u→p u∨q u):Cov (m+n) r:=
 let ⟨K,h1,h2⟩:=h
 let ⟨J,k1,k2⟩:=k
 ⟨K++J,by rw [List.length_append];omega,fun u hu=>by rw [List.mem_append];exact (e u hu).imp (h2 u) (k2 u)⟩
theorem Cov.map {m:Nat} {p r:List SItem→Prop} (f:List SItem→List SItem) (h:Cov m p) (e:∀u,r u→∃t,p t∧u=f t):Cov m r:=
 let ⟨K,h1,h2⟩:=h
 ⟨K.map f,by simpa using h1,fun u hu=>by obtain ⟨t,a,rfl⟩:=e u hu;exact List.mem_map.2 ⟨t,h2 t a,rfl⟩⟩
def sumN (f:Nat→Nat):Nat→Nat
 | 0=>0
 | k+1=>sumN f k+f k
theorem Cov.sum {f:Nat→Nat} {p:Nat→List SItem→Prop}:∀(k:Nat),(∀j,j<k→Cov (f j) (p j))→Cov (sumN f k) (fun u=>∃j,j<k∧p j u)
 | 0,_=>Cov.none (fun u ⟨j,h,_⟩=>by omega) _
 | k+1,h=>(Cov.sum k fun j hj=>h j (by omega)).or (h k (by omega)) fun u ⟨j,hj,hp⟩=>by
  by_cases e:j=k
  ·subst e;exact .inr hp
  ·exact .inl ⟨j,by omega,hp⟩
def pasR (f:Nat→Nat):Nat→Nat
 | 0=>1
 | k+1=>f (k+1)+pasR f k
def pas:Nat→Nat→Nat
 | 0=>fun _=>1
 | m+1=>pasR (pas m)
theorem zjp (m:Nat):pas m 0=1:=by cases m <;> rfl
theorem zly:∀m k:Nat,1≤pas m k
 | 0,_=>Nat.le_refl _
 | m+1,0=>by rw [zjp];exact Nat.le_refl _
 | m+1,k+1=>by
  have:=zly m (k+1);show 1≤pas m (k+1)+pas (m+1) k;omega
theorem pas_up (m k:Nat):pas m k≤pas (m+1) k:=by
 cases k with
 | zero=>rw [zjp,zjp];exact Nat.le_refl _
 | succ k=>exact Nat.le_add_right _ _
theorem pas_mono {m m':Nat} (h:m≤m') (k:Nat):pas m k≤pas m' k:=by
 induction h with
 | refl=>exact Nat.le_refl _
 | step _ ih=>exact Nat.le_trans ih (pas_up _ k)
theorem pas_more (m k:Nat):pas m k≤pas m (k+1):=by
 cases m with
 | zero=>exact Nat.le_refl _
 | succ m=>exact Nat.le_add_left _ _
theorem pas_long (m:Nat) {k k':Nat} (h:k≤k'):pas m k≤pas m k':=by
 induction h with
 | refl=>exact Nat.le_refl _
 | step _ ih=>exact Nat.le_trans ih (pas_more m _)
theorem zrl (k:Nat):∀m,sumN (fun i=>pas i k) (m+1)=pas m (k+1)
 | 0=>rfl
 | m+1=>by
  show sumN (fun i=>pas i k) (m+1)+pas (m+1) k=_;rw [zrl k m];rfl
theorem sumN_two {g:Nat→Nat} (h:∀i j,i≤j→g i≤g j) (x:Nat):∀y,sumN g x+sumN g y≤sumN g (x+y)
 | 0=>Nat.le_refl _
 | y+1=>by
  have:=sumN_two h x y;have:=h y (x+y) (by omega);show sumN g x+(sumN g y+g y)≤sumN g (x+y)+g (x+y);omega
theorem pas_two (a b k:Nat):pas a (k+1)+pas b (k+1)≤pas (a+b+1) (k+1):=by
 have:=sumN_two (g:=fun i=>pas i k) (fun i j h=>pas_mono h k) (a+1) (b+1);rw [zrl,zrl,show a+1+(b+1)=(a+b+1)+1 by omega,zrl] at this;exact this
theorem zrm (a k:Nat):∀m,m≤k→sumN (fun t=>pas a (k-t)) m+pas (a+1) (k-m)≤pas (a+1) k
 | 0,_=>by rw [Nat.sub_zero];show 0+_≤_;omega
 | m+1,h=>by
  have ih:=zrm a k m (by omega);have e:pas (a+1) (k-m)=pas a (k-m)+pas (a+1) (k-(m+1)):=by
   rw [show k-m=(k-(m+1))+1 by omega];rfl
  show sumN (fun t=>pas a (k-t)) m+pas a (k-m)+_≤_;omega
def fac:Nat→Nat
 | 0=>1
 | n+1=>(n+1)*fac n
theorem fac_pos:∀n,1≤fac n
 | 0=>Nat.le_refl _
 | n+1=>Nat.le_trans (fac_pos n) (Nat.le_mul_of_pos_left _ (by omega))
theorem pas_fac:∀m k:Nat,pas m k*(fac m*fac k)=fac (m+k)
 | 0,k=>by simp [pas,fac]
 | m+1,0=>by rw [zjp];simp [fac]
 | m+1,k+1=>by
  have h1:=pas_fac m (k+1);have h2:=pas_fac (m+1) k;have e1:pas m (k+1)*(fac (m+1)*fac (k+1))=(m+1)*fac (m+(k+1)):=by
   rw [← h1];show pas m (k+1)*((m+1)*fac m*fac (k+1))=_;rw [Nat.mul_assoc (m+1),Nat.mul_left_comm]
  have e2:pas (m+1) k*(fac (m+1)*fac (k+1))=(k+1)*fac (m+1+k):=by
   rw [← h2];show pas (m+1) k*(fac (m+1)*((k+1)*fac k))=_;rw [Nat.mul_left_comm (fac (m+1)),Nat.mul_left_comm]
  show (pas m (k+1)+pas (m+1) k)*_=fac (m+1+(k+1));rw [Nat.add_mul,e1,e2,show m+1+(k+1)=(m+k+1)+1 by omega,show m+(k+1)=m+k+1 by omega,show m+1+k=m+k+1 by omega];show _=(m+k+1+1)*fac (m+k+1);rw [← Nat.add_mul]
  congr 1
  omega
theorem pas_le {m k N:Nat} (h:fac (m+k)≤N*(fac m*fac k)):pas m k≤N:=by
 rw [← pas_fac] at h;exact Nat.le_of_mul_le_mul_right h (Nat.mul_pos (fac_pos m) (fac_pos k))
def Rch (d:List SNode) (s:List SItem) (w:List Int) (u:List SItem):Prop:=∃a v,a++v=w∧v≠[]∧u∈zcx d v s
theorem Rch.none {d:List SNode} {s u:List SItem}:¬ Rch d s [] u:=fun ⟨a,v,h,hv,_⟩=>hv (List.append_eq_nil_iff.1 h).2
theorem zl9 (t:List SItem):∀L:List (List SItem),zb7 (fun u=>if u=t then 1 else 0) L≠0↔t∈L
 | []=>by simp [zb7]
 | u::L=>by
  have ih:=zl9 t L;have e:zb7 (fun u=>if u=t then 1 else 0) (u::L)=(if u=t then 1 else 0)+zb7 (fun u=>if u=t then 1 else 0) L:=by simp [zb7]
  rw [e,List.mem_cons]
  by_cases hu:u=t
  ·subst hu;simp
  ·rw [if_neg hu,Nat.zero_add,ih];constructor
   ·exact .inr
   ·rintro (e | e)
    ·exact absurd e.symm hu
    ·exact e
theorem mem_sum {A B:List (List SItem)} (h:∀F,zb7 F A=zb7 F B) (t:List SItem):t∈A↔t∈B:=by rw [← zl9,← zl9 t B,h]
theorem mem_sum2 {A B C:List (List SItem)} (h:∀F,zb7 F A=zb7 F B+zb7 F C) (t:List SItem):t∈A↔t∈B∨t∈C:=by rw [← zl9,← zl9 t B,← zl9 t C,h];omega
theorem ends_or {d:List SNode} {s s1 s2 u:List SItem} {v:List Int} (h:∀t,t≠[]→t∈hds d s→t∈hds d s1∨t∈hds d s2) (hv:v≠[]) (hu:u∈zcx d v s):u∈zcx d v s1∨u∈zcx d v s2:=by
 cases v with
 | nil=>exact absurd rfl hv
 | cons c w=>
  obtain ⟨x,h1,h2⟩:=List.mem_flatMap.1 hu;obtain ⟨t,k1,k2,k3⟩:=zdo.1 h1;have hne:t≠[]:=fun e=>by subst e;simp [zx] at k2
  rcases h t hne k1 with k | k
  ·exact .inl (List.mem_flatMap.2 ⟨x,zdo.2 ⟨t,k,k2,k3⟩,h2⟩)
  ·exact .inr (List.mem_flatMap.2 ⟨x,zdo.2 ⟨t,k,k2,k3⟩,h2⟩)
theorem zhz {d:List SNode} {s s1 u:List SItem} {v:List Int} (h:∀t,t≠[]→t∈hds d s→t∈hds d s1) (hv:v≠[]) (hu:u∈zcx d v s):u∈zcx d v s1:=
 (ends_or (s1:=s1) (s2:=s1) (fun t h1 h2=>.inl (h t h1 h2)) hv hu).elim id id
theorem zk8 {d:List SNode} (hd:ROk d):∀(w:List Int) (s r u:List SItem),u∈zcx d w (s++r)→(∃u' r',u'∈zcx d w s∧zo3 w.length r=some r'∧u=u'++r')∨∃a b r',w=a++b∧b≠[]∧(a=[]→[]∈hds d s)∧zo3 a.length r=some r'∧u∈zcx d b r'
 | [],s,r,u,h=>by
  rw [zcx,List.mem_singleton] at h;exact .inl ⟨s,r,by rw [zcx];exact List.mem_singleton.2 rfl,rfl,h⟩
 | c::w,s,r,u,h=>by
  obtain ⟨t,h1,h2⟩:=List.mem_flatMap.1 h;rcases step_app hd h1 with ⟨t',k1,k2,rfl⟩ | ⟨k1,k2⟩
  ·have el:∀p,zo3 (p+1) r=zo3 p (zds r).1:=fun p=>by
    show (if (zds r).2=true then zo3 p (zds r).1 else none)=_;rw [if_pos k2]
   rcases zk8 hd w t' (zds r).1 u h2 with ⟨u',r',j1,j2,j3⟩ | ⟨a,b,r',j1,j2,_,j3,j4⟩
   ·exact .inl ⟨u',r',List.mem_flatMap.2 ⟨t',k1,j1⟩,by rw [List.length_cons,el];exact j2,j3⟩
   ·exact .inr ⟨c::a,b,r',by rw [j1];rfl,j2,(fun h=>by cases h),by rw [List.length_cons,el];exact j3,j4⟩
  ·exact .inr ⟨[],c::w,r,rfl,by simp,fun _=>k1,rfl,List.mem_flatMap.2 ⟨t,k2,h2⟩⟩
theorem zqa {x:SItem} (h:x.1≠5):NoEnd [x]:=fun y hy=>by rw [List.mem_singleton.1 hy];exact h
theorem pm_ne {d:List SNode} (hd:ROk d) (i:Int):[] ∉ pm d i:=fun h=>pmI_ne hd (1,i,0,0) [] (show []∈pmI d (1,i,0,0) from h) rfl
theorem no_nil {d:List SNode} (hd:ROk d) {i:Int} (h:nw d i=0):[] ∉ hds d [(1,i,0,0)]:=by
 rw [zmf,h];simpa using pm_ne hd i
theorem ends_stop {d:List SNode} {m:Int} {b:List Int} {u:List SItem} (hb:b≠[]):u ∉ zcx d b [(5,0,m,0)]:=by
 cases b with
 | nil=>exact absurd rfl hb
 | cons c w=>
  intro h;obtain ⟨t,h1,h2⟩:=List.mem_flatMap.1 h;obtain ⟨t,k1,k2,k3⟩:=zdo.1 h1;have e1:pmI d (5,0,m,0)=[]:=by simp [pmI]
  have e3:hds d [(5,0,m,0)]=(pmI d (5,0,m,0)).map (·++[])++(List.replicate (nwI d (5,0,m,0)) [[]]).flatten:=rfl;rw [e3,e1] at k1;have:t=[]:=by
   simp at k1;exact k1.2
  subst this;simp [zx] at k2
section
variable {d : List SNode} (hd : ROk d) {i : Int} {n : SNode} (hn : at? d i = some n) {w : List Int} {u : List SItem}
include hd hn
theorem sum_seq (h:n.1=4) (F:List SItem→Nat):zb7 F (hds d [(1,i,0,0)])=zb7 F (hds d ([(1,n.2.1,0,0)]++[(1,n.2.2.1,0,0)])):=by
 have e:=zj3 hd hn;rw [if_neg (by omega),if_neg (by omega),if_pos h] at e;have e1:pm d i=(pm d n.2.1).map (·++[(1,n.2.2.1,0,0)])++(List.replicate (nw d n.2.1) (pm d n.2.2.1)).flatten:=by
  have:pm d i=(PM d d.length i).1:=rfl;rw [this,e]
 have e2:nw d i=nw d n.2.1*nw d n.2.2.1:=by
  have:nw d i=(PM d d.length i).2:=rfl;rw [this,e]
 rw [zdh,List.singleton_append,zho,zdh,e1,e2,ze1,zeo,zgy,Nat.mul_add,Nat.mul_assoc,Nat.add_assoc]
theorem sum_or (h:n.1=5) (F:List SItem→Nat):zb7 F (hds d [(1,i,0,0)])=zb7 F (hds d [(1,n.2.1,0,0)])+zb7 F (hds d [(1,n.2.2.1,0,0)]):=by
 have e:=zj3 hd hn;rw [if_neg (by omega),if_neg (by omega),if_neg (by omega),if_pos h] at e;have e1:pm d i=pm d n.2.1++pm d n.2.2.1:=by
  have:pm d i=(PM d d.length i).1:=rfl;rw [this,e]
 have e2:nw d i=nw d n.2.1+nw d n.2.2.1:=by
  have:nw d i=(PM d d.length i).2:=rfl;rw [this,e]
 rw [zdh,zdh,zdh,e1,e2,ze1,Nat.add_mul];omega
theorem sum_star (h:n.1=6) (F:List SItem→Nat):zb7 F (hds d [(1,i,0,0)])=zb7 F (hds d [])+zb7 F (hds d ([(1,n.2.1,0,0)]++[(1,i,0,0)])):=by
 have e:=zj3 hd hn;rw [if_neg (by omega),if_neg (by omega),if_neg (by omega),if_neg (by omega),if_pos h] at e;have e1:pm d i=(pm d n.2.1).map (·++[(1,i,0,0)]):=by
  have:pm d i=(PM d d.length i).1:=rfl;rw [this,e]
 have e2:nw d i=1:=by
  have:nw d i=(PM d d.length i).2:=rfl;rw [this,e]
 have z:=zke hd hn (.inl h);rw [zdh,List.singleton_append,zho,e1,e2,z,zeo];simp [hds,zb7];omega
def zi5 (i:Int) (n:SNode) (t:Nat):SItem:=(2,i,max (n.2.2.2.1-t) 0,n.2.2.2.2.1-t)
omit hd hn in
theorem itemT_next (i:Int) (n:SNode) (t:Nat):((2,i,max (max (n.2.2.2.1-(t:Int)) 0-1) 0,n.2.2.2.2.1-(t:Int)-1):SItem)=zi5 i n (t+1):=by
 unfold zi5
 simp only [Prod.mk.injEq,true_and]
 omega
theorem sum_item (h:n.1=7) (lo hi:Int) (F:List SItem→Nat):zb7 F (hds d [(2,i,lo,hi)])=(if lo=0 then F [] else 0)+if 0<hi then zb7 F (hds d ([(1,n.2.1,0,0)]++[(2,i,max (lo-1) 0,hi-1)])) else 0:=by
 have z:=zke hd hn (.inr h);have e1:pmI d (2,i,lo,hi)=if 0<hi then (pm d n.2.1).map (·++[(2,i,max (lo-1) 0,hi-1)]) else []:=by
  unfold pmI;simp [hn]
 have e2:nwI d (2,i,lo,hi)=if lo=0 then 1 else 0:=by simp [nwI]
 simp only [List.singleton_append];rw [zho,z];have e3:hds d [(2,i,lo,hi)]=(pmI d (2,i,lo,hi)).map (·++[])++(List.replicate (nwI d (2,i,lo,hi)) [[]]).flatten:=rfl;rw [e3,ze1,zgy,e1,e2,zeo]
 by_cases h0:lo=0
 ·by_cases h1:0<hi
  ·simp only [if_pos h0,if_pos h1,List.append_nil];rw [zeo];simp [zb7];omega
  ·simp only [if_pos h0,if_neg h1];simp [zb7]
 ·by_cases h1:0<hi
  ·simp only [if_neg h0,if_pos h1,List.append_nil];rw [zeo];simp [zb7]
  ·simp only [if_neg h0,if_neg h1];simp [zb7]
theorem sum_rep (h:n.1=7) (F:List SItem→Nat):zb7 F (hds d [(1,i,0,0)])=zb7 F (hds d [(2,i,n.2.2.2.1,n.2.2.2.2.1)]):=by
 have e:=zj3 hd hn;rw [if_neg (by omega),if_neg (by omega),if_neg (by omega),if_neg (by omega),if_neg (by omega),if_pos h] at e;have e1:pm d i=if 0<n.2.2.2.2.1 then (pm d n.2.1).map (·++[(2,i,max (n.2.2.2.1-1) 0,n.2.2.2.2.1-1)]) else []:=by
  have:pm d i=(PM d d.length i).1:=rfl;rw [this,e]
 have e2:nw d i=if n.2.2.2.1=0 then 1 else 0:=by
  have:nw d i=(PM d d.length i).2:=rfl;rw [this,e]
 have e3:pmI d (2,i,n.2.2.2.1,n.2.2.2.2.1)=pm d i:=by rw [e1];unfold pmI;simp [hn]
 have e4:nwI d (2,i,n.2.2.2.1,n.2.2.2.2.1)=nw d i:=by rw [e2];simp [nwI]
 have e5:hds d [(2,i,n.2.2.2.1,n.2.2.2.2.1)]=(pmI d (2,i,n.2.2.2.1,n.2.2.2.2.1)).map (·++[])++(List.replicate (nwI d (2,i,n.2.2.2.1,n.2.2.2.2.1)) [[]]).flatten:=rfl;rw [e5,e3,e4];rfl
theorem rch_seq (h:n.1=4) (hr:Rch d [(1,i,0,0)] w u):(∃t,Rch d [(1,n.2.1,0,0)] w t∧u=t++[(1,n.2.2.1,0,0)])∨Rch d [(1,n.2.2.1,0,0)] w u:=by
 obtain ⟨a,v,e,hv,hu⟩:=hr;have hu':u∈zcx d v ([(1,n.2.1,0,0)]++[(1,n.2.2.1,0,0)]):=zhz (fun t _ ht=>(mem_sum (sum_seq hd hn h) t).1 ht) hv hu;rcases zk8 hd _ _ _ _ hu' with ⟨u',r',h1,h2,h3⟩ | ⟨x,b,r',h1,h2,_,h3,h4⟩
 ·rw [ze8 (zqa (by simp))] at h2;cases h2;exact .inl ⟨u',⟨a,v,e,hv,h1⟩,h3⟩
 ·rw [ze8 (zqa (by simp))] at h3;cases h3;exact .inr ⟨a++x,b,by rw [List.append_assoc,← h1,e],h2,h4⟩
theorem rch_or (h:n.1=5) (hr:Rch d [(1,i,0,0)] w u):Rch d [(1,n.2.1,0,0)] w u∨Rch d [(1,n.2.2.1,0,0)] w u:=by
 obtain ⟨a,v,e,hv,hu⟩:=hr;exact (ends_or (fun t _ ht=>(mem_sum2 (sum_or hd hn h) t).1 ht) hv hu).imp (fun k=>⟨a,v,e,hv,k⟩) fun k=>⟨a,v,e,hv,k⟩
theorem zrh (h:n.1=6) (hr:Rch d [(1,i,0,0)] w u):∃t,Rch d [(1,n.2.1,0,0)] w t∧u=t++[(1,i,0,0)]:=by
 obtain ⟨a,v,e,hv,hu⟩:=hr;obtain ⟨k,hk⟩:∃k,v.length≤k:=⟨_,Nat.le_refl _⟩
 induction k generalizing a v with
 | zero=>exact absurd (List.length_eq_zero_iff.1 (by omega)) hv
 | succ k ih=>
  have hu':u∈zcx d v ([(1,n.2.1,0,0)]++[(1,i,0,0)]):=zhz (fun t ht h1=>((mem_sum2 (sum_star hd hn h) t).1 h1).resolve_left fun h2=>ht (by simpa [hds] using h2)) hv hu;rcases zk8 hd _ _ _ _ hu' with ⟨u',r',h1,h2,h3⟩ | ⟨x,b,r',h1,h2,h5,h3,h4⟩
  ·rw [ze8 (zqa (by simp))] at h2;cases h2;exact ⟨u',⟨a,v,e,hv,h1⟩,h3⟩
  ·rw [ze8 (zqa (by simp))] at h3;cases h3;have hx:x≠[]:=fun ex=>no_nil hd (zke hd hn (.inl h)) (h5 ex);have:=List.length_pos_iff.2 hx;have:=congrArg List.length h1;rw [List.length_append] at this;exact ih (a++x) b (by rw [List.append_assoc,← h1,e]) h2 h4 (by omega)
theorem ends_item (h:n.1=7):∀(k:Nat) (v:List Int) (t:Nat) (u:List SItem),v.length≤k→v≠[]→u∈zcx d v [zi5 i n t]→∃(t':Nat) (x b:List Int) (u':List SItem),v=x++b∧b≠[]∧t'≤x.length∧(t:Int)+t' < n.2.2.2.2.1∧u'∈zcx d b [(1,n.2.1,0,0)]∧u=u'++[zi5 i n (t+t'+1)]
 | 0,v,t,u,hk,hv,hu=>absurd (List.length_eq_zero_iff.1 (by omega)) hv
 | k+1,v,t,u,hk,hv,hu=>by
  have hs:=sum_item hd hn h (max (n.2.2.2.1-(t:Int)) 0) (n.2.2.2.2.1-(t:Int))
  by_cases hi:0<n.2.2.2.2.1-(t:Int)
  ·have hu':u∈zcx d v ([(1,n.2.1,0,0)]++[zi5 i n (t+1)]):=by
    refine zhz (fun z hz h1=>?_) hv hu;rw [← zl9] at h1 ⊢;have e1:hds d [zi5 i n t]=hds d [(2,i,max (n.2.2.2.1-(t:Int)) 0,n.2.2.2.2.1-(t:Int))]:=rfl;rw [e1,hs,if_pos hi,itemT_next] at h1;have e0:(if ([]:List SItem)=z then 1 else 0)=0:=if_neg fun e=>hz e.symm;rw [e0] at h1;have e00:(if max (n.2.2.2.1-(t:Int)) 0=0 then 0 else 0)=0:=by split <;> rfl
    rw [e00,Nat.zero_add] at h1;exact h1
   rcases zk8 hd _ _ _ _ hu' with ⟨u',r',h1,h2,h3⟩ | ⟨x,b,r',h1,h2,h5,h3,h4⟩
   ·rw [ze8 (zqa (by simp [zi5]))] at h2;cases h2;exact ⟨0,[],v,u',rfl,hv,Nat.le_refl _,by omega,h1,h3⟩
   ·rw [ze8 (zqa (by simp [zi5]))] at h3;cases h3;have hx:x≠[]:=fun ex=>no_nil hd (zke hd hn (.inr h)) (h5 ex);have hx0:=List.length_pos_iff.2 hx;have hl:=congrArg List.length h1;rw [List.length_append] at hl;obtain ⟨t',y,c,u',j1,j2,j3,j4,j5,j6⟩:=ends_item h k b (t+1) u (by omega) h2 h4;refine ⟨t'+1,x++y,c,u',by rw [h1,j1,List.append_assoc],j2,by rw [List.length_append];omega,by omega,j5, ?_⟩;rw [j6,show t+1+t'+1=t+(t'+1)+1 by omega]
  ·exfalso;have:u∈zcx d v []:=by
    refine zhz (fun z hz h1=>?_) hv hu;rw [← zl9] at h1;have e1:hds d [zi5 i n t]=hds d [(2,i,max (n.2.2.2.1-(t:Int)) 0,n.2.2.2.2.1-(t:Int))]:=rfl;rw [e1,hs,if_neg hi] at h1;have e0:(if ([]:List SItem)=z then 1 else 0)=0:=if_neg fun e=>hz e.symm;rw [e0] at h1;have e00:(if max (n.2.2.2.1-(t:Int)) 0=0 then 0 else 0)=0:=by split <;> rfl
    rw [e00] at h1;exact absurd rfl h1
   cases v with
   | nil=>exact hv rfl
   | cons c v=>
    obtain ⟨x,h1,h2⟩:=List.mem_flatMap.1 this;obtain ⟨z,k1,k2,k3⟩:=zdo.1 h1;have:z=[]:=by simpa [hds] using k1
    subst this;simp [zx] at k2
theorem zri (h:n.1=7) (hr:Rch d [(1,i,0,0)] w u):∃t:Nat,t<w.length∧(t:Int)<n.2.2.2.2.1∧∃u',Rch d [(1,n.2.1,0,0)] (w.drop t) u'∧u=u'++[zi5 i n (t+1)]:=by
 obtain ⟨a,v,e,hv,hu⟩:=hr;have hb:=hd.rep _ n hn h;have hu':u∈zcx d v [zi5 i n 0]:=by
  refine zhz (fun t _ ht=>?_) hv hu;have h1:=(mem_sum (sum_rep hd hn h) t).1 ht;have:zi5 i n 0=(2,i,n.2.2.2.1,n.2.2.2.2.1):=by
   unfold zi5;simp only [Prod.mk.injEq,true_and];omega
  rw [this];exact h1
 obtain ⟨t,x,b,u',h1,h2,h3,h4,h5,h6⟩:=ends_item hd hn h v.length v 0 u (Nat.le_refl _) hv hu';have hb0:=List.length_pos_iff.2 h2;have e1:w=(a++x)++b:=by rw [List.append_assoc,← h1,e]
 have hl:w.length=(a++x).length+b.length:=by rw [e1,List.length_append]
 have hal:x.length≤(a++x).length:=by rw [List.length_append];omega
 refine ⟨t,by omega,by omega,u',⟨(a++x).drop t,b, ?_,h2,h5⟩,by rw [h6,Nat.zero_add]⟩;rw [e1];exact (List.drop_append_of_le_length (l₁:=a++x) (by omega)).symm
omit hn in
theorem ends_held {A c:Int} (hc:0≤c) (hw:w≠[]) (hu:u∈zcx d w [(1,A,0,0),(5,0,c,0)]):∃u',u'∈zcx d w [(1,A,0,0)]∧u=u'++[(5,0,c-w.length,0)]:=by
 have e:([(1,A,0,0),(5,0,c,0)]:List SItem)=[(1,A,0,0)]++[(5,0,c,0)]:=rfl
 rw [e] at hu
 rcases zk8 hd _ _ _ _ hu with ⟨u',r',h1,h2,h3⟩ | ⟨x,b,r',h1,h2,h5,h3,h4⟩
 ·rw [zm3 c hc] at h2
  split at h2
  ·cases h2
   exact ⟨u',h1,h3⟩
  ·cases h2
 ·rw [zm3 c hc] at h3
  split at h3
  ·cases h3
   exact absurd h4 (ends_stop h2)
  ·cases h3
omit hd hn in
theorem znj {a:List Int} {c:Int} {v:List Int} (e:a++c::v=w):w.drop (a.length+1)=v∧w.getD a.length 0=c∧w.length=a.length+1+v.length:=by
 subst e
 refine ⟨?_,by simp,by simp;omega⟩
 rw [show a.length+1=(a++[c]).length by simp,show a++c::v=(a++[c])++v by simp,List.drop_left]
theorem rch_frame (h:n.1=8) (hw:∀c∈w,0≤c) (hr:Rch d [(1,i,0,0)] w u):u=[(1,n.2.1,0,0),(5,0,w.getD (w.length-1) 0,0)]∨∃p:Nat,p<w.length-1∧∃u',Rch d [(1,n.2.1,0,0)] (w.drop (p+1)) u'∧u=u'++[(5,0,w.getD p 0-((w.length-(p+1):Nat):Int),0)]:=by
 obtain ⟨a,v,e,hv,hu⟩:=hr;cases v with
 | nil=>exact absurd rfl hv
 | cons c v=>
  obtain ⟨x,h1,h2⟩:=List.mem_flatMap.1 hu;obtain ⟨z,k1,k2,k3⟩:=zdo.1 h1;obtain ⟨e1,e2⟩:=zm0 hd hn (.inr (.inl h));have e3:hds d [(1,i,0,0)]=[[(1,i,0,0)]]:=by rw [zmf,e1,e2];rfl
  rw [e3,List.mem_singleton] at k1;subst k1;have er:zx d [(1,i,0,0)] c=([(1,n.2.1,0,0),(5,0,c,0)],true):=by
   unfold zx;simp only [hn];rw [if_neg (by simp [zds]),if_neg (by decide),if_neg (by decide),if_pos h];rfl
  rw [er] at k3;simp only at k3;subst k3;obtain ⟨f1,f2,f3⟩:=znj e;have hc:0≤c:=hw c (by rw [← e];simp);cases v with
  | nil=>
   left;rw [zcx,List.mem_singleton] at h2;have:w.length-1=a.length:=by rw [f3];simp
   rw [h2,this,f2]
  | cons b v=>
   right;obtain ⟨u',j1,j2⟩:=ends_held hd hc (by simp) h2;refine ⟨a.length,by rw [f3];simp only [List.length_cons];omega,u',⟨[],b::v,by rw [f1];rfl,by simp,j1⟩, ?_⟩;rw [j2,f2]
   congr 5
   rw [f3];omega
theorem zrf (h:n.1=9) (hw:∀c∈w,0≤c) (hr:Rch d [(1,i,0,0)] w u):u=[(4,i,w.getD (w.length-1) 0,0)]∨u=[(1,n.2.1,0,0),(5,0,256*w.getD (w.length-2) 0+w.getD (w.length-1) 0,0)]∧2≤w.length ∨
  ∃p:Nat,p<w.length-2∧∃u',Rch d [(1,n.2.1,0,0)] (w.drop (p+2)) u'∧u=u'++[(5,0,256*w.getD p 0+w.getD (p+1) 0-((w.length-(p+2):Nat):Int),0)]:=by
 obtain ⟨a,v,e,hv,hu⟩:=hr;cases v with
 | nil=>exact absurd rfl hv
 | cons c v=>
  obtain ⟨x,h1,h2⟩:=List.mem_flatMap.1 hu;obtain ⟨z,k1,k2,k3⟩:=zdo.1 h1;obtain ⟨e1,e2⟩:=zm0 hd hn (.inr (.inr h));have e3:hds d [(1,i,0,0)]=[[(1,i,0,0)]]:=by rw [zmf,e1,e2];rfl
  rw [e3,List.mem_singleton] at k1;subst k1;have er:zx d [(1,i,0,0)] c=([(4,i,c,0)],true):=by
   unfold zx;simp only [hn];rw [if_neg (by simp [zds]),if_neg (by decide),if_neg (by decide),if_neg (by omega),if_pos h];rfl
  rw [er] at k3;simp only at k3;subst k3;obtain ⟨f1,f2,f3⟩:=znj e;have hc:0≤c:=hw c (by rw [← e];simp);cases v with
  | nil=>
   left;rw [zcx,List.mem_singleton] at h2;have:w.length-1=a.length:=by rw [f3];simp
   rw [h2,this,f2]
  | cons b v=>
   right;have hb:0≤b:=hw b (by rw [← e];simp);obtain ⟨x,h1,h2⟩:=List.mem_flatMap.1 h2;obtain ⟨z,k1,k2,k3⟩:=zdo.1 h1;have e4:hds d [(4,i,c,0)]=[[(4,i,c,0)]]:=by
    have e1:pmI d (4,i,c,0)=[[(4,i,c,0)]]:=by simp [pmI]
    have e2:nwI d (4,i,c,0)=0:=by simp [nwI]
    have e3:hds d [(4,i,c,0)]=(pmI d (4,i,c,0)).map (·++[])++(List.replicate (nwI d (4,i,c,0)) [[]]).flatten:=rfl;rw [e3,e1,e2];rfl
   rw [e4,List.mem_singleton] at k1;subst k1;have er:zx d [(4,i,c,0)] b=([(1,n.2.1,0,0),(5,0,256*c+b,0)],true):=by
    unfold zx;simp only [hn];rw [if_neg (by simp [zds]),if_neg (by decide),if_pos trivial];rfl
   rw [er] at k3;simp only at k3;subst k3;have e':(a++[c])++b::v=w:=by rw [← e];simp
   obtain ⟨g1,g2,g3⟩:=znj e';have hal:(a++[c]).length=a.length+1:=by simp
   rw [hal] at g1 g2 g3;cases v with
   | nil=>
    left;rw [zcx,List.mem_singleton] at h2;have t1:w.length-1=a.length+1:=by rw [g3];simp
    have t2:w.length-2=a.length:=by rw [g3];simp
    refine ⟨by rw [h2,t1,t2,f2,g2],by rw [g3];omega⟩
   | cons q v=>
    right;obtain ⟨u',j1,j2⟩:=ends_held hd (by omega) (by simp) h2;refine ⟨a.length,by rw [g3];simp only [List.length_cons];omega,u',⟨[],q::v,by rw [g1];rfl,by simp,j1⟩, ?_⟩;rw [j2,f2,g2]
    congr 5
    rw [g3];omega
theorem zn7 (h:n.1=2) (hr:Rch d [(1,i,0,0)] w u):u=[]:=by
 obtain ⟨a,v,e,hv,hu⟩:=hr;cases v with
 | nil=>exact absurd rfl hv
 | cons c v=>
  obtain ⟨x,h1,h2⟩:=List.mem_flatMap.1 hu;obtain ⟨z,k1,k2,k3⟩:=zdo.1 h1;obtain ⟨e1,e2⟩:=zm0 hd hn (.inl h);have e3:hds d [(1,i,0,0)]=[[(1,i,0,0)]]:=by rw [zmf,e1,e2];rfl
  rw [e3,List.mem_singleton] at k1;subst k1;have er:zx d [(1,i,0,0)] c=if n.2.2.2.2.2.1.has c.toNat=true then ([],true) else ([],false):=by
   unfold zx;simp only [hn];rw [if_neg (by simp [zds]),if_neg (by decide),if_neg (by decide),if_neg (by omega),if_neg (by omega)];rfl
  have ex:x=[]:=by rw [← k3,er];split <;> rfl
  subst ex;cases v with
  | nil=>rwa [zcx,List.mem_singleton] at h2
  | cons b v=>
   obtain ⟨x,h1,h2⟩:=List.mem_flatMap.1 h2;obtain ⟨z,k1,k2,k3⟩:=zdo.1 h1;have:z=[]:=by simpa [hds] using k1
   subst this;simp [zx] at k2
theorem zn6 (h:n.1=1):¬ Rch d [(1,i,0,0)] w u:=by
 rintro ⟨a,v,e,hv,hu⟩;cases v with
 | nil=>exact absurd rfl hv
 | cons c v=>
  obtain ⟨x,h1,h2⟩:=List.mem_flatMap.1 hu;obtain ⟨z,k1,k2,k3⟩:=zdo.1 h1;have e:=zj3 hd hn;rw [if_pos h] at e;have e1:pm d i=[]:=by unfold pm;rw [e]
  rw [zmf,e1] at k1;have:z=[]:=by simp at k1;exact k1.2
  subst this;simp [zx] at k2
omit hd in
theorem ends_text:∀(v:List Int) (lo:Nat) (u:List SItem),u∈zcx d v [(3,i,(lo:Int),0)]→lo<n.2.2.2.2.2.2.length→lo+v.length≤n.2.2.2.2.2.2.length∧u=if lo+v.length<n.2.2.2.2.2.2.length then [(3,i,((lo+v.length:Nat):Int),0)] else []
 | [],lo,u,hu,hlo=>by
  rw [zcx,List.mem_singleton] at hu
  rw [List.length_nil,Nat.add_zero,if_pos hlo]
  exact ⟨by omega,hu⟩
 | c::v,lo,u,hu,hlo=>by
  obtain ⟨x,h1,h2⟩:=List.mem_flatMap.1 hu
  obtain ⟨z,k1,k2,k3⟩:=zdo.1 h1
  have e4:hds d [(3,i,(lo:Int),0)]=[[(3,i,(lo:Int),0)]]:=by
   have e1:pmI d (3,i,(lo:Int),0)=[[(3,i,(lo:Int),0)]]:=by simp [pmI]
   have e2:nwI d (3,i,(lo:Int),0)=0:=by simp [nwI]
   have e3:hds d [(3,i,(lo:Int),0)]=(pmI d (3,i,(lo:Int),0)).map (·++[])++(List.replicate (nwI d (3,i,(lo:Int),0)) [[]]).flatten:=rfl
   rw [e3,e1,e2];rfl
  rw [e4,List.mem_singleton] at k1
  subst k1
  have hr:zx d [(3,i,(lo:Int),0)] c=if zd2 n.2.2.2.2.2.2 (lo:Int)=some c then (if (lo:Int)+1<(n.2.2.2.2.2.2.length:Int) then [(3,i,(lo:Int)+1,0)] else [],true) else ([],false):=by
   unfold zx
   simp only [hn]
   rw [if_neg (by simp [zds]),if_pos trivial]
   split
   ·split <;> rfl
   ·rfl
  have hb:zd2 n.2.2.2.2.2.2 (lo:Int)=some c:=by
   rcases Classical.em (zd2 n.2.2.2.2.2.2 (lo:Int)=some c) with h | h
   ·exact h
   ·rw [hr,if_neg h] at k2;cases k2
  rw [hr,if_pos hb] at k3
  simp only at k3
  by_cases hl:lo+1<n.2.2.2.2.2.2.length
  ·rw [if_pos (by omega)] at k3
   have ex:x=[(3,i,((lo+1:Nat):Int),0)]:=by rw [← k3];congr 1
   rw [ex] at h2
   obtain ⟨j1,j2⟩:=ends_text v (lo+1) u h2 hl
   rw [List.length_cons,show lo+(v.length+1)=lo+1+v.length by omega]
   exact ⟨j1,j2⟩
  ·rw [if_neg (by omega)] at k3
   subst k3
   cases v with
   | nil=>
    rw [zcx,List.mem_singleton] at h2
    simp only [List.length_cons,List.length_nil]
    rw [if_neg (by omega)]
    exact ⟨by omega,h2⟩
   | cons b v=>
    exfalso
    obtain ⟨x,h1,h2⟩:=List.mem_flatMap.1 h2
    obtain ⟨z,k1,k2,k3⟩:=zdo.1 h1
    have:z=[]:=by simpa [hds] using k1
    subst this
    simp [zx] at k2
theorem zrg (h:n.1=3) (hr:Rch d [(1,i,0,0)] w u):∃k:Nat,k<w.length∧k<n.2.2.2.2.2.2.length∧u=if k+1<n.2.2.2.2.2.2.length then [(3,i,((k+1:Nat):Int),0)] else []:=by
 obtain ⟨a,v,e,hv,hu⟩:=hr;have hlo:0<n.2.2.2.2.2.2.length:=List.length_pos_iff.2 (hd.ntx _ n hn h);have e0:=zj3 hd hn;rw [if_neg (by omega),if_pos h] at e0;have e1:pm d i=[[(3,i,0,0)]]:=by
  have:pm d i=(PM d d.length i).1:=rfl;rw [this,e0]
 have e2:nw d i=0:=by
  have:nw d i=(PM d d.length i).2:=rfl;rw [this,e0]
 have hu':u∈zcx d v [(3,i,((0:Nat):Int),0)]:=by
  refine zhz (fun t _ ht=>?_) hv hu;rw [zmf,e1,e2] at ht;have e3:pmI d (3,i,((0:Nat):Int),0)=[[(3,i,0,0)]]:=by simp [pmI]
  have e4:nwI d (3,i,((0:Nat):Int),0)=0:=by simp [nwI]
  have e5:hds d [(3,i,((0:Nat):Int),0)]=(pmI d (3,i,((0:Nat):Int),0)).map (·++[])++(List.replicate (nwI d (3,i,((0:Nat):Int),0)) [[]]).flatten:=rfl;rw [e5,e3,e4];simpa using ht
 obtain ⟨h1,h2⟩:=ends_text hn v 0 u hu' hlo;have hv0:=List.length_pos_iff.2 hv;have hl:=congrArg List.length e;rw [List.length_append] at hl;refine ⟨v.length-1,by omega,by omega, ?_⟩;rw [h2,show 0+v.length=v.length-1+1 by omega]
end
theorem cov_pas {d:List SNode} (hd:ROk d) {f i:Int} (h:Tr d f i):∀w:List Int,(∀c∈w,0≤c)→Cov (pas (i-f+1).toNat w.length) (Rch d [(1,i,0,0)] w):=by
 induction h with
 | leaf he hk hx h0=>
  rename_i i e
  intro w hw;have em:(i-i+1).toNat=1:=by omega
  rw [em];rcases hk with k | k | k
  ·exact Cov.none (fun u=>zn6 hd he k) _
  ·exact (Cov.one [] fun u hu=>zn7 hd he k hu).weak (zly _ _) fun _ h=>h
  ·have:Cov (sumN (fun _=>1) w.length) (Rch d [(1,i,0,0)] w):=by
    refine (Cov.sum (p:=fun j u=>u=if j+1<e.2.2.2.2.2.2.length then [(3,i,((j+1:Nat):Int),0)] else []) w.length fun j hj=>Cov.one _ fun u hu=>hu).weak (Nat.le_refl _) fun u hu=>?_;obtain ⟨j,h1,_,h2⟩:=zrg hd he k hu;exact ⟨j,h1,h2⟩
   refine this.weak ?_ fun _ h=>h;have e1:∀k,sumN (fun _=>1) k=k:=fun k=>by
    induction k with
    | zero=>rfl
    | succ k ih=>show sumN (fun _=>1) k+1=_;rw [ih]
   have e2:∀k,pas 1 k=k+1:=fun k=>by
    induction k with
    | zero=>rfl
    | succ k ih=>show 1+pas 1 k=_;rw [ih];omega
   rw [e1,e2];omega
 | one he hk ha hb hr h ih=>
  rename_i f i e
  intro w hw;have hle:=h.le;cases w with
  | nil=>exact Cov.none (fun u=>Rch.none) _
  | cons c0 w0=>
   generalize hwe:c0::w0=w at hw ⊢;have hl:1≤w.length:=by rw [← hwe];simp
   obtain ⟨m,hm⟩:∃m:Nat,(i-1-f+1).toNat=m:=⟨_,rfl⟩;have em:(i-f+1).toNat=m+1:=by omega
   rw [hm] at ih;rw [em];have hdr:∀p,∀c∈w.drop p,0≤c:=fun p c hc=>hw c (List.mem_of_mem_drop hc);rcases hk with k | k | k | k
   ·refine ((ih w hw).map (·++[(1,i,0,0)]) fun u hu=>?_).weak (pas_up _ _) fun _ h=>h;have:=zrh hd he k hu;rw [ha] at this;exact this
   ·have:=Cov.sum (f:=fun t=>pas m (w.length-t)) (p:=fun t u=>∃u',Rch d [(1,i-1,0,0)] (w.drop t) u'∧u=u'++[zi5 i e (t+1)]) w.length fun t ht=>by
     have h1:=ih (w.drop t) (hdr t);rw [List.length_drop] at h1;exact h1.map (·++[zi5 i e (t+1)]) fun u hu=>hu
    refine this.weak ?_ fun u hu=>?_
    ·have:=zrm m w.length w.length (Nat.le_refl _);omega
    ·obtain ⟨t,h1,_,h2⟩:=zri hd he k hu;rw [ha] at h2;exact ⟨t,h1,h2⟩
   ·have:=Cov.sum (f:=fun p=>pas m (w.length-1-p)) (p:=fun p u=>∃u',Rch d [(1,i-1,0,0)] (w.drop (p+1)) u'∧u=u'++[(5,0,w.getD p 0-((w.length-(p+1):Nat):Int),0)]) (w.length-1) fun p hp=>by
     have h1:=ih (w.drop (p+1)) (hdr _);rw [List.length_drop,show w.length-(p+1)=w.length-1-p by omega] at h1;exact h1.map (·++[(5,0,w.getD p 0-((w.length-(p+1):Nat):Int),0)]) fun u hu=>hu
    refine ((Cov.one [(1,i-1,0,0),(5,0,w.getD (w.length-1) 0,0)] (p:=fun u=>u=[(1,i-1,0,0),(5,0,w.getD (w.length-1) 0,0)]) fun u hu=>hu).or this fun u hu=>?_).weak ?_ fun _ h=>h
    ·have:=rch_frame hd he k hw hu;rw [ha] at this;exact this
    ·have h1:=zrm m (w.length-1) (w.length-1) (Nat.le_refl _);rw [Nat.sub_self,zjp] at h1;have h2:=pas_long (m+1) (Nat.sub_le w.length 1);omega
   ·have:=Cov.sum (f:=fun p=>pas m (w.length-2-p)) (p:=fun p u=>∃u',Rch d [(1,i-1,0,0)] (w.drop (p+2)) u'∧u=u'++[(5,0,256*w.getD p 0+w.getD (p+1) 0-((w.length-(p+2):Nat):Int),0)]) (w.length-2) fun p hp=>by
     have h1:=ih (w.drop (p+2)) (hdr _);rw [List.length_drop,show w.length-(p+2)=w.length-2-p by omega] at h1;exact h1.map (·++[(5,0,256*w.getD p 0+w.getD (p+1) 0-((w.length-(p+2):Nat):Int),0)]) fun u hu=>hu
    by_cases h2:2≤w.length
    ·have c1:=(Cov.one [(4,i,w.getD (w.length-1) 0,0)] (p:=fun u=>u=[(4,i,w.getD (w.length-1) 0,0)]) fun u hu=>hu);have c2:=(Cov.one [(1,i-1,0,0),(5,0,256*w.getD (w.length-2) 0+w.getD (w.length-1) 0,0)] (p:=fun u=>u=[(1,i-1,0,0),(5,0,256*w.getD (w.length-2) 0+w.getD (w.length-1) 0,0)]) fun u hu=>hu);refine (c1.or (c2.or this fun u hu=>hu) fun u hu=>?_).weak ?_ fun _ h=>h
     ·have:=zrf hd he k hw hu;rw [ha] at this;exact this.imp id fun h=>h.imp (fun h=>h.1) id
     ·have h1:=zrm m (w.length-2) (w.length-2) (Nat.le_refl _);rw [Nat.sub_self,zjp] at h1;have e1:pas (m+1) (w.length-1)=pas m (w.length-1)+pas (m+1) (w.length-2):=by
       rw [show w.length-1=(w.length-2)+1 by omega];rfl
      have e2:pas (m+1) w.length=pas m w.length+pas (m+1) (w.length-1):=by
       obtain ⟨q,hq⟩:∃q,w.length=q+1:=⟨w.length-1,by omega⟩;rw [hq];rfl
      have:=zly m (w.length-1);have:=zly m w.length;omega
    ·refine ((Cov.one [(4,i,w.getD (w.length-1) 0,0)]) fun u hu=>?_).weak (zly _ _) fun _ h=>h;rcases zrf hd he k hw hu with h1 | ⟨_,h1⟩ | ⟨p,h1,_⟩
     ·exact h1
     ·exact absurd h1 h2
     ·omega
 | two he hk ha hb h1 h2 i1 i2=>
  rename_i f p i e
  intro w hw;have l1:=h1.le;have l2:=h2.le;cases w with
  | nil=>exact Cov.none (fun u=>Rch.none) _
  | cons c0 w0=>
   generalize hwe:c0::w0=w at hw ⊢;have hl:w.length=w0.length+1:=by rw [← hwe];simp
   have j1:=i1 w hw;have j2:=i2 w hw;have hs:pas (p-1-f+1).toNat w.length+pas (i-1-p+1).toNat w.length≤pas (i-f+1).toNat w.length:=by
    have:=pas_two (p-1-f+1).toNat (i-1-p+1).toNat w0.length;rw [← hl,show (p-1-f+1).toNat+(i-1-p+1).toNat+1=(i-f+1).toNat by omega] at this;exact this
   rcases hk with k | k
   ·refine ((j2.map (·++[(1,i-1,0,0)]) (r:=fun u=>∃t,Rch d [(1,p-1,0,0)] w t∧u=t++[(1,i-1,0,0)]) fun u hu=>hu).or j1 fun u hu=>?_).weak hs fun _ h=>h;have:=rch_seq hd he k hu;rw [ha,hb] at this;exact this
   ·refine (j2.or j1 fun u hu=>?_).weak hs fun _ h=>h;have:=rch_or hd he k hu;rw [ha,hb] at this;exact this
theorem after_cov {d:List SNode} (h:Rt d) {w:List Int} (hw:∀c∈w,0≤c):Cov (pas d.length w.length) (fun u=>u∈zcx d w [(1,(d.length:Int)-1,0,0)]):=by
 cases w with
 | nil=>
  refine (Cov.one [(1,(d.length:Int)-1,0,0)] fun u hu=>?_).weak (zly _ _) fun _ h=>h
  rwa [zcx,List.mem_singleton] at hu
 | cons c w=>
  refine (cov_pas h.toROk h.tr (c::w) hw).weak ?_ fun u hu=>⟨[],c::w,rfl,by simp,hu⟩;have:((d.length:Int)-1-0+1).toNat=d.length:=by omega
  rw [this];exact Nat.le_refl _
end Go.Proofs.YtahgmdbioafmbaaGreatDoor.V
namespace Go.Proofs.YtahgmdbioafmbaaGreatDoor.V
open Go
set_option linter.unusedVariables false
theorem rch_len {d:List SNode} (hd:ROk d) {f i:Int} (h:Tr d f i):∀(w:List Int) (u:List SItem),(∀c∈w,0≤c)→Rch d [(1,i,0,0)] w u→u.length≤(i-f+1).toNat:=by
 induction h with
 | leaf he hk hx h0=>
  rename_i i e
  intro w u hw hu;rcases hk with k | k | k
  ·exact absurd hu (zn6 hd he k)
  ·rw [zn7 hd he k hu];simp
  ·obtain ⟨j,_,_,h2⟩:=zrg hd he k hu;rw [h2];split <;> simp
 | one he hk ha hb hr h ih=>
  rename_i f i e
  intro w u hw hu;have hle:=h.le;have hdr:∀p,∀c∈w.drop p,0≤c:=fun p c hc=>hw c (List.mem_of_mem_drop hc);rcases hk with k | k | k | k
  ·obtain ⟨t,h1,rfl⟩:=zrh hd he k hu;rw [ha] at h1;have:=ih w t hw h1;simp;omega
  ·obtain ⟨t,_,_,u',h1,rfl⟩:=zri hd he k hu;rw [ha] at h1;have:=ih _ u' (hdr t) h1;simp;omega
  ·rcases rch_frame hd he k hw hu with rfl | ⟨p,_,u',h1,rfl⟩
   ·simp;omega
   ·rw [ha] at h1;have:=ih _ u' (hdr _) h1;simp;omega
  ·rcases zrf hd he k hw hu with rfl | ⟨rfl,_⟩ | ⟨p,_,u',h1,rfl⟩
   ·simp;omega
   ·simp;omega
   ·rw [ha] at h1;have:=ih _ u' (hdr _) h1;simp;omega
 | two he hk ha hb h1 h2 i1 i2=>
  rename_i f p i e
  intro w u hw hu;have l1:=h1.le;have l2:=h2.le;rcases hk with k | k
  ·rcases rch_seq hd he k hu with ⟨t,h1,rfl⟩ | h1
   ·rw [ha] at h1;have:=i2 w t hw h1;simp;omega
   ·rw [hb] at h1;have:=i1 w u hw h1;omega
  ·rcases rch_or hd he k hu with h1 | h1
   ·rw [ha] at h1;have:=i2 w u hw h1;omega
   ·rw [hb] at h1;have:=i1 w u hw h1;omega
theorem after_sm {d:List SNode} (h:Rt d) (hl:d.length≤24) (ht:∀n∈d,n.2.2.2.2.2.2.length≤140737488351232) {w:List Int} (hw:∀c∈w,InR .u8 c) {u:List SItem} (hu:u∈zcx d w [(1,(d.length:Int)-1,0,0)]):Sm d u∧u.length≤24:=by
 have hpos:0<d.length:=List.length_pos_iff.2 h.ne;have hsome:∃n,at? d ((d.length:Int)-1)=some n:=by
  have e:(d.length:Int)-1=((d.length-1:Nat):Int):=by omega
  rw [e,zbq];exact ⟨_,List.getElem?_eq_getElem (show d.length-1<d.length by omega)⟩
 have hf:zd9 d [(1,(d.length:Int)-1,0,0)]=true:=zfp (zig hsome) rfl;have hform:=(ends_ok h.toROk w _ hw hf u hu).1;have hlen:u.length≤24:=by
  cases w with
  | nil=>
   rw [zcx,List.mem_singleton] at hu;subst hu;simp
  | cons c w=>
   have:=rch_len h.toROk h.tr (c::w) u (fun c' hc'=>(zcy.1 (hw c' hc')).1) ⟨[],c::w,rfl,by simp,hu⟩;omega
 exact ⟨⟨h,hl,ht,hform,by omega⟩,hlen⟩
theorem on_step {d:List SNode} {s:List SItem} (h:Sm d s) {c:Int} (hc:InR .u8 c):∃o,zbp d s c o∧ze3 d s c o∧Can (fun t=>(zd8 d c s).count t) o:=by
 obtain ⟨B,R,_,b3,o1,o2,o3⟩:=on_both h hc;exact ⟨R,o1,o2,o3.congr fun t=>fB_step b3 c t⟩
abbrev Rs (l:List (List SItem)):Prop:=l.Pairwise (fun a b=>zez a b<0)
def insS (t:List SItem):List (List SItem)→List (List SItem)
 | []=>[t]
 | c::l=>if zez t c<0 then t::c::l else if zez t c=0 then c::l else c::insS t l
def zkr (L:List (List SItem)):List (List SItem):=L.foldr insS []
theorem zr4 {t u:List SItem}:∀{l:List (List SItem)},u∈insS t l↔u=t∨u∈l
 | []=>by simp [insS]
 | c::l=>by
  unfold insS;split
  ·simp
  ·split
   ·rename_i h
    rw [zel.1 h];simp
   ·rw [List.mem_cons,zr4,List.mem_cons];constructor
    ·rintro (h | h | h)
     ·exact .inr (.inl h)
     ·exact .inl h
     ·exact .inr (.inr h)
    ·rintro (h | h | h)
     ·exact .inr (.inl h)
     ·exact .inl h
     ·exact .inr (.inr h)
theorem insS_srt {t:List SItem}:∀{l:List (List SItem)},Rs l→Rs (insS t l)
 | [],_=>by simp [insS]
 | c::l,h=>by
  unfold insS;have h':=List.pairwise_cons.1 h;split
  ·rename_i h1
   exact List.pairwise_cons.2 ⟨fun x hx=>(List.mem_cons.1 hx).elim (fun e=>by rw [e];exact h1) fun hx=>zgg h1 (h'.1 x hx),h⟩
  ·split
   ·exact h
   ·rename_i h1 h2
    have h3:zez c t<0:=by
     have:=zf1 t c;omega
    refine List.pairwise_cons.2 ⟨fun x hx=>?_,insS_srt h'.2⟩;rcases zr4.1 hx with rfl | hx
    ·exact h3
    ·exact h'.1 x hx
theorem zed {u:List SItem}:∀{L:List (List SItem)},u∈zkr L↔u∈L
 | []=>by simp [zkr]
 | t::L=>by
  show u∈insS t (zkr L)↔_;rw [zr4,zed,List.mem_cons]
theorem zfu:∀L:List (List SItem),Rs (zkr L)
 | []=>List.Pairwise.nil
 | t::L=>insS_srt (zfu L)
theorem zqz {l:List (List SItem)} (h:Rs l):l.Nodup:=h.imp fun {a b} h e=>by subst e;exact zg9 h
theorem rs_uniq {a b:List (List SItem)} (ha:Rs a) (hb:Rs b) (h:∀x,x∈a↔x∈b):a=b:=by
 have:=zkp (B:=a.map fun t=>((t,0):SBranch)) (C:=b.map fun t=>((t,0):SBranch)) (List.pairwise_map.2 ha) (List.pairwise_map.2 hb) fun x=>by
  simp only [List.mem_map];constructor
  ·rintro ⟨t,ht,rfl⟩;exact ⟨t,(h t).1 ht,rfl⟩
  ·rintro ⟨t,ht,rfl⟩;exact ⟨t,(h t).2 ht,rfl⟩
 have h2:=congrArg (List.map (·.1)) this;simpa [List.map_map,Function.comp_def] using h2
theorem znz {A K:List (List SItem)} (h:∀x∈A,x∈K):(zkr A).length≤K.length:=zi2 (zqz (zfu A)) fun t ht=>h t (zed.1 ht)
theorem can_set {f:List SItem→Nat} {B:List SBranch} (h:Can f B) {A:List (List SItem)} (e:∀t,f t≠0↔t∈A):B.map (·.1)=zkr A:=by
 refine rs_uniq ?_ (zfu A) fun t=>by rw [h.keys,e,zed]
 exact List.pairwise_map.2 h.srt
def onS (d:List SNode) (c:Int) (l:List (List SItem)):List (List SItem):=zkr (l.flatMap (zd8 d c))
def endS (d:List SNode) (l:List (List SItem)):Bool:=l.any fun s=>decide ((hds d s).count []≠0)
abbrev stS (d:List SNode):List SItem:=[(1,(d.length:Int)-1,0,0)]
def zgh (d:List SNode) (w:List Int):List (List SItem):=w.foldl (fun l c=>onS d c l) [stS d]
theorem zna (d:List SNode):zgh d []=[stS d]:=rfl
theorem ze0 (d:List SNode) (w:List Int) (c:Int):zgh d (w++[c])=onS d c (zgh d w):=by unfold zgh;rw [List.foldl_append];rfl
theorem zkc {d:List SNode} {c:Int} {l:List (List SItem)} {t:List SItem}:t∈onS d c l↔∃s∈l,t∈zd8 d c s:=by unfold onS;rw [zed,List.mem_flatMap]
theorem zqm {p:List Int→Prop} (h0:p []) (hs:∀w c,p w→p (w++[c])) (w:List Int):p w:=by
 have:∀n (w:List Int),w.length=n→p w:=by
  intro n
  induction n with
  | zero=>intro w hw;rw [List.length_eq_zero_iff.1 hw];exact h0
  | succ n ih=>
   intro w hw;have hne:w≠[]:=fun e=>by subst e;simp at hw
   rw [← List.dropLast_concat_getLast hne];exact hs _ _ (ih _ (by simp [hw]))
 exact this _ w rfl
theorem zjz {d:List SNode} {t:List SItem} (w:List Int):t∈zgh d w↔t∈zcx d w (stS d):=by
 revert t
 refine zqm (p:=fun w=>∀{t:List SItem},t∈zgh d w↔t∈zcx d w (stS d)) ?_ ?_ w
 ·intro t;rw [zna,zcx]
 ·intro w c ih t;rw [ze0,zkc,zqg,List.mem_flatMap];constructor
  ·rintro ⟨s,h1,h2⟩;exact ⟨s,ih.1 h1,h2⟩
  ·rintro ⟨s,h1,h2⟩;exact ⟨s,ih.2 h1,h2⟩
theorem aftS_srt (d:List SNode) (w:List Int):Rs (zgh d w):=by
 refine zqm (p:=fun w=>Rs (zgh d w)) ?_ (fun w c _=>?_) w
 ·rw [zna];simp
 ·rw [ze0];exact zfu _
theorem aftS_set (d:List SNode) (w:List Int):zgh d w=zkr (zcx d w (stS d)):=rs_uniq (aftS_srt d w) (zfu _) fun t=>by rw [zjz,zed]
theorem endS_iff {d:List SNode} {l:List (List SItem)}:endS d l=true↔∃s∈l,(hds d s).count []≠0:=by simp [endS]
theorem sumF_ne (F:List SItem→Nat):∀L:List (List SItem),zb7 F L≠0↔∃t∈L,F t≠0
 | []=>by simp [zb7]
 | t::L=>by
  have e:zb7 F (t::L)=F t+zb7 F L:=by simp [zb7]
  have ih:=sumF_ne F L;rw [e];constructor
  ·intro h
   by_cases h0:F t=0
   ·obtain ⟨u,h1,h2⟩:=ih.1 (by omega);exact ⟨u,by simp [h1],h2⟩
   ·exact ⟨t,by simp,h0⟩
  ·rintro ⟨u,h1,h2⟩;rcases List.mem_cons.1 h1 with rfl | h1
   ·omega
   ·have:=ih.2 ⟨u,h1,h2⟩;omega
theorem endS_word (d:List SNode) (w:List Int):endS d (zgh d w)=true↔zbm d ((d.length:Int)-1) w≠0:=by
 unfold zbm;rw [wyn_ends,sumF_ne,endS_iff];constructor
 ·rintro ⟨s,h1,h2⟩;exact ⟨s,(zjz w).1 h1,h2⟩
 ·rintro ⟨s,h1,h2⟩;exact ⟨s,(zjz w).2 h1,h2⟩
theorem zja {d:List SNode} (h:Rt d) (hl:d.length≤24) (ht:Txt d) {w:List Int} (hw:∀c∈w,InR .u8 c) {u:List SItem} (hu:u∈zgh d w):Sm d u∧u.length≤24:=after_sm h hl ht hw ((zjz w).1 hu)
theorem znb {d:List SNode} (h:Rt d) {w:List Int} (hw:∀c∈w,InR .u8 c):(zgh d w).length≤pas d.length w.length:=by
 obtain ⟨K,k1,k2⟩:=after_cov h fun c hc=>(zcy.1 (hw c hc)).1;rw [aftS_set];exact Nat.le_trans (znz k2) k1
def canB (d:List SNode) (s:List SItem):List SBranch:=(zkr (hds d s)).map fun t=>(t,sat ((hds d s).count t))
theorem canB_can (d:List SNode) (s:List SItem):Can (fun t=>(hds d s).count t) (canB d s):=by
 refine ⟨List.pairwise_map.2 (zfu _),fun t m=>?_⟩;unfold canB;simp only [List.mem_map,Prod.mk.injEq];constructor
 ·rintro ⟨u,h1,rfl,h2⟩;have:=List.count_pos_iff.2 (zed.1 h1);exact ⟨by omega,h2.symm⟩
 ·rintro ⟨h1,h2⟩;exact ⟨t,zed.2 (List.count_pos_iff.1 (by omega)),rfl,h2.symm⟩
def clsA (d:List SNode) (s:List SItem):List Cl:=zli d (canB d s)
def zm7 (d:List SNode) (l:List (List SItem)):List Cl:=l.flatMap (clsA d)
theorem clsA_in {d:List SNode} {s:List SItem} (h:Sm d s):zbf d s (clsA d s)∧zbc d s (clsA d s)∧(clsA d s).length≤256*10001:=by
 obtain ⟨B,b1,b2,b3⟩:=classes_both h;have e:=b1.uniq (canB_can d s);subst e;have:=zk9 d (canB d s);have:=(h.hok b1).few;exact ⟨b2,b3,by unfold clsA;omega⟩
theorem clsA_mem {d:List SNode} {s t:List SItem} (h:t∈hds d s):∀x∈clsF d t,x∈clsA d s:=fun x hx=>by
 unfold clsA zli;exact List.mem_flatMap.2 ⟨(t,sat ((hds d s).count t)),List.mem_map.2 ⟨t,zed.2 h,rfl⟩,hx⟩
theorem step_like {d:List SNode} {s:List SItem} (h:Sm d s) {a b:Int} (ha:InR .u8 a) (hb:InR .u8 b) (hx:∀x∈clsA d s,x.has a.toNat=x.has b.toNat):zd8 d a s=zd8 d b s:=by
 have hd:=h.rt.toROk;unfold zd8;have key:∀t∈hds d s,zx d t a=zx d t b:=fun t ht=>by
  obtain ⟨L,⟨k,hk⟩,hp⟩:=hds_lv hd s h.form;obtain ⟨h3,h4⟩:=lv_vs hd (n0:=s.length) k s L hk (Vs.start h.form (Nat.le_refl _)) t (hp.mem_iff.2 ht);exact read_same h3.form h4 ha hb fun x hxx=>hx x (clsA_mem ht x hxx)
 have:∀L:List (List SItem),(∀t∈L,zx d t a=zx d t b)→L.filterMap (fun t=>if (zx d t a).2=true then some (zx d t a).1 else none)=L.filterMap (fun t=>if (zx d t b).2=true then some (zx d t b).1 else none):=by
  intro L
  induction L with
  | nil=>intro _;rfl
  | cons t L ih=>
   intro hL;rw [List.filterMap_cons,List.filterMap_cons,hL t (by simp),ih fun u hu=>hL u (by simp [hu])]
 exact this _ key
theorem onS_like {d:List SNode} {l:List (List SItem)} (h:∀s∈l,Sm d s) {a b:Int} (ha:InR .u8 a) (hb:InR .u8 b) (hx:∀x∈zm7 d l,x.has a.toNat=x.has b.toNat):onS d a l=onS d b l:=by
 unfold onS
 congr 1
 have:∀s∈l,zd8 d a s=zd8 d b s:=fun s hs=>step_like (h s hs) ha hb fun x hxx=>hx x (List.mem_flatMap.2 ⟨s,hs,hxx⟩);clear hx
 induction l with
 | nil=>rfl
 | cons s l ih=>rw [List.flatMap_cons,List.flatMap_cons,this s (by simp),ih (fun u hu=>h u (by simp [hu])) fun u hu=>this u (by simp [hu])]
def zf5 (l:List Cl):List Cl:=l.foldl (fun o a=>if a∈o then o else o++[a]) []
theorem zjq (l:List Cl) (a:Cl):zf5 (l++[a])=if a∈zf5 l then zf5 l else zf5 l++[a]:=by unfold zf5;rw [List.foldl_append];rfl
theorem cl_ind {p:List Cl→Prop} (h0:p []) (hs:∀w c,p w→p (w++[c])) (w:List Cl):p w:=by
 have:∀n (w:List Cl),w.length=n→p w:=by
  intro n
  induction n with
  | zero=>intro w hw;rw [List.length_eq_zero_iff.1 hw];exact h0
  | succ n ih=>
   intro w hw;have hne:w≠[]:=fun e=>by subst e;simp at hw
   rw [← List.dropLast_concat_getLast hne];exact hs _ _ (ih _ (by simp [hw]))
 exact this _ w rfl
theorem zht {x:Cl} (l:List Cl):x∈zf5 l↔x∈l:=by
 refine cl_ind (p:=fun l=>x∈zf5 l↔x∈l) (by simp [zf5]) (fun l a ih=>?_) l;rw [zjq]
 by_cases h:a∈zf5 l
 ·rw [if_pos h,List.mem_append,ih,List.mem_singleton];constructor
  ·exact .inl
  ·rintro (h1 | rfl)
   ·exact h1
   ·exact ih.1 h
 ·rw [if_neg h,List.mem_append,List.mem_append,ih]
theorem zoa (l:List Cl):(zf5 l).Nodup:=by
 refine cl_ind (p:=fun l=>(zf5 l).Nodup) (by simp [zf5]) (fun l a ih=>?_) l;rw [zjq];split
 ·exact ih
 ·rename_i h
  rw [List.nodup_append];exact ⟨ih,by simp,fun x hx y hy e=>by rw [List.mem_singleton.1 hy] at e;subst e;exact h hx⟩
theorem like_mem {l m:List Cl} (h:∀x,x∈l↔x∈m) (c e:Nat):zj2 l c e=zj2 m c e:=by
 unfold zj2;rw [Bool.eq_iff_iff,List.all_eq_true,List.all_eq_true];exact ⟨fun k x hx=>k x ((h x).2 hx),fun k x hx=>k x ((h x).1 hx)⟩
theorem splitH_mem {l m:List Cl} (h:∀x,x∈l↔x∈m):zp3 l=zp3 m:=by
 rw [znt,znt];have:zge l=zge m:=by
  unfold zge;refine List.filter_congr fun c _=>?_
  congr 1
  funext d;rw [like_mem h]
 rw [this]
def bytC (l:List Cl):List Int:=zp3 (zf5 l)
def bytS (d:List SNode) (l:List (List SItem)):List Int:=bytC (zm7 d l)
theorem zox (l:List Cl):bytC l=(zge l).map fun n:Nat=>(n:Int):=by
 unfold bytC;rw [splitH_mem (m:=l) fun x=>zht l,znt]
theorem bytC_len (l:List Cl):(bytC l).length≤256:=by rw [zox,List.length_map];exact heads_len l
theorem bytC_srt (l:List Cl):(bytC l).Pairwise (· < ·):=by
 rw [zox,List.pairwise_map];exact (zi7 l).imp fun h=>by omega
theorem bytC_u8 {l:List Cl} {b:Int} (h:b∈bytC l):InR .u8 b:=by
 rw [zox] at h;obtain ⟨n,h1,rfl⟩:=List.mem_map.1 h;have:=(zgr.1 h1).1;exact zcy.2 ⟨by omega,by omega⟩
theorem bytC_of (l:List Cl) {c:Int} (hc:InR .u8 c):∃b∈bytC l,b≤c∧∀x∈l,x.has b.toNat=x.has c.toNat:=by
 have hc':=zcy.1 hc;obtain ⟨h,h1,h2,h3⟩:=head_of (l:=l) (c:=c.toNat) (by omega);refine ⟨(h:Int),by rw [zox];exact List.mem_map.2 ⟨h,h1,rfl⟩,by omega,fun x hx=>?_⟩;unfold zj2 at h3;rw [List.all_eq_true] at h3;have:=h3 x hx;simpa using this
theorem onS_byte {d:List SNode} {l:List (List SItem)} (h:∀s∈l,Sm d s) {c:Int} (hc:InR .u8 c):∃b∈bytS d l,b≤c∧onS d b l=onS d c l:=by
 obtain ⟨b,h1,h2,h3⟩:=bytC_of (zm7 d l) hc;exact ⟨b,h1,h2,onS_like h (bytC_u8 h1) hc h3⟩
def szN (d:List SNode):Nat→Int→Nat
 | 0,_=>0
 | k+1,i=>match at? d i with
  | none=>0
  | some n=>if n.1=2 then 1 else if n.1=3 then n.2.2.2.2.2.2.length else if n.1=4∨n.1=5 then szN d k n.2.1+szN d k n.2.2.1 else if n.1=6 then szN d k n.2.1 else if n.1=7 then n.2.2.2.2.1.toNat*szN d k n.2.1 else 0
theorem zln (m:Nat):∀k,sumN (fun _=>m) k=k*m
 | 0=>by simp [sumN]
 | k+1=>by
  show sumN (fun _=>m) k+m=_;rw [zln m k,Nat.succ_mul]
def nf (d:List SNode):Nat→Int→Bool
 | 0,_=>true
 | k+1,i=>match at? d i with
  | none=>true
  | some n=>if n.1=8∨n.1=9 then false else if n.1=4∨n.1=5 then nf d k n.2.1&&nf d k n.2.2.1 else if n.1=6 then nf d k n.2.1 else if n.1=7 then decide (n.2.2.2.2.1≤0)||nf d k n.2.1 else true
def NoFr (d:List SNode):Prop:=nf d d.length ((d.length:Int)-1)=true
theorem at_mem {d:List SNode} {i:Int} {e:SNode} (he:at? d i=some e):e∈d:=by
 unfold at? at he;split at he
 ·exact List.mem_of_getElem? he
 ·cases he
theorem nf_of {d:List SNode} (h:∀n∈d,n.1≠8∧n.1≠9):∀(k:Nat) (i:Int),nf d k i=true
 | 0,_=>rfl
 | k+1,i=>by
  unfold nf;cases hn:at? d i with
  | none=>rfl
  | some n=>
   have:=h n (at_mem hn);simp only [nf_of h k];rw [if_neg (by omega)];simp
theorem cov_sz {d:List SNode} (hd:ROk d) {f i:Int} (h:Tr d f i):∀k,(i-f+1).toNat≤k→nf d k i=true→Cov (szN d k i) (fun u=>∃w,Rch d [(1,i,0,0)] w u):=by
 induction h with
 | leaf he hk hx h0=>
  rename_i i e
  intro k hk2 hnf;obtain ⟨k,rfl⟩:∃q,k=q+1:=⟨k-1,by omega⟩;have hs:szN d (k+1) i=if e.1=2 then 1 else if e.1=3 then e.2.2.2.2.2.2.length else if e.1=4∨e.1=5 then szN d k e.2.1+szN d k e.2.2.1 else if e.1=6 then szN d k e.2.1 else if e.1=7 then e.2.2.2.2.1.toNat*szN d k e.2.1 else 0:=by
   simp only [szN,he]
  rw [hs];rcases hk with k1 | k1 | k1
  ·exact Cov.none (fun u ⟨w,hu⟩=>zn6 hd he k1 hu) _
  ·rw [if_pos k1];exact Cov.one [] fun u ⟨w,hu⟩=>zn7 hd he k1 hu
  ·rw [if_neg (by omega),if_pos k1];have:=Cov.sum (f:=fun _=>1) (p:=fun j u=>u=if j+1<e.2.2.2.2.2.2.length then [(3,i,((j+1:Nat):Int),0)] else []) e.2.2.2.2.2.2.length fun j hj=>Cov.one _ fun u hu=>hu;refine this.weak (by rw [zln];omega) fun u ⟨w,hu⟩=>?_;obtain ⟨j,_,h1,h2⟩:=zrg hd he k1 hu;exact ⟨j,h1,h2⟩
 | one he hk ha hb hr h ih=>
  rename_i f i e
  intro k hk2 hnf;have hle:=h.le;obtain ⟨k,rfl⟩:∃q,k=q+1:=⟨k-1,by omega⟩;have hs:szN d (k+1) i=if e.1=2 then 1 else if e.1=3 then e.2.2.2.2.2.2.length else if e.1=4∨e.1=5 then szN d k e.2.1+szN d k e.2.2.1 else if e.1=6 then szN d k e.2.1 else if e.1=7 then e.2.2.2.2.1.toNat*szN d k e.2.1 else 0:=by
   simp only [szN,he]
  have ih:=ih k (by omega);unfold nf at hnf;simp only [he] at hnf;rw [hs];rcases hk with k1 | k1 | k1 | k1
  ·rw [if_neg (by omega),if_neg (by omega),if_neg (by omega),if_pos k1,ha];rw [if_neg (by omega),if_neg (by omega),if_pos k1,ha] at hnf;refine (ih hnf).map (·++[(1,i,0,0)]) fun u ⟨w,hu⟩=>?_;obtain ⟨t,h1,h2⟩:=zrh hd he k1 hu;rw [ha] at h1;exact ⟨t,⟨w,h1⟩,h2⟩
  ·rw [if_neg (by omega),if_neg (by omega),if_neg (by omega),if_neg (by omega),if_pos k1,ha];rw [if_neg (by omega),if_neg (by omega),if_neg (by omega),if_pos k1,ha,Bool.or_eq_true,decide_eq_true_iff] at hnf;rcases Int.lt_or_le 0 e.2.2.2.2.1 with h0 | h0
   rotate_left
   ·refine Cov.none (fun u ⟨w,hu⟩=>?_) _;obtain ⟨t,_,h1,_⟩:=zri hd he k1 hu;omega
   have ih:=ih (hnf.resolve_left (by omega));have:=Cov.sum (f:=fun _=>szN d k (i-1)) (p:=fun t u=>∃u',(∃w,Rch d [(1,i-1,0,0)] w u')∧u=u'++[zi5 i e (t+1)]) e.2.2.2.2.1.toNat fun t ht=>ih.map (·++[zi5 i e (t+1)]) fun u hu=>hu;refine this.weak (by rw [zln];omega) fun u ⟨w,hu⟩=>?_;obtain ⟨t,_,h1,u',h2,h3⟩:=zri hd he k1 hu;rw [ha] at h2;exact ⟨t,by omega,u',⟨_,h2⟩,h3⟩
  ·rw [if_pos (.inl k1)] at hnf;cases hnf
  ·rw [if_pos (.inr k1)] at hnf;cases hnf
 | two he hk ha hb h1 h2 i1 i2=>
  rename_i f p i e
  intro k hk2 hnf;have l1:=h1.le;have l2:=h2.le;obtain ⟨k,rfl⟩:∃q,k=q+1:=⟨k-1,by omega⟩;have hs:szN d (k+1) i=if e.1=2 then 1 else if e.1=3 then e.2.2.2.2.2.2.length else if e.1=4∨e.1=5 then szN d k e.2.1+szN d k e.2.2.1 else if e.1=6 then szN d k e.2.1 else if e.1=7 then e.2.2.2.2.1.toNat*szN d k e.2.1 else 0:=by
   simp only [szN,he]
  unfold nf at hnf;simp only [he] at hnf;rw [if_neg (by omega),if_pos hk,ha,hb,Bool.and_eq_true] at hnf;have j1:=i1 k (by omega) hnf.2;have j2:=i2 k (by omega) hnf.1;rw [hs,if_neg (by omega),if_neg (by omega),if_pos hk,ha,hb];rcases hk with k1 | k1
  ·refine (j2.map (·++[(1,i-1,0,0)]) (r:=fun u=>∃t,(∃w,Rch d [(1,p-1,0,0)] w t)∧u=t++[(1,i-1,0,0)]) fun u hu=>hu).or j1 fun u ⟨w,hu⟩=>?_;have:=rch_seq hd he k1 hu;rw [ha,hb] at this;exact this.imp (fun ⟨t,a,b⟩=>⟨t,⟨w,a⟩,b⟩) fun a=>⟨w,a⟩
  ·refine j2.or j1 fun u ⟨w,hu⟩=>?_;have:=rch_or hd he k1 hu;rw [ha,hb] at this;exact this.imp (fun a=>⟨w,a⟩) fun a=>⟨w,a⟩
theorem all_cov {d:List SNode} (h:Rt d) (hn:NoFr d):Cov (szN d d.length ((d.length:Int)-1)+1) (fun u=>∃w,u∈zcx d w (stS d)):=by
 refine ((cov_sz h.toROk h.tr d.length (by omega) hn).or (Cov.one (stS d) (p:=fun u=>u=stS d) fun u hu=>hu) fun u ⟨w,hu⟩=>?_);cases w with
 | nil=>
  rw [zcx,List.mem_singleton] at hu;exact .inr hu
 | cons c w=>exact .inl ⟨c::w,[],c::w,rfl,by simp,hu⟩
theorem aftS_all {d:List SNode} (h:Rt d) (hn:NoFr d):∃K:List (List SItem),K.length≤szN d d.length ((d.length:Int)-1)+1∧∀w,∀t∈zgh d w,t∈K:=by
 obtain ⟨K,h1,h2⟩:=all_cov h hn;exact ⟨K,h1,fun w t ht=>h2 t ⟨w,(zjz w).1 ht⟩⟩
theorem aftS_few {d:List SNode} (h:Rt d) (hn:NoFr d) (w:List Int):(zgh d w).length≤szN d d.length ((d.length:Int)-1)+1:=by
 obtain ⟨K,h1,h2⟩:=aftS_all h hn;exact Nat.le_trans (zi2 (zqz (aftS_srt d w)) (h2 w)) h1
theorem canB_len {d:List SNode} (h:Rt d) (s:List SItem):(canB d s).length≤s.length*(d.length+1)+1:=by
 unfold canB;rw [List.length_map];exact Nat.le_trans (znz fun t ht=>hds_CS d s t ht) (CS_few h s)
theorem clsA_len {d:List SNode} (h:Rt d) (s:List SItem):(clsA d s).length≤256*(s.length*(d.length+1)+1):=by
 have h1:=zk9 d (canB d s);have h2:=canB_len h s;unfold clsA;omega
theorem zsg {d:List SNode} (h:Rt d) {m:Nat}:∀l:List (List SItem),(∀s∈l,s.length≤m)→(zm7 d l).length≤256*(m*(d.length+1)+1)*l.length
 | [],_=>by simp [zm7]
 | s::l,hm=>by
  have h1:=clsA_len h s;have h2:=zsg h l fun u hu=>hm u (by simp [hu]);have h3:s.length*(d.length+1)≤m*(d.length+1):=Nat.mul_le_mul_right _ (hm s (by simp));have e:zm7 d (s::l)=clsA d s++zm7 d l:=by simp [zm7]
  rw [e,List.length_append,List.length_cons,Nat.mul_add];omega
theorem clsF_of (d:List SNode) (t:List SItem) (hb:∀n∈d,True):∀x∈clsF d t,x∈sing++d.map fun n=>n.2.2.2.2.2.1:=by
 intro x hx;cases t with
 | nil=>cases hx
 | cons y t=>
  simp only [clsF] at hx;cases hn:at? d y.2.1 with
  | none=>rw [hn] at hx;cases hx
  | some n=>
   rw [hn] at hx;simp only at hx;have hm:n∈d:=by
    unfold at? at hn;split at hn
    ·exact List.mem_of_getElem? hn
    ·cases hn
   split at hx
   ·rw [List.mem_singleton] at hx;refine List.mem_append.2 (.inl ?_);have hr:0≤(zd2 n.2.2.2.2.2.2 y.2.2.1).getD 0∧(zd2 n.2.2.2.2.2.2 y.2.2.1).getD 0≤255:=by
     cases hq:zd2 n.2.2.2.2.2.2 y.2.2.1 with
     | none=>simp
     | some c=>exact byte_u8 hq
    rw [hx];refine List.mem_map.2 ⟨((zd2 n.2.2.2.2.2.2 y.2.2.1).getD 0).toNat,by simp;omega, ?_⟩;have e:((((zd2 n.2.2.2.2.2.2 y.2.2.1).getD 0).toNat:Nat):Int) % 256=(zd2 n.2.2.2.2.2.2 y.2.2.1).getD 0:=by omega
    rw [e]
   ·split at hx
    ·rw [List.mem_singleton] at hx;exact List.mem_append.2 (.inr (List.mem_map.2 ⟨n,hm,hx.symm⟩))
    ·exact List.mem_append.2 (.inl hx)
theorem once_few (d:List SNode) (l:List (List SItem)):(zf5 (zm7 d l)).length≤256+d.length:=by
 have h1:=zi2 (U:=sing++d.map fun n=>n.2.2.2.2.2.1) (zoa (zm7 d l)) fun x hx=>by
  obtain ⟨s,_,h2⟩:=List.mem_flatMap.1 ((zht _).1 hx);unfold clsA zli at h2;obtain ⟨b,_,h3⟩:=List.mem_flatMap.1 h2;exact clsF_of d b.1 (fun _ _=>trivial) x h3
 rw [List.length_append,List.length_map,zh4] at h1;exact h1
theorem zhl {a:Cl}:zbz a a.least:=by
 refine zgx (P:=fun k (_:Unit) v=>zbz.l1 a a.least _ k v) 256 (fun i _=>∀m,m<i→a.has m=false) ?_ ?_ () (by intro m hm;omega)
 ·intro i s hi hs;cases hc:a.has i
  ·refine .inr ⟨(),fun m hm=>?_,fun k h=>⟨fun _=>⟨a.has i,zih hi,fun h2=>by simp [hc] at h2,fun _=>⟨zh (by omega) (by omega),h⟩⟩,fun h=>absurd (by omega) (df h)⟩⟩
   by_cases e:m=i
   ·subst e;exact hc
   ·exact hs m (by omega)
  ·refine .inl fun k=>⟨fun _=>⟨a.has i,zih hi,fun _=>?_,fun h2=>by simp [hc] at h2⟩,fun h=>absurd (by omega) (df h)⟩;rw [show ((i:Int) % 256)=i by omega];exact least_of hi hc hs
 ·intro s hs k;exact ⟨fun h=>absurd (dt h) (by omega),fun _=>by first | exact zid hs | (show zbz.j1 _ _;exact zid hs)⟩
theorem zps {a:Cl}:zb5 a (a.count:Int):=by
 refine zgx (P:=fun k (s:Int) v=>zb5.l1 a _ k s v) 256 (fun i s=>s=(((List.range i).countP a.has:Nat):Int)) ?_ ?_ _ (by simp)
 ·rintro i s hi rfl;have hle:=List.countP_le_length (l:=List.range i) (p:=a.has);simp only [List.length_range] at hle;refine .inr ⟨_,rfl,fun k h=>⟨fun _=>⟨a.has i,zih hi,fun hc=>?_,fun hc=>?_⟩,fun h=>absurd (by omega) (df h)⟩⟩
  ·rw [List.range_succ,List.countP_append,List.countP_singleton,hc] at h;exact ⟨zh (by omega) (by omega),zh (by omega) (by omega),by simpa using h⟩
  ·rw [List.range_succ,List.countP_append,List.countP_singleton,hc] at h;exact ⟨zh (by omega) (by omega),by simpa using h⟩
 ·rintro s rfl k;exact ⟨fun h=>absurd (dt h) (by omega),fun _=>rfl⟩
theorem zlb {a b:Cl}:zcm a b (a &&& b):=by
 refine words_up (P:=fun k s v=>zcm.l1 b _ k s v) (a:=a) (r:=a &&& b) (fun i w=>w &&& b.word i) (fun i hi=>?_) (fun k i s v hi hw hv h=>?_) (fun k=>?_)
 ·refine zin hi (Nat.and_lt_two_pow _ (b.word_lt i)) fun j hj=>?_;rw [zki,Nat.testBit_and,Cl.word_bit,Cl.word_bit];simp [hj]
 ·refine ⟨fun _=>⟨⟨by omega,by omega⟩,⟨by omega,by omega⟩,⟨by omega,by omega⟩,zh (by omega) (by omega), ?_⟩,fun h=>absurd (by omega) (df h)⟩;rw [show andI (Cl.w s (i:Int)) (Cl.w b (i:Int))=v by rw [hv];unfold andI;rw [w_nat,w_nat,Int.toNat_natCast,hw]];exact h
 ·exact ⟨fun h=>absurd (dt h) (by omega),fun _=>rfl⟩
theorem zmh {a:Cl}:zc4 a (~~~ a):=by
 refine words_up (P:=fun k s v=>zc4.l1 _ k s v) (a:=a) (r := ~~~ a) (fun i w=>18446744073709551615 ^^^ w) (fun i hi=>?_) (fun k i s v hi hw hv h=>?_) (fun k=>?_)
 ·refine zin hi (Nat.xor_lt_two_pow (by omega) (a.word_lt i)) fun j hj=>?_;rw [zon (by omega),Nat.testBit_xor,Cl.word_bit,show 18446744073709551615=2 ^ 64-1 by rfl,Nat.testBit_two_pow_sub_one];simp [hj]
 ·refine ⟨fun _=>⟨⟨by omega,by omega⟩,⟨by omega,by omega⟩,zh (by omega) (by omega), ?_⟩,fun h=>absurd (by omega) (df h)⟩;rw [show xorI 18446744073709551615 (Cl.w s (i:Int))=v by rw [hv];unfold xorI;rw [w_nat,Int.toNat_natCast,hw];rfl];exact h
 ·exact ⟨fun h=>absurd (dt h) (by omega),fun _=>rfl⟩
theorem dt0 {p:Prop} [Decidable p] (h:decide p=true):p:=of_decide_eq_true h
theorem df0 {p:Prop} [Decidable p] (h:decide p=false):¬ p:=of_decide_eq_false h
def zsm (key:Cl→Int) (cmp:Cl × Cl × Int→Prop):Prop:=∀x y,cmp (x,y,key x-key y)
theorem ins_l2 {key:Cl→Int} {cmp:Cl × Cl × Int→Prop} (hc:zsm key cmp) {A B:List Cl} {x:Cl} {X:List Cl→Prop}:
  ∀(m:Nat) (P G:List Cl),P.length=m→Srt key (P++G)→(∀g∈G,key x<key g)→(A++P++x::(G++B)).length<4611686018427387904 →
   (∀Q,Srt key Q→SEq key (P++x::G) Q→X (A++Q++B)) →
   ∃k,zd.l2 (A.length:Int) cmp X k (A++P++x::(G++B)) ((A.length+P.length:Nat):Int):=by
 intro m
 induction m with
 | zero=>
  intro P G hm hs hg hlen hX;have hP:=List.eq_nil_of_length_eq_zero hm;subst hP;refine ⟨1,x,fun h=>absurd (dt0 h) (by simp),fun h=>absurd (dt0 h) (by simp),x,fun h=>absurd (dt0 h) (by simp),0,fun h=>absurd (dt0 h) (by simp),fun h=>?_,fun _=>?_⟩
  ·simp at h
  ·have:=hX (x::G) (Srt.cons.2 ⟨fun y hy=>Int.le_of_lt (hg y hy),by simpa using hs⟩) (SEq.refl _ _);simpa using this
 | succ m ih=>
  intro P G hm hs hg hlen hX;obtain ⟨P,y,rfl⟩:=snoc_of (l:=P) (by rintro rfl;simp at hm);have hmP:P.length=m:=by simpa using hm
  have hl2:A.length+P.length+1<4611686018427387904:=by simp at hlen;omega
  have e0:A++(P++[y])++x::(G++B)=(A++P)++y::x::(G++B):=by simp
  have e1:A++(P++[y])++x::(G++B)=(A++P++[y])++x::(G++B):=by simp
  have hj:((A.length+(P++[y]).length:Nat):Int)=((A.length+P.length:Nat):Int)+1:=by simp <;> omega
  have at1:at? (A++(P++[y])++x::(G++B)) ((A.length+(P++[y]).length:Nat):Int)=some x:=by rw [e1];exact zim (by simp <;> omega)
  have at2:at? (A++(P++[y])++x::(G++B)) (((A.length+(P++[y]).length:Nat):Int)-1)=some y:=by rw [e0];exact zim (by simp <;> omega)
  by_cases hlt:key x<key y
  ·-- a round more
   obtain ⟨k,hk⟩:=ih P (y::G) hmP (by simpa using hs) (fun g hgm=>by
     rcases List.mem_cons.1 hgm with rfl | h
     ·exact hlt
     ·exact hg g h) (by simp at hlen ⊢ <;> omega) (fun Q hQ hE=>hX Q hQ (SEq.trans (by
      have:SEq key ([y]++[x]) ([x]++[y]):=zjh (by simp <;> omega);have h2:=(SEq.refl key P).app (this.app (SEq.refl key G));simpa using h2) hE))
   refine ⟨k+1,x,fun _=>at1,fun _=>zh (by omega) (by omega),y,fun _=>at2,key x-key y,fun _=>hc x y,fun _=>?_,fun h=>?_⟩
   ·refine ⟨zh (by omega) (by omega),zh (by omega) (by omega),y,at2,x,at1,x,at1,y, ?_,zh (by omega) (by omega), ?_⟩
    ·rw [e1,zh7 (by simp <;> omega)];rw [show (A++P++[y]++y::(G++B))=(A++P)++y::y::(G++B) by simp];exact zim (by simp <;> omega)
    ·have:((A++(P++[y])++x::(G++B)).set ((A.length+(P++[y]).length:Nat):Int).toNat y).set (((A.length+(P++[y]).length:Nat):Int)-1).toNat x=A++P++x::(y::G++B):=by
      rw [e1,zh7 (by simp <;> omega)];rw [show (A++P++[y]++y::(G++B))=(A++P)++y::y::(G++B) by simp];rw [zh7 (by simp <;> omega)];simp
     rw [this,show (((A.length+(P++[y]).length:Nat):Int)-1)=((A.length+P.length:Nat):Int) by omega];exact hk
   ·exfalso;simp at h;omega
  ·refine ⟨1,x,fun _=>at1,fun _=>zh (by omega) (by omega),y,fun _=>at2,key x-key y,fun _=>hc x y,fun h=>?_,fun _=>?_⟩
   ·exfalso;simp at h;omega
   ·have:=hX (P++[y]++x::G) (Srt.app.2 ⟨(Srt.app.1 hs).1,Srt.cons.2 ⟨fun g hgm=>Int.le_of_lt (hg g hgm),(Srt.app.1 hs).2.1⟩,fun p hp q hq=>?_⟩) (SEq.refl _ _)
    ·simpa using this
    ·have hpy:key p≤key y:=by
      rcases List.mem_append.1 hp with h | h
      ·exact (Srt.app.1 (Srt.app.1 hs).1).2.2 p h y (by simp)
      ·simp at h;subst h;exact Int.le_refl _
     rcases List.mem_cons.1 hq with rfl | h
     ·omega
     ·have:=(Srt.app.1 hs).2.2 p hp q h;exact this
theorem ins_in {key:Cl→Int} {cmp:Cl × Cl × Int→Prop} (hc:zsm key cmp) {A S B:List Cl} {a b:Int} (ha:a=(A.length:Int)) (hb:b=((A.length+S.length:Nat):Int)) (hlen:(A++S++B).length<4611686018427387904):
  zd (A++S++B) a b cmp (A++srt key S++B):=by
 have hlA:A.length+S.length<4611686018427387904:=by simp at hlen;omega
 subst ha;subst hb;have key2:∀(m:Nat) (P R:List Cl),R.length=m→Srt key P→SEq key S (P++R)→∀{X:List Cl→Prop},X (A++srt key S++B) →
   ∃k,zd.l1 (A.length:Int) ((A.length+S.length:Nat):Int) cmp X k (A++(P++R)++B) ((A.length+P.length:Nat):Int):=by
  intro m
  induction m with
  | zero=>
   intro P R hR hP hS X hX;have:=List.eq_nil_of_length_eq_zero hR;subst this;have hl:=hS.length;simp at hl;have e:=zij hP (by simpa using hS);exact ⟨1,fun h=>absurd (dt0 h) (by omega),fun _=>by rw [List.append_nil,e];exact hX⟩
  | succ m ih=>
   intro P R hR hP hS X hX;cases R with
   | nil=>simp at hR
   | cons x R=>
    have hl:=hS.length;simp at hl;simp at hR;have hS2:SEq key S (srt key (P++[x])++R):=hS.trans (by
     have:=(zgo key (P++[x])).app (SEq.refl key R);simpa using this)
    obtain ⟨k,hk⟩:=ih (srt key (P++[x])) R hR (zit _ _) hS2 hX;refine ⟨k+1,fun _=>?_,fun h=>absurd (by omega) (df0 h)⟩;have:=ins_l2 hc (A:=A) (B:=R++B) (x:=x) (X:=zd.j2 (zd.l1 (A.length:Int) ((A.length+S.length:Nat):Int) cmp X k) ((A.length+P.length:Nat):Int)) P.length P [] rfl (by simpa using hP) (by simp) (by simp at hlen ⊢ <;> omega) (fun Q hQ hE=>by
     have hQe:=zij hQ hE;refine ⟨zh (by omega) (by omega), ?_⟩;rw [hQe];have e1:((A.length+(srt key (P++[x])).length:Nat):Int)=((A.length+P.length:Nat):Int)+1:=by rw [zhb];simp;omega
     rw [e1] at hk;simpa using hk)
    simpa using this
 refine ⟨zh (by omega) (by omega), ?_⟩;cases S with
 | nil=>
  refine ⟨1,fun h=>absurd (dt0 h) (by simp <;> omega),fun _=>?_⟩;show A++srt key []++B=A++[]++B;rw [List.eq_nil_of_length_eq_zero (zhb key [])]
 | cons x S=>
  have:=key2 S.length [x] S rfl (by simp [Srt]) (SEq.refl _ _) (X:=zd.j1 (A++srt key (x::S)++B)) rfl;simpa using this
theorem swap_l1 {A M B:List Cl} {a b n:Int} {X:List Cl→Prop}:∀(X2 Y2 X1 Y1:List Cl),X2.length=Y2.length→X1.length=Y1.length→a=(A.length:Int)→b=((A.length+X1.length+X2.length+M.length:Nat):Int)→n=((X1.length+X2.length:Nat):Int) →
  (A++Y1++X2++M++X1++Y2++B).length<4611686018427387904→X (A++(Y1++Y2)++M++(X1++X2)++B) →
  ∃k,zi.l1 a b n X k (A++Y1++X2++M++X1++Y2++B) (X1.length:Int)
 | [],[],X1,Y1,_,h1,ha,hb,hn,hl,hX=>⟨1,fun h=>absurd (dt0 h) (by rw [hn];simp),fun _=>by simpa using hX⟩
 | x::X2,y::Y2,X1,Y1,h0,h1,ha,hb,hn,hl,hX=>by
  simp at h0;have hl':A.length+Y1.length+X2.length+M.length+X1.length+Y2.length+B.length+2<4611686018427387904:=by simp at hl;omega
  obtain ⟨k,hk⟩:=swap_l1 (A:=A) (M:=M) (B:=B) (a:=a) (b:=b) (n:=n) (X:=X) X2 Y2 (X1++[x]) (Y1++[y]) h0 (by simp <;> omega) ha (by rw [hb];simp <;> omega) (by rw [hn];simp <;> omega) (by simp at hl ⊢ <;> omega) (by simpa using hX);have e1:A++Y1++x::X2++M++X1++y::Y2++B=(A++Y1)++x::(X2++M++X1++y::Y2++B):=by simp
  have e2:A++Y1++x::X2++M++X1++y::Y2++B=(A++Y1++x::X2++M++X1)++y::(Y2++B):=by simp
  have pa:a+(X1.length:Int)=((A++Y1).length:Int):=by rw [ha];simp <;> omega
  have pb:b+(X1.length:Int)=((A++Y1++x::X2++M++X1).length:Int):=by rw [hb];simp <;> omega
  have hb0:b+(X1.length:Int)<4611686018427387904∧0≤b+(X1.length:Int):=by rw [pb];simp <;> omega
  have ha0:a+(X1.length:Int)<4611686018427387904∧0≤a+(X1.length:Int):=by rw [pa];simp <;> omega
  have aty:at? (A++Y1++x::X2++M++X1++y::Y2++B) (b+(X1.length:Int))=some y:=by rw [e2];exact zim pb
  have atx:at? (A++Y1++x::X2++M++X1++y::Y2++B) (a+(X1.length:Int))=some x:=by rw [e1];exact zim pa
  have s1:(A++Y1++x::X2++M++X1++y::Y2++B).set (a+(X1.length:Int)).toNat y=A++Y1++y::X2++M++X1++y::Y2++B:=by rw [e1,zh7 pa];simp
  have e3:A++Y1++y::X2++M++X1++y::Y2++B=(A++Y1++y::X2++M++X1)++y::(Y2++B):=by simp
  have pb':b+(X1.length:Int)=((A++Y1++y::X2++M++X1).length:Int):=by rw [pb];simp
  refine ⟨k+1,fun _=>⟨zh (by omega) (by omega),zh (by omega) (by omega),zh (by omega) (by omega),y,aty,zh (by omega) (by omega),x,atx,x,atx,y, ?_,zh (by omega) (by omega), ?_⟩,fun h=>absurd (by rw [hn];simp <;> omega) (df0 h)⟩
  ·rw [s1,e3];exact zim pb'
  ·rw [s1,e3,zh7 pb'];simpa using hk
 | [],_::_,_,_,h,_,_,_,_,_,_=>by simp at h
 | _::_,[],_,_,h,_,_,_,_,_,_=>by simp at h
theorem swap_in {A X M Y B:List Cl} {a b n:Int} {cmp:Cl × Cl × Int→Prop} (ha:a=(A.length:Int)) (hb:b=((A.length+X.length+M.length:Nat):Int)) (hn:n=(X.length:Int)) (hxy:X.length=Y.length) (hl:(A++X++M++Y++B).length<4611686018427387904):
  zi (A++X++M++Y++B) a b n cmp (A++Y++M++X++B):=by
 have:=swap_l1 (A:=A) (M:=M) (B:=B) (a:=a) (b:=b) (n:=n) (X:=zi.j1 (A++Y++M++X++B)) X Y [] [] hxy rfl ha (by rw [hb];simp) (by rw [hn];simp) (by simpa using hl) rfl;unfold zi;simpa using this
theorem rot_in {A X Y B:List Cl} {a m b:Int} {cmp:Cl × Cl × Int→Prop} (ha:a=(A.length:Int)) (hm:m=((A.length+X.length:Nat):Int)) (hb:b=((A.length+X.length+Y.length:Nat):Int)) (hX:X≠[]) (hY:Y≠[]) (hl:(A++X++Y++B).length<4611686018427387904):
  zm (A++X++Y++B) a m b cmp (A++Y++X++B):=by
 have hl':A.length+X.length+Y.length+B.length<4611686018427387904:=by simp at hl;omega
 refine ⟨zh (by omega) (by omega),zh (by omega) (by omega), ?_⟩;have key:∀(f:Nat) (L X' Y' R:List Cl),X'.length+Y'.length≤f→X'≠[]→Y'≠[]→A.length+L.length+X'.length=A.length+X.length→L++Y'++X'++R=Y++X →
   ∃k,zm.l1 m cmp (zm.j1 m cmp (A++Y++X++B)) k (A++L++X'++Y'++R++B) (X'.length:Int) (Y'.length:Int):=by
  intro f
  induction f with
  | zero=>intro L X' Y' R hf hx;exact absurd (List.eq_nil_of_length_eq_zero (by omega)) hx
  | succ f ih=>
   intro L X' Y' R hf hx hy hmid heq;have hx':0<X'.length:=List.length_pos_iff.2 hx;have hy':0<Y'.length:=List.length_pos_iff.2 hy;have hle:=congrArg List.length heq;simp at hle
   by_cases hlt:Y'.length<X'.length
   ·obtain ⟨X1,X2,rfl,hX1⟩:=zfr X' (Nat.le_of_lt hlt);have hX2:X2≠[]:=by rintro rfl;simp at hlt;omega
    have hX2':0<X2.length:=List.length_pos_iff.2 hX2;simp at hle hmid hf hlt;obtain ⟨k,hk⟩:=ih (L++Y') X2 X1 R (by omega) hX2 (by rintro rfl;simp at hX1;omega) (by first | omega | (simp;omega)) (by simpa using heq);refine ⟨k+1,fun _=>⟨fun _=>⟨zh (by first | omega | (simp;omega)) (by first | omega | (simp;omega)),A++L++Y'++X2++X1++(R++B), ?_,zh (by first | omega | (simp;omega)) (by first | omega | (simp;omega)), ?_⟩,fun h=>absurd (by simp;omega) (df0 h)⟩,fun h=>by simp at h;omega⟩
    ·have:=swap_in (cmp:=cmp) (A:=A++L) (X:=X1) (M:=X2) (Y:=Y') (B:=R++B) (a:=m-((X1++X2).length:Int)) (b:=m) (n:=(Y'.length:Int)) (by rw [hm];simp;omega) (by rw [hm];simp;omega) (by omega) (by omega) (by simp;omega);simpa using this
    ·have e:(((X1++X2).length:Nat):Int)-(Y'.length:Int)=(X2.length:Int):=by simp;omega
     rw [e,← hX1];simpa using hk
   ·by_cases heq2:X'.length=Y'.length
    ·refine ⟨1,fun h=>?_,fun _=>⟨zh (by first | omega | (simp;omega)) (by first | omega | (simp;omega)),A++L++Y'++X'++R++B, ?_, ?_⟩⟩
     ·simp at h;omega
     ·have:=swap_in (cmp:=cmp) (A:=A++L) (X:=X') (M:=[]) (Y:=Y') (B:=R++B) (a:=m-(X'.length:Int)) (b:=m) (n:=(X'.length:Int)) (by rw [hm];simp;omega) (by rw [hm];simp;omega) rfl heq2 (by simp;omega);simpa using this
     ·have:A++(Y++X)++B=A++(L++Y'++X'++R)++B:=by rw [heq]
      simpa using this
    ·have hlt2:X'.length<Y'.length:=by omega
     obtain ⟨Y1,Y2,rfl,hY1⟩:=zfr Y' (show Y'.length-X'.length≤Y'.length by omega);have hY2:Y2.length=X'.length:=by simp at hY1 hlt2;omega
     have hY1':Y1≠[]:=by rintro rfl;simp at hY1 hlt2;omega
     simp at hle hmid hf hlt2;obtain ⟨k,hk⟩:=ih L Y2 Y1 (X'++R) (by omega) (by rintro rfl;simp at hY2;omega) hY1' (by omega) (by simpa using heq);refine ⟨k+1,fun _=>⟨fun h=>absurd (dt0 h) (by simp;omega),fun _=>⟨zh (by omega) (by omega),zh (by first | omega | (simp;omega)) (by first | omega | (simp;omega)),zh (by first | omega | (simp;omega)) (by first | omega | (simp;omega)),A++L++Y2++Y1++X'++(R++B), ?_,zh (by first | omega | (simp;omega)) (by first | omega | (simp;omega)), ?_⟩⟩,fun h=>by simp at h;omega⟩
     ·have:=swap_in (cmp:=cmp) (A:=A++L) (X:=X') (M:=Y1) (Y:=Y2) (B:=R++B) (a:=m-(X'.length:Int)) (b:=m+((Y1++Y2).length:Int)-(X'.length:Int)) (n:=(X'.length:Int)) (by rw [hm];simp;omega) (by rw [hm];simp;omega) rfl (by omega) (by simp;omega);simpa using this
     ·have e:(((Y1++Y2).length:Nat):Int)-(X'.length:Int)=(Y1.length:Int):=by simp;omega
      rw [e,← hY2];simpa using hk
 have:=key (X.length+Y.length) [] X Y [] (Nat.le_refl _) hX hY (by simp) (by simp);have e1:m-a=(X.length:Int):=by omega
 have e2:b-m=(Y.length:Int):=by omega
 rw [e1,e2];simpa using this
theorem at_app1 {A S B:List Cl} {c:Nat} (h1:A.length≤c) (h2:c<A.length+S.length):at? (A++S++B) (c:Int)=some (S[c-A.length]'(by omega)):=by
 rw [zbq,List.append_assoc,List.getElem?_append_right h1,List.getElem?_append_left (by omega),List.getElem?_eq_getElem (by omega)]
theorem zp2 {key:Cl→Int} {S:List Cl} (h:Srt key S) {i j:Nat} (hij:i≤j) (hj:j<S.length):key (S[i]'(by omega))≤key S[j]:=by
 rcases Nat.lt_or_ge i j with hlt | hge
 ·exact List.pairwise_iff_getElem.1 h i j (by omega) hj hlt
 ·have:i=j:=by omega
  subst this;exact Int.le_refl _
theorem sm_l1 {A B:List Cl} {x:Cl} {i:Int} {X:List Cl→Prop}:∀(Y2 Y1:List Cl),i=((A.length+Y1.length+Y2.length:Nat):Int)+1→(A++Y1++x::Y2++B).length<4611686018427387904→X (A++(Y1++Y2)++x::B) →
  ∃k,za.l1 i X k (A++Y1++x::Y2++B) ((A.length+Y1.length:Nat):Int)
 | [],Y1,hi,hl,hX=>by
  have hl':A.length+Y1.length<4611686018427387904:=by simp at hl;omega
  exact ⟨1,zh (by simp at hi;omega) (by simp at hi;omega),fun h=>absurd (dt0 h) (by simp at hi;omega),fun _=>by simpa using hX⟩
 | y::Y2,Y1,hi,hl,hX=>by
  have hl':A.length+Y1.length+Y2.length+1<4611686018427387904:=by simp at hl;omega
  have hi':=hi;simp at hi';obtain ⟨k,hk⟩:=sm_l1 (A:=A) (B:=B) (x:=x) (i:=i) (X:=X) Y2 (Y1++[y]) (by rw [hi];simp;omega) (by simp at hl ⊢;omega) (by simpa using hX);have e1:A++Y1++x::(y::Y2)++B=(A++Y1)++x::(y::Y2++B):=by simp
  have e2:A++Y1++x::(y::Y2)++B=(A++Y1++[x])++y::(Y2++B):=by simp
  have p1:((A.length+Y1.length:Nat):Int)=((A++Y1).length:Int):=by simp
  have p2:((A.length+Y1.length:Nat):Int)+1=((A++Y1++[x]).length:Int):=by simp;omega
  have a1:at? (A++Y1++x::(y::Y2)++B) ((A.length+Y1.length:Nat):Int)=some x:=by rw [e1];exact zim p1
  have a2:at? (A++Y1++x::(y::Y2)++B) (((A.length+Y1.length:Nat):Int)+1)=some y:=by rw [e2];exact zim p2
  have s1:(A++Y1++x::(y::Y2)++B).set ((A.length+Y1.length:Nat):Int).toNat y=(A++Y1++[y])++y::(Y2++B):=by rw [e1,zh7 p1];simp
  have p2':((A.length+Y1.length:Nat):Int)+1=((A++Y1++[y]).length:Int):=by simp;omega
  refine ⟨k+1,zh (by omega) (by omega),fun _=>⟨zh (by omega) (by omega),zh (by omega) (by omega),y,a2,x,a1,x,a1,y, ?_,zh (by omega) (by omega), ?_⟩,fun h=>absurd (by omega) (df0 h)⟩
  ·rw [s1];exact zim p2'
  ·rw [s1,zh7 p2'];have p3:((A.length+(Y1++[y]).length:Nat):Int)=((A.length+Y1.length:Nat):Int)+1:=by simp;omega
   rw [p3] at hk;simpa using hk
theorem sm_l3 {A B:List Cl} {x:Cl} {i:Int} {X:List Cl→Prop}:∀(m:Nat) (Y1 Y2:List Cl),Y1.length=m→i=(A.length:Int)→(A++Y1++x::Y2++B).length<4611686018427387904→X (A++x::(Y1++Y2)++B) →
  ∃k,za.l3 i X k (A++Y1++x::Y2++B) ((A.length+Y1.length:Nat):Int):=by
 intro m
 induction m with
 | zero=>
  intro Y1 Y2 hm hi hl hX;have:=List.eq_nil_of_length_eq_zero hm;subst this;exact ⟨1,fun h=>absurd (dt0 h) (by rw [hi];simp),fun _=>by simpa using hX⟩
 | succ m ih=>
  intro Y1 Y2 hm hi hl hX;obtain ⟨Y1,y,rfl⟩:=snoc_of (l:=Y1) (by rintro rfl;simp at hm);have hl':A.length+Y1.length+Y2.length+1<4611686018427387904:=by simp at hl;omega
  obtain ⟨k,hk⟩:=ih Y1 (y::Y2) (by simpa using hm) hi (by simp at hl ⊢;omega) (by simpa using hX);have e1:A++(Y1++[y])++x::Y2++B=(A++Y1)++y::(x::Y2++B):=by simp
  have e2:A++(Y1++[y])++x::Y2++B=(A++Y1++[y])++x::(Y2++B):=by simp
  have p2:((A.length+(Y1++[y]).length:Nat):Int)=((A++Y1++[y]).length:Int):=by simp
  have p1:((A.length+(Y1++[y]).length:Nat):Int)-1=((A++Y1).length:Int):=by simp;omega
  have a2:at? (A++(Y1++[y])++x::Y2++B) ((A.length+(Y1++[y]).length:Nat):Int)=some x:=by rw [e2];exact zim p2
  have a1:at? (A++(Y1++[y])++x::Y2++B) (((A.length+(Y1++[y]).length:Nat):Int)-1)=some y:=by rw [e1];exact zim p1
  have s1:(A++(Y1++[y])++x::Y2++B).set ((A.length+(Y1++[y]).length:Nat):Int).toNat y=(A++Y1)++y::(y::Y2++B):=by rw [e2,zh7 p2];simp
  refine ⟨k+1,fun _=>⟨zh (by simp;omega) (by simp;omega),zh (by simp;omega) (by simp;omega),y,a1,x,a2,x,a2,y, ?_,zh (by simp;omega) (by simp;omega), ?_⟩,fun h=>absurd (by rw [hi];simp;omega) (df0 h)⟩
  ·rw [s1];exact zim p1
  ·rw [s1,zh7 p1,p1,show (((A++Y1).length:Nat):Int)=((A.length+Y1.length:Nat):Int) by simp];simpa using hk
theorem at_gd {A S B:List Cl} {c:Nat} (h1:A.length≤c) (h2:c<A.length+S.length):at? (A++S++B) (c:Int)=some (S.getD (c-A.length) 0#256):=by
 rw [at_app1 h1 h2,List.getD,List.getElem?_eq_getElem (by omega)];rfl
theorem gd_le {key:Cl→Int} {S:List Cl} (h:Srt key S) {i j:Nat} (hij:i≤j) (hj:j<S.length):key (S.getD i 0#256)≤key (S.getD j 0#256):=by
 have:=zp2 h hij hj;rw [List.getD,List.getD,List.getElem?_eq_getElem (by omega),List.getElem?_eq_getElem hj];exact this
theorem getD_l {X Y:List Cl} {q:Nat} (h:q<X.length):(X++Y).getD q 0#256=X[q]:=by
 rw [List.getD,List.getElem?_append_left h,List.getElem?_eq_getElem h];rfl
theorem getD_r {X Y:List Cl} {q:Nat} (h:q<Y.length):(X++Y).getD (X.length+q) 0#256=Y[q]:=by
 rw [List.getD,List.getElem?_append_right (by omega),Nat.add_sub_cancel_left,List.getElem?_eq_getElem h];rfl
theorem sym_j7 {key:Cl→Int} {cmp:Cl × Cl × Int→Prop} {f:Nat} {A S1 S2 T1 T2 B:List Cl}
  (ih:∀(A S T B:List Cl),S.length+T.length≤f→S≠[]→T≠[]→Srt key S→Srt key T→(A++S++T++B).length<4611686018427387904 →
   za.n f (A++S++T++B) (A.length:Int) ((A.length+S.length:Nat):Int) ((A.length+S.length+T.length:Nat):Int) cmp (A++srt key (S++T)++B))
  (hS:Srt key (S1++S2)) (hT:Srt key (T1++T2)) (hlen:(A++(S1++S2)++(T1++T2)++B).length<4611686018427387904) (h1:∀t∈T1,∀s∈S2,key t<key s) (h2:∀s∈S1,∀t∈T2,key s≤key t)
  {st mid m b:Int} (hst:st=((A.length+S1.length:Nat):Int)) (hmid:mid=((A.length+S1.length+T1.length:Nat):Int)) (hm:m=((A.length+S1.length+S2.length:Nat):Int)) (hb:b=((A.length+S1.length+S2.length+T1.length+T2.length:Nat):Int))
  (hf1:S1.length+T1.length≤f) (hf2:S2.length+T2.length≤f):
  za.j7 (za.n f) (A++(S1++S2)++(T1++T2)++B) (A.length:Int) m b cmp (A++srt key ((S1++S2)++(T1++T2))++B) mid st:=by
 have hl:A.length+S1.length+S2.length+T1.length+T2.length+B.length<4611686018427387904:=by simp at hlen;omega
 obtain ⟨hS1,hS2,hSS⟩:=Srt.app.1 hS;obtain ⟨hT1,hT2,hTT⟩:=Srt.app.1 hT;have hres:srt key ((S1++S2)++(T1++T2))=srt key (S1++T1)++srt key (S2++T2):=by
  refine (zij (Srt.app.2 ⟨zit _ _,zit _ _,fun x hx y hy=>?_⟩) ?_).symm
  ·have hx':=(zgo key (S1++T1)).perm.mem_iff.2 hx;have hy':=(zgo key (S2++T2)).perm.mem_iff.2 hy;rcases List.mem_append.1 hx' with hx1 | hx1 <;> rcases List.mem_append.1 hy' with hy1 | hy1
   ·exact hSS x hx1 y hy1
   ·exact h2 x hx1 y hy1
   ·exact Int.le_of_lt (h1 x hx1 y hy1)
   ·exact hTT x hx1 y hy1
  ·have e1:SEq key (S2++T1) (T1++S2):=zjh fun x hx y hy=>by have:=h1 y hy x hx;omega
   have e2:=(SEq.refl key S1).app (e1.app (SEq.refl key T2));have e3:=(zgo key (S1++T1)).app (zgo key (S2++T2));exact SEq.trans (by simpa using e2) (by simpa using e3)
 rw [hres];have hj5:za.j5 (za.n f) m b cmp (A++(srt key (S1++T1)++srt key (S2++T2))++B) mid st (A++srt key (S1++T1)++S2++T2++B):=by
  refine ⟨_,rfl,fun h=>?_,fun h=>?_⟩
  ·simp only [Bool.and_eq_true,decide_eq_true_eq] at h;have hS2n:S2≠[]:=by rintro rfl;simp at hm;omega
   have hT2n:T2≠[]:=by rintro rfl;simp at hb;omega
   have:=ih (A++srt key (S1++T1)) S2 T2 B hf2 hS2n hT2n hS2 hT2 (by simp [zhb];omega);refine ⟨_, ?_,rfl⟩;have e1:(((A++srt key (S1++T1)).length:Nat):Int)=mid:=by rw [hmid];simp [zhb];omega
   have e2:(((A++srt key (S1++T1)).length+S2.length:Nat):Int)=mid+m-st:=by rw [hmid,hm,hst];simp [zhb];omega
   have e3:(((A++srt key (S1++T1)).length+S2.length+T2.length:Nat):Int)=b:=by rw [hb];simp [zhb];omega
   rw [e1,e2,e3] at this;simpa using this
  ·have:S2=[]∨T2=[]:=by
    simp only [Bool.and_eq_false_iff,decide_eq_false_iff_not] at h;rcases h with h | h
    ·left;exact List.eq_nil_of_length_eq_zero (by omega)
    ·right;exact List.eq_nil_of_length_eq_zero (by omega)
   have e:srt key (S2++T2)=S2++T2:=by
    rcases this with rfl | rfl
    ·exact (zij (by simpa using hT2) (SEq.refl _ _)).symm
    ·exact (zij (by simpa using hS2) (SEq.refl _ _)).symm
   rw [e];simp
 have hj6:za.j6 (za.n f) (A.length:Int) m b cmp (A++(srt key (S1++T1)++srt key (S2++T2))++B) mid st (A++S1++T1++S2++T2++B):=by
  refine ⟨_,rfl,fun h=>?_,fun h=>?_⟩
  ·simp only [Bool.and_eq_true,decide_eq_true_eq] at h;have hS1n:S1≠[]:=by rintro rfl;simp at hst;omega
   have hT1n:T1≠[]:=by rintro rfl;simp at hmid;omega
   have:=ih A S1 T1 (S2++T2++B) hf1 hS1n hT1n hS1 hT1 (by simp;omega);refine ⟨A++srt key (S1++T1)++S2++T2++B, ?_,hj5⟩;rw [← hst,← hmid] at this;simpa using this
  ·have:S1=[]∨T1=[]:=by
    simp only [Bool.and_eq_false_iff,decide_eq_false_iff_not] at h;rcases h with h | h
    ·left;exact List.eq_nil_of_length_eq_zero (by omega)
    ·right;exact List.eq_nil_of_length_eq_zero (by omega)
   have e:srt key (S1++T1)=S1++T1:=by
    rcases this with rfl | rfl
    ·exact (zij (by simpa using hT1) (SEq.refl _ _)).symm
    ·exact (zij (by simpa using hS1) (SEq.refl _ _)).symm
   rw [e] at hj5 ⊢;simpa using hj5
 refine ⟨zh (by omega) (by omega),_,rfl,fun h=>?_,fun h=>?_⟩
 ·simp only [Bool.and_eq_true,decide_eq_true_eq] at h;have hS2n:S2≠[]:=by rintro rfl;simp at hm;omega
  have hT1n:T1≠[]:=by rintro rfl;simp at hmid;omega
  have:=rot_in (cmp:=cmp) (A:=A++S1) (X:=S2) (Y:=T1) (B:=T2++B) (a:=st) (m:=m) (b:=mid+m-st) (by rw [hst];simp) (by rw [hm];simp) (by rw [hmid,hm,hst];simp;omega) hS2n hT1n (by simp;omega);refine ⟨A++S1++T1++S2++T2++B, ?_,hj6⟩;simpa using this
 ·have:S2=[]∨T1=[]:=by
   simp only [Bool.and_eq_false_iff,decide_eq_false_iff_not] at h;rcases h with h | h
   ·left;exact List.eq_nil_of_length_eq_zero (by omega)
   ·right;exact List.eq_nil_of_length_eq_zero (by omega)
  have e:A++(S1++S2)++(T1++T2)++B=A++S1++T1++S2++T2++B:=by
   rcases this with rfl | rfl <;> simp
  rw [e];exact hj6
theorem sym_n {key:Cl→Int} {cmp:Cl × Cl × Int→Prop} (hc:zsm key cmp):∀(f:Nat) (A S T B:List Cl),S.length+T.length≤f→S≠[]→T≠[]→Srt key S→Srt key T→(A++S++T++B).length<4611686018427387904 →
  za.n f (A++S++T++B) (A.length:Int) ((A.length+S.length:Nat):Int) ((A.length+S.length+T.length:Nat):Int) cmp (A++srt key (S++T)++B):=by
 intro f
 induction f with
 | zero=>intro A S T B hf hS;exact absurd (List.eq_nil_of_length_eq_zero (by omega)) hS
 | succ f ih=>
  intro A S T B hf hSn hTn hS hT hlen;have hl:A.length+S.length+T.length+B.length<4611686018427387904:=by simp at hlen;omega
  have hs0:0<S.length:=List.length_pos_iff.2 hSn;have ht0:0<T.length:=List.length_pos_iff.2 hTn;have atS:∀c:Nat,A.length≤c→c<A.length+S.length→at? (A++S++T++B) (c:Int)=some (S.getD (c-A.length) 0#256):=fun c h1 h2=>by
   rw [show A++S++T++B=A++S++(T++B) by simp];exact at_gd h1 h2
  have atT:∀c:Nat,A.length+S.length≤c→c<A.length+S.length+T.length→at? (A++S++T++B) (c:Int)=some (T.getD (c-(A.length+S.length)) 0#256):=fun c h1 h2=>by
   have:=at_gd (A:=A++S) (S:=T) (B:=B) (c:=c) (by simp;omega) (by simp;omega);simpa using this
  refine ⟨zh (by omega) (by omega),fun h1=>?_,fun h1=>⟨zh (by omega) (by omega),fun h2=>?_,fun h2=>⟨zh (by omega) (by omega), ?_⟩⟩⟩
  ·-- one thing ahead
   have hs1:S.length=1:=by simp at h1;omega
   obtain ⟨x,rfl⟩:=List.length_eq_one_iff.1 hs1;refine bsearch (P:=fun k i j=>za.l2 (A++[x]++T++B) (A.length:Int) cmp _ k i j) (fun c=>decide (key (T.getD (c-(A.length+1)) 0#256)<key x)) (A.length+1) (A.length+1+T.length) (fun c d h1 h2 h3 h4=>?_) (fun k i j h1 h2 h3=>?_) (fun k i h1 h2 h3 h4=>?_) (by omega)
   ·have:=gd_le hT (i:=c-(A.length+1)) (j:=d-(A.length+1)) (by omega) (by omega);simp only [decide_eq_true_eq] at h4 ⊢;omega
   ·have hat:=atT ((i+j) / 2) (by simp;omega) (by simp;omega);have hax:=atS A.length (Nat.le_refl _) (by simp);have hh:∀(p:Prop),(((decide ((i:Int)<(j:Int)))=true→InR .i64 ((i:Int)+j)∧∃i42:Int,i42=(IntKind.wrap .i64 (zp4 (IntKind.wrap .u64 ((i:Int)+j)) 1))∧∃e45:Cl,at? (A++[x]++T++B) i42=some e45∧∃e47:Cl,at? (A++[x]++T++B) (A.length:Int)=some e47∧∃r49:Int,cmp (e45,e47,r49)∧p)→True):=fun _ _=>trivial;constructor
    ·intro hp hk;refine ⟨fun _=>⟨zh (by omega) (by omega),_,rfl,T.getD ((i+j) / 2-(A.length+1)) 0#256, ?_,x,by simpa using hax,_,hc _ _,fun _=>⟨?_, ?_⟩,fun h=>?_⟩,fun h=>absurd (by omega) (df0 h)⟩
     ·rw [zf6 (by omega) (by omega),show ((i:Int)+j) / 2=(((i+j) / 2:Nat):Int) by omega];simpa using hat
     ·rw [zf6 (by omega) (by omega)];exact zh (by omega) (by omega)
     ·rw [zf6 (by omega) (by omega),show ((i:Int)+j) / 2+1=(((i+j) / 2+1:Nat):Int) by omega];exact hk
     ·exfalso;simp at h hp;omega
    ·intro hp hk;refine ⟨fun _=>⟨zh (by omega) (by omega),_,rfl,T.getD ((i+j) / 2-(A.length+1)) 0#256, ?_,x,by simpa using hax,_,hc _ _,fun h=>?_,fun _=>?_⟩,fun h=>absurd (by omega) (df0 h)⟩
     ·rw [zf6 (by omega) (by omega),show ((i:Int)+j) / 2=(((i+j) / 2:Nat):Int) by omega];simpa using hat
     ·exfalso;simp at h hp;omega
     ·rw [zf6 (by omega) (by omega),show ((i:Int)+j) / 2=(((i+j) / 2:Nat):Int) by omega];exact hk
   ·refine ⟨fun h=>absurd (dt0 h) (by omega),fun _=>?_⟩;obtain ⟨T1,T2,rfl,hT1⟩:=zfr T (show i-(A.length+1)≤T.length by omega);have hlt:∀y∈T1,key y<key x:=fun y hy=>by
     obtain ⟨q,hq,rfl⟩:=List.mem_iff_getElem.1 hy;have:=h3 (A.length+1+q) (by omega) (by omega);rw [show A.length+1+q-(A.length+1)=q by omega,getD_l hq] at this;exact of_decide_eq_true this
    have hge:∀y∈T2,key x≤key y:=fun y hy=>by
     obtain ⟨q,hq,rfl⟩:=List.mem_iff_getElem.1 hy;have:=h4 (A.length+1+T1.length+q) (by omega) (by simp;omega);rw [show A.length+1+T1.length+q-(A.length+1)=T1.length+q by omega,getD_r hq] at this;have:=of_decide_eq_false this;omega
    have hres:srt key ([x]++(T1++T2))=T1++x::T2:=by
     refine (zij (Srt.app.2 ⟨(Srt.app.1 hT).1,Srt.cons.2 ⟨hge,(Srt.app.1 hT).2.1⟩,fun p hp q hq=>?_⟩) ?_).symm
     ·rcases List.mem_cons.1 hq with rfl | hq
      ·exact Int.le_of_lt (hlt p hp)
      ·exact (Srt.app.1 hT).2.2 p hp q hq
     ·have e1:SEq key ([x]++T1) (T1++[x]):=zjh fun a ha b hb=>by simp at ha;subst ha;have:=hlt b hb;omega
      simpa using e1.app (SEq.refl key T2)
    rw [hres];have:=sm_l1 (A:=A) (B:=T2++B) (x:=x) (i:=(i:Int)) (X:=za.j1 (A++(T1++x::T2)++B)) T1 [] (by simp;omega) (by simp at hl ⊢;omega) (by simp [za.j1]);show ∃k15,za.l1 (i:Int) _ k15 _ _;simpa using this
  ·-- one thing behind
   have ht1:T.length=1:=by simp at h2;omega
   obtain ⟨y,rfl⟩:=List.length_eq_one_iff.1 ht1;refine bsearch (P:=fun k i j=>za.l4 (A++S++[y]++B) ((A.length+S.length:Nat):Int) cmp _ k i j) (fun c=>!decide (key y<key (S.getD (c-A.length) 0#256))) A.length (A.length+S.length) (fun c d h1 h2 h3 h4=>?_) (fun k i j h1 h2 h3=>?_) (fun k i h1 h2 h3 h4=>?_) (by omega)
   ·have:=gd_le hS (i:=c-A.length) (j:=d-A.length) (by omega) (by omega);simp only [Bool.not_eq_true',decide_eq_false_iff_not] at h4 ⊢;omega
   ·have hat:=atS ((i+j) / 2) (by omega) (by omega);have hay:=atT (A.length+S.length) (Nat.le_refl _) (by simp);constructor
    ·intro hp hk;refine ⟨fun _=>⟨zh (by omega) (by omega),_,rfl,y,by simpa using hay,S.getD ((i+j) / 2-A.length) 0#256, ?_,_,hc _ _,fun _=>⟨?_, ?_⟩,fun h=>?_⟩,fun h=>absurd (by omega) (df0 h)⟩
     ·rw [zf6 (by omega) (by omega),show ((i:Int)+j) / 2=(((i+j) / 2:Nat):Int) by omega];exact hat
     ·rw [zf6 (by omega) (by omega)];exact zh (by omega) (by omega)
     ·rw [zf6 (by omega) (by omega),show ((i:Int)+j) / 2+1=(((i+j) / 2+1:Nat):Int) by omega];exact hk
     ·exfalso;simp only [Bool.not_eq_true',Bool.not_eq_false',decide_eq_true_eq,decide_eq_false_iff_not] at h hp;omega
    ·intro hp hk;refine ⟨fun _=>⟨zh (by omega) (by omega),_,rfl,y,by simpa using hay,S.getD ((i+j) / 2-A.length) 0#256, ?_,_,hc _ _,fun h=>?_,fun _=>?_⟩,fun h=>absurd (by omega) (df0 h)⟩
     ·rw [zf6 (by omega) (by omega),show ((i:Int)+j) / 2=(((i+j) / 2:Nat):Int) by omega];exact hat
     ·exfalso;simp only [Bool.not_eq_true',Bool.not_eq_false',decide_eq_true_eq,decide_eq_false_iff_not] at h hp;omega
     ·rw [zf6 (by omega) (by omega),show ((i:Int)+j) / 2=(((i+j) / 2:Nat):Int) by omega];exact hk
   ·refine ⟨fun h=>absurd (dt0 h) (by omega),fun _=>?_⟩;obtain ⟨S1,S2,rfl,hS1⟩:=zfr S (show i-A.length≤S.length by omega);have hle:∀x∈S1,key x≤key y:=fun x hx=>by
     obtain ⟨q,hq,rfl⟩:=List.mem_iff_getElem.1 hx;have:=h3 (A.length+q) (by omega) (by omega);rw [show A.length+q-A.length=q by omega,getD_l hq] at this;simp only [Bool.not_eq_true',decide_eq_false_iff_not] at this;omega
    have hgt:∀x∈S2,key y<key x:=fun x hx=>by
     obtain ⟨q,hq,rfl⟩:=List.mem_iff_getElem.1 hx;have:=h4 (A.length+S1.length+q) (by omega) (by simp;omega);rw [show A.length+S1.length+q-A.length=S1.length+q by omega,getD_r hq] at this;simpa using this
    have hres:srt key ((S1++S2)++[y])=S1++y::S2:=by
     refine (zij (Srt.app.2 ⟨(Srt.app.1 hS).1,Srt.cons.2 ⟨fun q hq=>Int.le_of_lt (hgt q hq),(Srt.app.1 hS).2.1⟩,fun p hp q hq=>?_⟩) ?_).symm
     ·rcases List.mem_cons.1 hq with rfl | hq
      ·exact hle p hp
      ·exact (Srt.app.1 hS).2.2 p hp q hq
     ·have e1:SEq key (S2++[y]) ([y]++S2):=zjh fun a ha b hb=>by simp at hb;subst hb;have:=hgt a ha;omega
      simpa using (SEq.refl key S1).app e1
    rw [hres];have:=sm_l3 (A:=A++S1) (B:=B) (x:=y) (i:=(i:Int)) (X:=za.j3 (A++(S1++y::S2)++B)) S2.length S2 [] rfl (by simp;omega) (by simp at hl ⊢;omega) (by simp [za.j3]);show ∃k66,za.l3 (i:Int) _ k66 _ _;have e:(((A++S1).length+S2.length:Nat):Int)=((A.length+(S1++S2).length:Nat):Int):=by simp;omega
    rw [e] at this;simpa using this
  ·-- both longer
   have hs2:2≤S.length:=by simp at h1;omega
   have ht2:2≤T.length:=by simp at h2;omega
   obtain ⟨mid,hmid⟩:∃mid:Nat,mid=(A.length+(A.length+S.length+T.length)) / 2:=⟨_,rfl⟩;have hmidI:IntKind.wrap .i64 (zp4 (IntKind.wrap .u64 ((A.length:Int)+((A.length+S.length+T.length:Nat):Int))) 1)=(mid:Int):=by
    rw [zf6 (by omega) (by omega)];omega
   refine ⟨_,rfl, ?_⟩;rw [hmidI];have main:∀(lo hi:Nat),(lo=A.length∨lo+(A.length+S.length+T.length)=mid+(A.length+S.length))→A.length≤lo→mid+(A.length+S.length)≤lo+(A.length+S.length+T.length)→(hi=mid∨hi=A.length+S.length)→hi≤mid→hi≤A.length+S.length→lo≤hi →
     za.j8 (za.n f) (A++S++T++B) (A.length:Int) ((A.length+S.length:Nat):Int) ((A.length+S.length+T.length:Nat):Int) cmp (A++srt key (S++T)++B) (mid:Int) (lo:Int) (hi:Int):=by
    intro lo hi hlo hla hlb hhi hhm hhs hle;refine ⟨zh (by omega) (by omega), ?_⟩;refine bsearch (P:=fun k i j=>za.l5 (A++S++T++B) ((A.length+S.length:Nat):Int) cmp (mid:Int) _ k i j) (fun c=>!decide (key (T.getD (mid-1-c) 0#256)<key (S.getD (c-A.length) 0#256))) lo hi (fun c d h1 h2 h3 h4=>?_) (fun k i j h1 h2 h3=>?_) (fun k st h1 h2 h3 h4=>?_) hle
    ·have e1:=gd_le hS (i:=c-A.length) (j:=d-A.length) (by omega) (by omega);have e2:=gd_le hT (i:=mid-1-d) (j:=mid-1-c) (by omega) (by omega);simp only [Bool.not_eq_true',decide_eq_false_iff_not] at h4 ⊢;omega
    ·have hat:=atS ((i+j) / 2) (by omega) (by omega);have hay:=atT (mid+(A.length+S.length)-1-(i+j) / 2) (by omega) (by omega);rw [show mid+(A.length+S.length)-1-(i+j) / 2-(A.length+S.length)=mid-1-(i+j) / 2 by omega] at hay;have hpc:(mid:Int)+((A.length+S.length:Nat):Int)-1-(((i+j) / 2:Nat):Int)=((mid+(A.length+S.length)-1-(i+j) / 2:Nat):Int):=by omega
     have hh:IntKind.wrap .i64 (zp4 (IntKind.wrap .u64 ((i:Int)+(j:Int))) 1)=(((i+j) / 2:Nat):Int):=by rw [zf6 (by omega) (by omega)];omega
     constructor
     ·intro hp hk;refine ⟨fun _=>⟨zh (by omega) (by omega),_,rfl, ?_⟩,fun h=>absurd (by omega) (df0 h)⟩;rw [hh,hpc];refine ⟨zh (by omega) (by omega),_,hay,_,hat,_,hc _ _,fun _=>⟨zh (by omega) (by omega),by simpa using hk⟩,fun h=>?_⟩;exfalso;simp only [Bool.not_eq_true',Bool.not_eq_false',decide_eq_true_eq,decide_eq_false_iff_not] at h hp;omega
     ·intro hp hk;refine ⟨fun _=>⟨zh (by omega) (by omega),_,rfl, ?_⟩,fun h=>absurd (by omega) (df0 h)⟩;rw [hh,hpc];refine ⟨zh (by omega) (by omega),_,hay,_,hat,_,hc _ _,fun h=>?_,fun _=>hk⟩;exfalso;simp only [Bool.not_eq_true',Bool.not_eq_false',decide_eq_true_eq,decide_eq_false_iff_not] at h hp;omega
    ·refine ⟨fun h=>absurd (dt0 h) (by omega),fun _=>?_⟩;obtain ⟨S1,S2,rfl,hS1⟩:=zfr S (show st-A.length≤S.length by omega);obtain ⟨T1,T2,rfl,hT1⟩:=zfr T (show mid-st≤T.length by omega);simp only [List.length_append] at hmid hs2 ht2 hlo hla hlb hhi hhm hhs hf hl hS1 hT1 ⊢;refine sym_j7 (key:=key) ih hS hT hlen (fun t ht s hs=>?_) (fun s hs t ht=>?_) (by omega) (by omega) (by omega) (by omega) (by omega) (by omega)
     ·-- what stands ahead of the middle behind is less
      have hs2:0<S2.length:=List.length_pos_iff.2 (List.ne_nil_of_mem hs);have ht1:0<T1.length:=List.length_pos_iff.2 (List.ne_nil_of_mem ht);obtain ⟨q,hq,rfl⟩:=List.mem_iff_getElem.1 ht;obtain ⟨r,hr,rfl⟩:=List.mem_iff_getElem.1 hs;have hp:=h4 st (Nat.le_refl _) (by omega);rw [show mid-1-st=T1.length-1 by omega,show st-A.length=S1.length+0 by omega,getD_l (by omega),getD_r hs2] at hp;have e1:=zp2 (Srt.app.1 hT).1 (i:=q) (j:=T1.length-1) (by omega) (by omega);have e2:=zp2 (Srt.app.1 hS).2.1 (i:=0) (j:=r) (by omega) hr;simp only [Bool.not_eq_false',decide_eq_true_eq] at hp;omega
     ·have hs1:0<S1.length:=List.length_pos_iff.2 (List.ne_nil_of_mem hs);have ht2:0<T2.length:=List.length_pos_iff.2 (List.ne_nil_of_mem ht);obtain ⟨q,hq,rfl⟩:=List.mem_iff_getElem.1 ht;obtain ⟨r,hr,rfl⟩:=List.mem_iff_getElem.1 hs;have hp:=h3 (st-1) (by omega) (by omega);rw [show mid-1-(st-1)=T1.length+0 by omega,show st-1-A.length=S1.length-1 by omega,getD_r ht2,getD_l (X:=S1) (q:=S1.length-1) (by omega)] at hp;have e1:=zp2 (Srt.app.1 hT).2.1 (i:=0) (j:=q) (by omega) hq;have e2:=zp2 (Srt.app.1 hS).1 (i:=r) (j:=S1.length-1) (by omega) (by omega);simp only [Bool.not_eq_true',decide_eq_false_iff_not] at hp;omega
   refine ⟨zh (by omega) (by omega),fun h=>⟨zh (by omega) (by omega), ?_⟩,fun h=>?_⟩
   ·have hlt:mid<A.length+S.length:=by have:=dt0 h;omega
    have:=main (mid+(A.length+S.length)-(A.length+S.length+T.length)) mid (by omega) (by omega) (by omega) (.inl rfl) (Nat.le_refl _) (by omega) (by omega);rw [show ((mid+(A.length+S.length)-(A.length+S.length+T.length):Nat):Int)=(mid:Int)+((A.length+S.length:Nat):Int)-((A.length+S.length+T.length:Nat):Int) by omega] at this;exact this
   ·have hge:¬ mid<A.length+S.length:=by have:=df0 h;omega
    exact main A.length (A.length+S.length) (.inl rfl) (Nat.le_refl _) (by omega) (.inr rfl) (by omega) (Nat.le_refl _) (by omega)
def BS (key:Cl→Int) (n:Nat) (l:List Cl):Prop:=∀(i j:Nat) (hj:j<l.length) (hi:i≤j),i / n=j / n→key (l[i]'(by omega))≤key l[j]
theorem BS.of_srt {key:Cl→Int} {n:Nat} {l:List Cl} (h:Srt key l):BS key n l:=fun i j hj hi _=>zp2 h hi hj
theorem BS.srt {key:Cl→Int} {n:Nat} {l:List Cl} (h:BS key n l) (hl:l.length≤n):Srt key l:=by
 refine List.pairwise_iff_getElem.2 fun i j hi hj hij=>h i j hj (Nat.le_of_lt hij) ?_;rw [Nat.div_eq_of_lt (by omega),Nat.div_eq_of_lt (by omega)]
theorem BS.app {key:Cl→Int} {n q:Nat} {P Q:List Cl} (hn:0<n) (hP:P.length=q*n) (h1:BS key n P) (h2:BS key n Q):BS key n (P++Q):=fun i j hj hi he=>by
 by_cases hjp:j<P.length
 ·rw [List.getElem_append_left (by omega),List.getElem_append_left hjp];exact h1 i j hjp hi he
 ·have hq:q≤j / n:=by rw [Nat.le_div_iff_mul_le hn];omega
  have hip:P.length≤i:=by
   rcases Nat.lt_or_ge i P.length with h | h
   ·have:i / n<q:=by rw [Nat.div_lt_iff_lt_mul hn];omega
    omega
   ·exact h
  rw [List.getElem_append_right hip,List.getElem_append_right (by omega)];refine h2 (i-P.length) (j-P.length) (by simp at hj;omega) (by omega) ?_;have e1:i=(i-P.length)+q*n:=by omega
  have e2:j=(j-P.length)+q*n:=by omega
  rw [e1,e2,Nat.add_mul_div_right _ _ hn,Nat.add_mul_div_right _ _ hn] at he;omega
theorem BS.left {key:Cl→Int} {n:Nat} {P Q:List Cl} (h:BS key n (P++Q)):BS key n P:=fun i j hj hi he=>by
 have:=h i j (by simp;omega) hi he
 rwa [List.getElem_append_left (by omega),List.getElem_append_left hj] at this
theorem BS.right {key:Cl→Int} {n q:Nat} {P Q:List Cl} (hn:0<n) (hP:P.length=q*n) (h:BS key n (P++Q)):BS key n Q:=fun i j hj hi he=>by
 have:=h (P.length+i) (P.length+j) (by simp;omega) (by omega) (by rw [hP,Nat.add_comm,Nat.add_comm (q*n) j,Nat.add_mul_div_right _ _ hn,Nat.add_mul_div_right _ _ hn,he]);rw [List.getElem_append_right (by omega),List.getElem_append_right (by omega)] at this;simpa using this
theorem sym_in {key:Cl→Int} {cmp:Cl × Cl × Int→Prop} (hc:zsm key cmp) {A S T B:List Cl} {a m b:Int} (ha:a=(A.length:Int)) (hm:m=((A.length+S.length:Nat):Int)) (hb:b=((A.length+S.length+T.length:Nat):Int)) (hS:S≠[]) (hT:T≠[]) (h1:Srt key S) (h2:Srt key T)
  (hl:(A++S++T++B).length<4611686018427387904):za (A++S++T++B) a m b cmp (A++srt key (S++T)++B):=by
 subst ha;subst hm;subst hb;exact ⟨_,sym_n hc _ A S T B (Nat.le_refl _) hS hT h1 h2 hl⟩
section
variable {key : Cl → Int} {cmp : Cl × Cl × Int → Prop} {xs : List Cl} {r : List Cl}
theorem st_l2 (hc:zsm key cmp) (hn:xs.length<1152921504606846976) {bs:Nat} (hbs:0<bs) (hbn:bs<xs.length) {L1:List Cl→Int→Prop} (hL:∀Q,BS key (2*bs) Q→SEq key xs Q→L1 Q ((bs:Int)*2)):
  ∀(f:Nat) (P R:List Cl) (q:Nat),R.length≤f→P.length=q*(2*bs)→BS key (2*bs) P→BS key bs R→SEq key xs (P++R) →
   ∃k,zb.l2 (xs.length:Int) cmp (bs:Int) (zb.j2 L1 (xs.length:Int) cmp (bs:Int)) k (P++R) (P.length:Int) ((P.length:Int)+2*(bs:Int)):=by
 intro f
 induction f with
 | zero=>
  intro P R q hf hP h1 h2 h3;have:=List.eq_nil_of_length_eq_zero (show R.length=0 by omega);subst this;have hl:=h3.length;simp at hl;refine ⟨1,fun h=>absurd (dt0 h) (by omega),fun _=>⟨zh (by omega) (by omega),fun h=>absurd (dt0 h) (by omega),fun _=>⟨zh (by omega) (by omega), ?_⟩⟩⟩;rw [List.append_nil] at h3 ⊢;exact hL P h1 h3
 | succ f ih=>
  intro P R q hf hP h1 h2 h3;have hl:=h3.length;simp at hl
  by_cases hle:P.length+2*bs≤xs.length
  ·obtain ⟨S,R1,rfl,hS⟩:=zfr R (show bs≤R.length by omega);simp at hl;obtain ⟨T,R2,rfl,hT⟩:=zfr R1 (show bs≤R1.length by omega);simp at hl hf;have hSs:=h2.left.srt (by omega);have h2':=BS.right hbs (q:=1) (by omega) h2;have hTs:=h2'.left.srt (by omega);have h2'':=BS.right hbs (q:=1) (by omega) h2';have hP2:(P++srt key (S++T)).length=(q+1)*(2*bs):=by simp [zhb,hP,Nat.add_mul];omega
   obtain ⟨k,hk⟩:=ih (P++srt key (S++T)) R2 (q+1) (by omega) hP2 (BS.app (by omega) hP h1 (BS.of_srt (zit _ _))) h2'' (h3.trans (by
    have:=(SEq.refl key P).app ((zgo key (S++T)).app (SEq.refl key R2));simpa using this))
   refine ⟨k+1,fun _=>⟨zh (by omega) (by omega),P++srt key (S++T)++R2, ?_,zh (by omega) (by omega),zh (by omega) (by omega), ?_⟩,fun h=>absurd (by omega) (df0 h)⟩
   ·have:=sym_in hc (A:=P) (S:=S) (T:=T) (B:=R2) (a:=(P.length:Int)) (m:=(P.length:Int)+(bs:Int)) (b:=(P.length:Int)+2*(bs:Int)) rfl (by omega) (by omega) (by rintro rfl;simp at hS;omega) (by rintro rfl;simp at hT;omega) hSs hTs (by simp;omega);simpa using this
   ·have e:(((P++srt key (S++T)).length:Nat):Int)=(P.length:Int)+2*(bs:Int):=by simp [zhb];omega
    rw [e] at hk;exact hk
  ·by_cases hm:P.length+bs<xs.length
   ·obtain ⟨S,T,rfl,hS⟩:=zfr R (show bs≤R.length by omega);simp at hl;have hSs:=h2.left.srt (by omega);have hTs:=(BS.right hbs (q:=1) (by omega) h2).srt (by omega);refine ⟨1,fun h=>absurd (dt0 h) (by omega),fun _=>⟨zh (by omega) (by omega),fun _=>⟨P++srt key (S++T)++[], ?_,zh (by omega) (by omega), ?_⟩,fun h=>absurd (by omega) (df0 h)⟩⟩
    ·have:=sym_in hc (A:=P) (S:=S) (T:=T) (B:=[]) (a:=(P.length:Int)) (m:=(P.length:Int)+(bs:Int)) (b:=(xs.length:Int)) rfl (by omega) (by omega) (by rintro rfl;simp at hS;omega) (by rintro rfl;simp at hl;omega) hSs hTs (by simp;omega);simpa using this
    ·rw [List.append_nil];exact hL _ (BS.app (by omega) hP h1 (BS.of_srt (zit _ _))) (h3.trans (by
      have:=(SEq.refl key P).app (zgo key (S++T));simpa using this))
   ·refine ⟨1,fun h=>absurd (dt0 h) (by omega),fun _=>⟨zh (by omega) (by omega),fun h=>absurd (dt0 h) (by omega),fun _=>⟨zh (by omega) (by omega), ?_⟩⟩⟩;exact hL _ (BS.app (by omega) hP h1 (BS.of_srt (h2.srt (by omega)))) h3
theorem st_l1 (hc:zsm key cmp) (hn:xs.length<1152921504606846976):∀(f:Nat) (bs:Nat) (Q:List Cl),xs.length-bs≤f→0<bs→BS key bs Q→SEq key xs Q →
  zb.l1 (xs.length:Int) cmp (zb.j1 (srt key xs)) (f+1) Q (bs:Int):=by
 intro f
 induction f with
 | zero=>
  intro bs Q hf hbs h1 h2;have hl:=h2.length;exact ⟨fun h=>absurd (dt0 h) (by omega),fun _=>(zij (h1.srt (by omega)) h2).symm⟩
 | succ f ih=>
  intro bs Q hf hbs h1 h2;have hl:=h2.length
  by_cases hlt:bs<xs.length
  ·refine ⟨fun _=>⟨zh (by omega) (by omega), ?_⟩,fun h=>absurd (by omega) (df0 h)⟩;have:=st_l2 hc hn hbs hlt (L1:=zb.l1 (xs.length:Int) cmp (zb.j1 (srt key xs)) (f+1)) (fun Q' hb hs=>by
    have:=ih (2*bs) Q' (by omega) (by omega) hb hs
    rwa [show (((2*bs:Nat)):Int)=(bs:Int)*2 by omega] at this) Q.length [] Q 0 (Nat.le_refl _) (by simp) (fun i j hj=>by simp at hj) h1 (by simpa using h2)
   simpa using this
  ·exact ⟨fun h=>absurd (dt0 h) (by omega),fun _=>(zij (h1.srt (by omega)) h2).symm⟩
theorem st_l3 (hc:zsm key cmp) (hn:xs.length<1152921504606846976):∀(f:Nat) (P R:List Cl) (q:Nat),R.length≤f→P.length=q*20→BS key 20 P→SEq key xs (P++R) →
  ∃k,zb.l3 (xs.length:Int) cmp (zb.j3 (xs.length:Int) cmp (srt key xs)) k (P++R) (P.length:Int) ((P.length:Int)+20):=by
 intro f;have fin:∀(P R:List Cl) (q:Nat),P.length=q*20→BS key 20 P→SEq key xs (P++R)→R.length≤20→zb.j3 (xs.length:Int) cmp (srt key xs) (P++R) (P.length:Int):=by
  intro P R q hP h1 h3 hR;have hl:=h3.length;simp at hl;have:=ins_in hc (A:=P) (S:=R) (B:=[]) (a:=(P.length:Int)) (b:=(xs.length:Int)) rfl (by omega) (by simp;omega);refine ⟨P++srt key R,by simpa using this,_,st_l1 hc hn xs.length 20 _ (by omega) (by omega) (BS.app (by omega) hP h1 (BS.of_srt (zit _ _))) (h3.trans ((SEq.refl key P).app (zgo key R)))⟩
 induction f with
 | zero=>
  intro P R q hf hP h1 h3;have hl:=h3.length;simp at hl;exact ⟨1,fun h=>absurd (dt0 h) (by omega),fun _=>fin P R q hP h1 h3 (by omega)⟩
 | succ f ih=>
  intro P R q hf hP h1 h3;have hl:=h3.length;simp at hl
  by_cases hle:P.length+20≤xs.length
  ·obtain ⟨S,R1,rfl,hS⟩:=zfr R (show 20≤R.length by omega);simp at hl hf;have hP2:(P++srt key S).length=(q+1)*20:=by simp [zhb,hP,Nat.add_mul];omega
   obtain ⟨k,hk⟩:=ih (P++srt key S) R1 (q+1) (by omega) hP2 (BS.app (by omega) hP h1 (BS.of_srt (zit _ _))) (h3.trans (by
    have:=(SEq.refl key P).app ((zgo key S).app (SEq.refl key R1));simpa using this))
   refine ⟨k+1,fun _=>⟨P++srt key S++R1, ?_,zh (by omega) (by omega), ?_⟩,fun h=>absurd (by omega) (df0 h)⟩
   ·have:=ins_in hc (A:=P) (S:=S) (B:=R1) (a:=(P.length:Int)) (b:=(P.length:Int)+20) rfl (by omega) (by simp;omega);simpa using this
   ·have e:(((P++srt key S).length:Nat):Int)=(P.length:Int)+20:=by simp [zhb];omega
    rw [e] at hk;exact hk
  ·exact ⟨1,fun h=>absurd (dt0 h) (by omega),fun _=>fin P R q hP h1 h3 (by omega)⟩
theorem stable_in (hc:zsm key cmp) (hn:xs.length<1152921504606846976):zbj xs cmp (srt key xs):=by
 have:=st_l3 hc hn xs.length [] xs 0 (Nat.le_refl _) (by simp) (fun i j hj=>by simp at hj) (SEq.refl _ _);refine ⟨_, ?_,rfl⟩;unfold zb;simpa using this
end
end Go.Proofs.YtahgmdbioafmbaaGreatDoor.V
namespace Go.Proofs.YtahgmdbioafmbaaGreatDoor.V
open Go
set_option linter.unusedVariables false
theorem lk0_le (p:Cl):0≤lk0 p∧lk0 p≤255:=by
 unfold lk0
 by_cases h:0<p.count
 ·obtain ⟨n,h1,h2,_,_⟩:=zrv h;rw [h2];simp;omega
 ·have:p.least=(0,false):=zid fun m hm=>by
   cases hb:p.has m
   ·rfl
   ·exact absurd (count_pos hm hb) h
  rw [this];simp
theorem split_cmp:zsm lk0 (fun q_=>zex q_.1 q_.2.1 (fun q_=>zd5 q_.1 q_.2) q_.2.2):=fun x y=>by
 have h1:=lk0_le x;have h2:=lk0_le y;exact ⟨lk0 x,⟨_,zhl,rfl⟩,lk0 y,⟨_,zhl,rfl⟩,zh (by omega) (by omega),rfl⟩
theorem flat_len2 (a:Cl) (l:List Cl):(l.flatMap (zg6 a)).length≤2*l.length:=by
 induction l with
 | nil=>simp
 | cons p l ih=>
  rw [List.flatMap_cons,List.length_append];have:(zg6 a p).length≤2:=by
   have:=List.length_filter_le (fun q:Cl=>decide (0<q.count)) [p &&& a,p &&& ~~~ a];simpa [zg6] using this
  rw [List.length_cons];omega
theorem znq {ps:List Cl} {a:Cl} (hl:ps.length≤1073741823):z7 ps a (znr ps a):=by
 refine zgx (P:=fun k (s:List Cl) v=>z7.l1 ps a _ k s v) ps.length (fun i s=>s=(ps.take i).flatMap (zg6 a)) ?_ ?_ _ (by simp)
 ·rintro i s hi rfl;refine .inr ⟨_,rfl,fun k h=>⟨fun _=>⟨ps[i],by rw [zbq];simp [hi],_,zlb,_,zmh,_,zlb, ?_⟩,fun h=>absurd (by omega) (df h)⟩⟩;have hb:=flat_len2 a (ps.take i);simp only [List.length_take] at hb;refine zgx (P:=fun k (s:List Cl) v=>z7.l2 _ _ _ k s v) 2 (fun j s=>s=(ps.take i).flatMap (zg6 a)++([ps[i] &&& a,ps[i] &&& ~~~ a].take j).filter fun q=>decide (0<q.count)) ?_ ?_ _ (by simp)
  ·rintro j s hj rfl;have hlen:(([ps[i] &&& a,ps[i] &&& ~~~ a].take j).filter fun q=>decide (0<q.count)).length≤1:=by
    have:=List.length_filter_le (fun q:Cl=>decide (0<q.count)) ([ps[i] &&& a,ps[i] &&& ~~~ a].take j);simp at this;omega
   refine .inr ⟨_,rfl,fun k h=>⟨fun _=>⟨[ps[i] &&& a,ps[i] &&& ~~~ a][j],by rw [zbq];simp [hj],_,zps,fun hc=>?_,fun hc=>?_⟩,fun h=>absurd (by simp;omega) (df h)⟩⟩
   ·have hc:=dt hc;rw [List.take_succ_eq_append_getElem (by simpa using hj),List.filter_append,List.filter_cons_of_pos (by simp;omega),List.filter_nil,← List.append_assoc] at h;exact ⟨by simp only [List.length_append,List.length_cons,List.length_nil];omega,zh (by omega) (by omega),h⟩
   ·have hc:=df hc;rw [List.take_succ_eq_append_getElem (by simpa using hj),List.filter_append,List.filter_cons_of_neg (by simp;omega),List.filter_nil,List.append_nil] at h;exact ⟨zh (by omega) (by omega),h⟩
  ·rintro s rfl k2;refine ⟨fun h=>absurd (dt h) (by simp),fun _=>⟨zh (by omega) (by omega), ?_⟩⟩;rw [List.take_succ_eq_append_getElem hi,List.flatMap_append] at h;simpa [zg6] using h
 ·rintro s rfl k;refine ⟨fun h=>absurd (dt h) (by omega),fun _=>⟨_,stable_in split_cmp ?_, ?_⟩⟩
  ·have:=flat_len2 a (ps.take ps.length);simp only [List.length_take,Nat.min_self] at this;omega
  ·simp [znr]
theorem zns (l:List Cl) (i:Nat):(zg0 (l.take i)).length≤256:=by
 rw [splitP_eq];have:=heads_len (l.take i);simpa [parts] using this
theorem zpc {l:List Cl} (hl:l.length≤1073741823):zca l (zg0 l):=by
 refine ⟨_,zmh, ?_⟩;refine zgx (P:=fun k (s:List Cl) v=>zca.l1 l _ k s v) l.length (fun i s=>s=zg0 (l.take i)) ?_ ?_ _ (by simp [zg0])
 ·rintro i s hi rfl;have:=zns l i;refine .inr ⟨_,rfl,fun k h=>⟨fun _=>⟨l[i],by rw [zbq];simp [hi],_,znq (by omega),zh (by omega) (by omega), ?_⟩,fun h=>absurd (by omega) (df h)⟩⟩;have e:zg0 (l.take i++[l[i]])=znr (zg0 (l.take i)) l[i]:=by unfold zg0;rw [List.foldl_append];rfl
  rw [List.take_succ_eq_append_getElem hi,e] at h;exact h
 ·rintro s rfl k;exact ⟨fun h=>absurd (dt h) (by omega),fun _=>by rw [List.take_length];rfl⟩
theorem zpe {l:List Cl} (hl:l.length≤1073741823):zcb l (zp3 l):=by
 refine ⟨_,zpc hl, ?_⟩;have hlen:=zns l l.length;rw [List.take_length] at hlen;refine zgx (P:=fun k (s:List Int) v=>zcb.l1 (zg0 l) _ k s v) (zg0 l).length (fun i s=>s=((zg0 l).take i).map lk0) ?_ ?_ _ (by simp)
 ·rintro i s hi rfl;refine .inr ⟨_,rfl,fun k h=>⟨fun _=>⟨(zg0 l)[i],by rw [zbq];simp [hi],_,zhl,by simp;omega,zh (by omega) (by omega), ?_⟩,fun h=>absurd (by omega) (df h)⟩⟩;rw [List.take_succ_eq_append_getElem hi,List.map_append] at h;exact h
 ·rintro s rfl k;exact ⟨fun h=>absurd (dt h) (by omega),fun _=>by rw [List.take_length];rfl⟩
theorem zpm {a b:List Int} (ha:a.length<9223372036854775807):zce a b (decide (a=b)):=by
 refine ⟨fun h=>?_,fun h=>?_⟩
 ·simp at h;exact decide_eq_false fun e=>by subst e;omega
 ·have hl:a.length=b.length:=by simp at h;omega
  refine zgx (P:=fun k (_:Unit) v=>zce.l1 a b (decide (a=b)) _ k v) a.length (fun i _=>∀j (hj:j<i) (h1:j<a.length),a[j]=b[j]'(by omega)) ?_ ?_ () (by intro j hj;omega)
  ·intro i s hi hs;have hat:at? a (i:Int)=some a[i]:=by rw [zbq];simp [hi]
   have hbt:at? b (i:Int)=some (b[i]'(by omega)):=by rw [zbq];simp [show i<b.length by omega]
   by_cases he:a[i]=b[i]'(by omega)
   ·refine .inr ⟨(),fun j hj h1=>?_,fun k h=>⟨fun _=>⟨_,hat,_,hbt,fun h=>by simp [he] at h,fun _=>⟨zh (by omega) (by omega),h⟩⟩,fun h=>absurd (by omega) (df h)⟩⟩
    by_cases hji:j=i
    ·subst hji;exact he
    ·exact hs j (by omega) h1
   ·exact .inl fun k=>⟨fun _=>⟨_,hat,_,hbt,fun _=>decide_eq_false fun e=>he (by subst e;rfl),fun h=>by simp at h;exact absurd h he⟩,fun h=>absurd (by omega) (df h)⟩
  ·intro s hs k;refine ⟨fun h=>absurd (dt h) (by omega),fun _=>?_⟩;show decide (a=b)=true;exact decide_eq_true (List.ext_getElem hl fun j h1 h2=>hs j h1 h1)
theorem zf3 {α:Type} {xs:List α} {i:Nat} (h:i<xs.length):at? xs (i:Int)=some xs[i]:=by rw [zbq];exact List.getElem?_eq_getElem h
theorem zqb {α:Type} [DecidableEq α]:∀{a b:List α},a.Nodup→b.Nodup→(∀x,x∈a↔x∈b)→a.Perm b
 | [],b,_,_,h=>by
  cases b with
  | nil=>exact .refl _
  | cons y b=>exact absurd ((h y).2 (by simp)) (by simp)
 | x::a,b,ha,hb,h=>by
  rw [List.nodup_cons] at ha;have hx:=(h x).1 (by simp);refine (List.Perm.cons x (zqb ha.2 (hb.erase x) fun y=>?_)).trans (List.perm_cons_erase hx).symm;rw [hb.mem_erase_iff];constructor
  ·intro hy;exact ⟨fun e=>ha.1 (by rw [← e];exact hy),(h y).1 (by simp [hy])⟩
  ·rintro ⟨h1,h2⟩;exact (List.mem_cons.1 ((h y).2 h2)).resolve_left h1
theorem item_StartS {d:List SNode} (h:d≠[]) (hl:d.length≤1000):zjx d (stS d):=by
 have:=List.length_pos_iff.2 h;exact ⟨zh (by omega) (by omega),rfl⟩
theorem zh5 {d:List SNode} (h:d≠[]) (hl:d.length≤1000):zhp d [stS d]:=⟨_,item_StartS h hl,rfl⟩
def mS (L:List (List SItem)):List (Str × List SItem):=L.foldl (fun m t=>zfx m (keyS t) t) []
theorem mS_snoc (L:List (List SItem)) (t:List SItem):mS (L++[t])=zfx (mS L) (keyS t) t:=by unfold mS;rw [List.foldl_append];rfl
theorem mS_inv (L:List (List SItem)):((mS L).map (·.2)).Nodup∧∀p,p∈mS L↔p.2∈L∧p.1=keyS p.2:=by
 have:∀n (L:List (List SItem)),L.length=n→((mS L).map (·.2)).Nodup∧∀p,p∈mS L↔p.2∈L∧p.1=keyS p.2:=by
  intro n
  induction n with
  | zero=>intro L hL;rw [List.length_eq_zero_iff.1 hL];exact ⟨List.nodup_nil,by simp [mS]⟩
  | succ n ih=>
   intro L hL;have hne:L≠[]:=fun e=>by subst e;simp at hL
   rw [← List.dropLast_concat_getLast hne];obtain ⟨i1,i2⟩:=ih L.dropLast (by simp [hL]);generalize L.dropLast=A at *;generalize L.getLast hne=t at *;rw [mS_snoc];unfold zfx;cases hh:zhv (mS A) (keyS t)
   ·simp only [cond_false];have hno:t ∉ A:=fun h=>by
     have h1:=(i2 (keyS t,t)).2 ⟨h,rfl⟩;have:zhv (mS A) (keyS t)=true:=by
      unfold zhv;rw [List.any_eq_true];exact ⟨_,h1,by simp⟩
     rw [hh] at this;cases this
    refine ⟨?_,fun p=>?_⟩
    ·rw [List.map_append,List.nodup_append];refine ⟨i1,by simp,fun a ha b hb e=>?_⟩;simp at hb;subst hb;subst e;obtain ⟨p,hp,rfl⟩:=List.mem_map.1 ha;exact hno ((i2 p).1 hp).1
    ·rw [List.mem_append,i2,List.mem_singleton,List.mem_append,List.mem_singleton];constructor
     ·rintro (⟨h1,h2⟩ | rfl)
      ·exact ⟨.inl h1,h2⟩
      ·exact ⟨.inr rfl,rfl⟩
     ·rintro ⟨h1 | h1,h2⟩
      ·exact .inl ⟨h1,h2⟩
      ·exact .inr (Prod.ext (by rw [h2,h1]) h1)
   ·have hh':=hh;unfold zhv at hh';rw [List.any_eq_true] at hh';obtain ⟨q,hq1,hq2⟩:=hh';have hqk:q.1=keyS t:=by simpa using hq2
    have hq3:=(i2 q).1 hq1;have hqt:q.2=t:=zgd.1 (by rw [← hq3.2,hqk]);have hta:t∈A:=by rw [← hqt];exact hq3.1
    simp only [cond_true];have hmap:∀f:Str × List SItem→Str × List SItem,(∀p∈mS A,f p=p)→(mS A).map f=mS A:=fun f hf=>by
     conv=>rhs;rw [← List.map_id (mS A)]
     exact List.map_congr_left hf
    rw [hmap _ fun p hp=>?_]
    rotate_left
    ·by_cases hpk:p.1=keyS t
     ·have hp3:=(i2 p).1 hp;have:p.2=t:=zgd.1 (by rw [← hp3.2,hpk]);have e:p=(keyS t,t):=Prod.ext hpk this;rw [e];simp
     ·exact (congrArg (fun b=>bif b then (keyS t,t) else p) (decide_eq_false hpk)).trans rfl
    refine ⟨i1,fun p=>?_⟩;rw [i2,List.mem_append,List.mem_singleton];constructor
    ·rintro ⟨h1,h2⟩;exact ⟨.inl h1,h2⟩
    ·rintro ⟨h1 | h1,h2⟩
     ·exact ⟨h1,h2⟩
     ·exact ⟨by rw [h1];exact hta,h2⟩
 exact this _ L rfl
structure Room (d:List SNode) (c:Int) (l:List (List SItem)):Prop where
 sm:∀s∈l,Sm d s
 len:l.length≤2000000000
 cov:∃K:List (List SItem),K.length≤2000000000∧∀s∈l,∀t∈zd8 d c s,t∈K
theorem zlo {d:List SNode} {s:List SItem} (h:Sm d s) {c:Int} (hc:InR .u8 c) {t:List SItem} (ht:t∈zd8 d c s):t.length≤1000:=by
 have:=(step_ok h.rt.toROk h.form hc t ht).2;have:=h.slen;have:=h.len;omega
theorem zlt {d:List SNode} {l:List (List SItem)} {c:Int} (hr:Room d c l) (hc:InR .u8 c):zcc d l c (onS d c l):=by
 have hll:=hr.len;obtain ⟨K,k1,k2⟩:=hr.cov;refine uptoK (P:=fun k m v=>zcc.l1 d l c _ k m v) l.length (fun i m=>m=mS ((l.take i).flatMap fun s=>zkr (zd8 d c s))) ?_ ?_ _ (by simp [mS])
 ·rintro i m k hi rfl hk;have hsm:=hr.sm _ (List.getElem_mem hi);obtain ⟨o,o1,_,o3⟩:=on_step hsm hc;have ho:o.map (·.1)=zkr (zd8 d c l[i]):=can_set o3 fun t=>by rw [← List.count_pos_iff];omega
  have hol:o.length≤2000000000:=by
   have:=znz (A:=zd8 d c l[i]) (K:=K) fun t ht=>k2 _ (List.getElem_mem hi) t ht;rw [← ho,List.length_map] at this;omega
  refine ⟨fun _=>⟨_,zf3 hi,o,o1, ?_⟩,fun h=>absurd (by omega) (df h)⟩;refine uptoK (P:=fun k m v=>zcc.l2 o _ k m v) o.length (fun j m=>m=mS (((l.take i).flatMap fun s=>zkr (zd8 d c s))++(o.map (·.1)).take j)) ?_ ?_ _ (by simp)
  ·rintro j m k' hj rfl hk';have hmem:o[j].1∈zd8 d c l[i]:=zed.1 (by rw [← ho];exact List.mem_map.2 ⟨_,List.getElem_mem hj,rfl⟩);have hlen:=zlo hsm hc hmem;refine ⟨fun _=>⟨_,zf3 hj,_,zol hlen,zh (by omega) (by omega),hk' _ ?_⟩,fun h=>absurd (by omega) (df h)⟩;rw [List.take_succ_eq_append_getElem (by simpa using hj),← List.append_assoc,mS_snoc];simp
  ·rintro m rfl k';refine ⟨fun h=>absurd (dt h) (by omega),fun _=>⟨zh (by omega) (by omega),hk _ ?_⟩⟩;rw [List.take_of_length_le (l:=o.map (·.1)) (by simp),List.take_succ_eq_append_getElem hi,List.flatMap_append,ho];simp
 ·rintro m rfl k;refine ⟨fun h=>absurd (dt h) (by omega),fun _=>?_⟩;rw [List.take_length];obtain ⟨i1,i2⟩:=mS_inv (l.flatMap fun s=>zkr (zd8 d c s));have hmm:∀t,t∈(mS (l.flatMap fun s=>zkr (zd8 d c s))).map (·.2)↔t∈onS d c l:=fun t=>by
   rw [zkc,List.mem_map];constructor
   ·rintro ⟨p,hp,rfl⟩;obtain ⟨s,h1,h2⟩:=List.mem_flatMap.1 ((i2 p).1 hp).1;exact ⟨s,h1,zed.1 h2⟩
   ·rintro ⟨s,h1,h2⟩;exact ⟨(keyS t,t),(i2 _).2 ⟨List.mem_flatMap.2 ⟨s,h1,zed.2 h2⟩,rfl⟩,rfl⟩
  refine ⟨fun b hb=>?_, ?_,zqb (zqz (zfu _)) i1 fun t=>(hmm t).symm,zfu _⟩
  ·obtain ⟨s,h1,h2⟩:=zkc.1 ((hmm b).1 hb);exact zlo (hr.sm s h1) hc h2
  ·have:=zi2 (U:=K) i1 fun t ht=>by
    obtain ⟨s,h1,h2⟩:=zkc.1 ((hmm t).1 ht);exact k2 s h1 t h2
   omega
theorem idxS_in {s:List (List SItem)} {f:List SItem × Bool→Prop} {g:List SItem→Bool} (hf:∀x∈s,f (x,g x)) (hl:s.length≤140737488351232):zbn s f (s.any g):=by
 have key:∃i:Int,zk s f i∧(decide (0≤i))=s.any g:=by
  cases hc:s.any g
  ·refine ⟨-1, ?_,by decide⟩;rw [List.any_eq_false] at hc;refine zgx (P:=fun k (_:Unit) v=>zk.l1 s f (-1) _ k v) s.length (fun _ _=>True) ?_ ?_ () trivial
   ·intro j _ hj _;exact .inr ⟨(),trivial,fun k hk=>⟨fun _=>⟨_,zf3 hj,_,hf _ (List.getElem_mem hj),fun h=>absurd h (hc _ (List.getElem_mem hj)),fun _=>⟨zh (by omega) (by omega),hk⟩⟩,fun h=>absurd (by omega) (df h)⟩⟩
   ·intro _ _ k;exact ⟨fun h=>absurd (dt h) (by omega),fun _=>rfl⟩
  ·rw [List.any_eq_true] at hc;obtain ⟨x,hx,hgx⟩:=hc;have hex:∃i,∃(h:i<s.length),g s[i]=true:=by
    obtain ⟨i,hi,rfl⟩:=List.mem_iff_getElem.1 hx;exact ⟨i,hi,hgx⟩
   obtain ⟨i,⟨hi,hi2⟩,hmin⟩:=exists_least hex;refine ⟨(i:Int), ?_,by simp⟩;refine zgx (P:=fun k (_:Unit) v=>zk.l1 s f (i:Int) _ k v) (i+1) (fun j _=>j≤i) ?_ ?_ () (by omega)
   ·intro j _ hj hle;have hat:=zf3 (show j<s.length by omega);have hfj:=hf _ (List.getElem_mem (show j<s.length by omega))
    by_cases hji:j=i
    ·subst hji;rw [hi2] at hfj;exact .inl fun k=>⟨fun _=>⟨_,hat,true,hfj,fun _=>rfl,(fun h=>by cases h)⟩,fun h=>absurd (by omega) (df h)⟩
    ·have hno:g (s[j]'(by omega))=false:=by
      cases hg:g (s[j]'(by omega))
      ·rfl
      ·have:=hmin j ⟨by omega,hg⟩;omega
     rw [hno] at hfj;exact .inr ⟨(),by omega,fun k hk=>⟨fun _=>⟨_,hat,false,hfj,(fun h=>by cases h),fun _=>⟨zh (by omega) (by omega),hk⟩⟩,fun h=>absurd (by omega) (df h)⟩⟩
   ·intro _ h k;omega
 obtain ⟨i,h1,h2⟩:=key;exact ⟨i,h1,h2.symm⟩
theorem sat_pos (n:Nat):decide (0<sat n)=decide (n≠0):=by
 by_cases h:n=0
 ·subst h;simp [sat]
 ·rw [decide_eq_true (by unfold sat;omega),decide_eq_true h]
theorem ziv {d:List SNode} {l:List (List SItem)} (hl:∀s∈l,Sm d s) (hn:l.length≤2000000000):ziw d l (endS d l):=by
 refine ⟨_,idxS_in (g:=fun s=>decide ((hds d s).count []≠0)) (fun s hs=>⟨_,(ends_both (hl s hs)).1, ?_⟩) (by omega),rfl⟩;exact (sat_pos _).symm
theorem zny {d:List SNode} {l:List (List SItem)} (hl:∀s∈l,Sm d s) (hn:l.length≤2000000000) (hc:(zm7 d l).length*32≤140737488355328):zbw d l (zm7 d l):=by
 refine zgx (P:=fun k out v=>zbw.l1 d l _ k out v) l.length (fun i out=>out=zm7 d (l.take i)) ?_ ?_ _ (by simp [zm7])
 ·rintro i out hi rfl;have e:zm7 d (l.take (i+1))=zm7 d (l.take i)++clsA d l[i]:=by
   unfold zm7;rw [List.take_succ_eq_append_getElem hi,List.flatMap_append];simp
  refine .inr ⟨_,rfl,fun k hk=>⟨fun _=>⟨_,zf3 hi,_,(clsA_in (hl _ (List.getElem_mem hi))).1, ?_,zh (by omega) (by omega),by rw [← e];exact hk⟩,fun h=>absurd (by omega) (df h)⟩⟩;have h2:zm7 d l=zm7 d (l.take (i+1))++zm7 d (l.drop (i+1)):=by unfold zm7;rw [← List.flatMap_append,List.take_append_drop]
  have h3:=congrArg List.length h2;rw [e,List.length_append,List.length_append] at h3;omega
 ·rintro out rfl k;refine ⟨fun h=>absurd (dt h) (by omega),fun _=>?_⟩;show zm7 d l=_;rw [List.take_length]
theorem sets_Once_in {l:List Cl} (hn:l.length≤140737488351232) (ho:(zf5 l).length≤2147483647):zc2 l (zf5 l):=by
 have hpre:∀i,(zf5 (l.take i)).length≤(zf5 l).length:=fun i=>by
  refine zi2 (zoa _) fun x hx=>(zht l).2 (List.mem_of_mem_take ((zht _).1 hx))
 refine zgx (P:=fun k (s:List (Cl × Bool) × List Cl) v=>zc2.l1 l _ k s.1 s.2 v) l.length (fun i s=>s.2=zf5 (l.take i)∧∀x,zeg s.1 x false=decide (x∈l.take i)) ?_ ?_ ([],[]) ⟨by simp [zf5],fun x=>by simp [zeg]⟩
 ·rintro i ⟨met,out⟩ hi ⟨h1,h2⟩;simp only at h1 h2;subst h1;have htk:l.take (i+1)=l.take i++[l[i]]:=List.take_succ_eq_append_getElem hi;have hnext:∀x,zeg (zfx met l[i] true) x false=decide (x∈l.take (i+1)):=fun x=>by
   rw [zog,h2,htk]
   by_cases hx:l[i]=x
   ·rw [if_pos hx];exact (decide_eq_true (List.mem_append.2 (.inr (by rw [← hx];exact List.mem_singleton.2 rfl)))).symm
   ·rw [if_neg hx];exact decide_eq_decide.2 ⟨fun h=>List.mem_append.2 (.inl h),fun h=>(List.mem_append.1 h).resolve_right fun e=>hx (List.mem_singleton.1 e).symm⟩
  have hp1:=hpre (i+1)
  by_cases hm:l[i]∈l.take i
  ·refine .inr ⟨(zfx met l[i] true,zf5 (l.take i)),⟨?_,hnext⟩,fun k hk=>⟨fun _=>⟨_,zf3 hi,fun h=>?_,fun _=>⟨zh (by omega) (by omega),hk⟩⟩,fun h=>absurd (by omega) (df h)⟩⟩
   ·rw [htk,zjq,if_pos ((zht _).2 hm)]
   ·rw [h2,decide_eq_true hm] at h;cases h
  ·have e:zf5 (l.take (i+1))=zf5 (l.take i)++[l[i]]:=by rw [htk,zjq,if_neg fun h=>hm ((zht _).1 h)]
   refine .inr ⟨(zfx met l[i] true,zf5 (l.take i)++[l[i]]),⟨e.symm,hnext⟩,fun k hk=>⟨fun _=>⟨_,zf3 hi,fun _=>⟨?_,zh (by omega) (by omega),hk⟩,fun h=>?_⟩,fun h=>absurd (by omega) (df h)⟩⟩
   ·rw [e] at hp1;simp only [List.length_append,List.length_cons,List.length_nil] at hp1 ⊢;omega
   ·rw [h2,decide_eq_false hm] at h;cases h
 ·rintro ⟨met,out⟩ ⟨h1,h2⟩ k;simp only at h1;subst h1;refine ⟨fun h=>absurd (dt h) (by omega),fun _=>?_⟩;show zf5 l=_;rw [List.take_length]
theorem zp6 {d:List SNode} (h:Rt d) (hl:d.length≤24) (ht:Txt d) {w:List Int} (hw:∀c∈w,InR .u8 c) {c:Int} (hc:InR .u8 c) (hp:pas d.length (w.length+1)≤2000000000):Room d c (zgh d w):=by
 refine ⟨fun s hs=>(zja h hl ht hw hs).1, ?_, ?_⟩
 ·have:=znb h hw;have:=pas_more d.length w.length;omega
 ·have hw2:∀b∈w++[c],InR .u8 b:=fun b hb=>(List.mem_append.1 hb).elim (hw b) fun e=>by rw [List.mem_singleton.1 e];exact hc
  obtain ⟨K,k1,k2⟩:=after_cov h fun b hb=>(zcy.1 (hw2 b hb)).1;rw [List.length_append,List.length_singleton] at k1;refine ⟨K,by omega,fun s hs t hts=>k2 t ?_⟩;show t∈zcx d (w++[c]) (stS d);rw [← zjz,ze0,zkc];exact ⟨s,hs,hts⟩
theorem zrn {m k m' k':Nat} (h1:m≤m') (h2:k≤k') {n:Nat} (h:pas m' k'≤n):pas m k≤n:=Nat.le_trans (Nat.le_trans (pas_mono h1 k) (pas_long m' h2)) h
theorem pas_16_17:pas 16 17≤2000000000:=pas_le (by decide +kernel)
theorem zqw {d:List SNode} (h:Rt d) (hl:d.length≤24) (ht:Txt d) {w:List Int} (hw:∀c∈w,InR .u8 c) (hn:w.length≤1000) (hp:pas d.length w.length≤2000000000):zcf d w (zgh d w):=by
 refine ⟨_,zh5 h.ne (by omega), ?_⟩;refine zgx (P:=fun k l v=>zcf.l1 d w _ k l v) w.length (fun i l=>l=zgh d (w.take i)) ?_ ?_ _ (by rw [List.take_zero,zna])
 ·rintro i l hi rfl;have hsn:zgh d (w.take (i+1))=onS d w[i] (zgh d (w.take i)):=by rw [List.take_succ_eq_append_getElem hi,ze0]
  have hr:=zp6 h hl ht (w:=w.take i) (fun c hc=>hw c (List.mem_of_mem_take hc)) (hw _ (List.getElem_mem hi)) (zrn (Nat.le_refl _) (by rw [List.length_take];omega) hp);exact .inr ⟨_,rfl,fun k hk=>⟨fun _=>⟨_,zf3 hi,_,zlt hr (hw _ (List.getElem_mem hi)),zh (by omega) (by omega),by rw [← hsn];exact hk⟩,fun h=>absurd (by omega) (df h)⟩⟩
 ·rintro l rfl k;refine ⟨fun h=>absurd (dt h) (by omega),fun _=>?_⟩;show zgh d w=_;rw [List.take_length]
theorem itoa_no47 (n:Int):∀c∈Lib.itoa n,c≠47:=by
 intro c hc he;subst he;unfold Lib.itoa at hc;split at hc
 ·rcases List.mem_cons.1 hc with h | h
  ·exact absurd h (by decide)
  ·have:=(dec_ge _ _ h).1;exact absurd this (by decide)
 ·have:=(dec_ge _ _ hc).1;exact absurd this (by decide)
theorem keyN_no47 (l:List Int):∀c∈zk3 l,c≠47:=by
 induction l with
 | nil=>intro c hc;simp [zk3] at hc
 | cons z l ih=>
  intro c hc;rw [zi3,List.mem_append,List.mem_cons] at hc;rcases hc with h | rfl | h
  ·exact itoa_no47 z c h
  ·decide
  ·exact ih c h
theorem cut47 {a b:List UInt8} (ha:∀c∈a,c≠47) (hb:∀c∈b,c≠47) {u v:List UInt8} (h:a++47::u=b++47::v):a=b∧u=v:=by
 induction a generalizing b with
 | nil=>
  cases b with
  | nil=>exact ⟨rfl,(List.cons.inj h).2⟩
  | cons y b=>exact absurd (List.cons.inj h).1.symm (hb y (by simp))
 | cons x a ih=>
  cases b with
  | nil=>exact absurd (List.cons.inj h).1 (ha x (by simp))
  | cons y b=>
   obtain ⟨h1,h2⟩:=List.cons.inj h;obtain ⟨h3,h4⟩:=ih (fun c hc=>ha c (by simp [hc])) (fun c hc=>hb c (by simp [hc])) h2;exact ⟨by rw [h1,h3],h4⟩
theorem zk4 (s:List SItem) (l:List (List SItem)):zmp (s::l)=keyS s++47::zmp l:=by simp [zmp]
theorem keyL_inj {l m:List (List SItem)} (h:zmp l=zmp m):l=m:=by
 induction l generalizing m with
 | nil=>
  cases m with
  | nil=>rfl
  | cons y m=>rw [zk4] at h;simp [zmp] at h
 | cons z l ih=>
  cases m with
  | nil=>rw [zk4] at h;simp [zmp] at h
  | cons y m=>
   rw [zk4,zk4] at h;obtain ⟨h1,h2⟩:=cut47 (keyN_no47 _) (keyN_no47 _) h;rw [zgd.1 h1,ih h2]
def d6:List SNode:=wrapD 6 d5
theorem znw {l:List (List SItem)} (h1:l.length≤1000000000) (h2:∀s∈l,s.length≤1000):zg2 l (zmp l):=⟨h1,h2,rfl⟩
theorem onS_short {d:List SNode} {c:Int} {l:List (List SItem)} (hl:∀s∈l,Sm d s) (hc:InR .u8 c):∀t∈onS d c l,t.length≤1000:=fun t ht=>by
 obtain ⟨s,h1,h2⟩:=zkc.1 ht;exact zlo (hl s h1) hc h2
theorem ends_ways (d:List SNode) (w:List Int):endS d (zgh d w)=decide (0<sat (zbm d ((d.length:Int)-1) w)):=by
 rw [sat_pos,Bool.eq_iff_iff,endS_word,decide_eq_true_iff]
structure Rm (d:List SNode) (l:TS):Prop where
 sm:∀s∈l,Sm d s
 len:l.length≤1000000000
 cls:(zm7 d l).length≤4398046511104
 on:∀c,InR .u8 c→Room d c l
 out:∀c,InR .u8 c→(onS d c l).length≤1000000000
theorem pas_16_10:pas 16 10≤1000000000:=pas_le (by decide +kernel)
theorem pas_16_9b:pas 16 9≤2042975:=pas_le (by decide +kernel)
theorem rm_heavy {d:List SNode} (h:Rt d) (hl:d.length≤16) (ht:Txt d) {w:List Int} (hw:∀c∈w,InR .u8 c) (hwl:w.length≤9):Rm d (zgh d w):=by
 have l1:=znb h hw;have p9:pas d.length w.length≤2042975:=zrn (m':=16) (k':=9) (by omega) (by omega) pas_16_9b;have p10:pas d.length (w.length+1)≤1000000000:=zrn (m':=16) (k':=10) (by omega) (by omega) pas_16_10;refine ⟨fun s hs=>(zja h (by omega) ht hw hs).1,by omega, ?_,fun c hc=>zp6 h (by omega) ht hw hc (by omega),fun c hc=>?_⟩
 ·have h1:=zsg h (m:=24) (zgh d w) fun s hs=>(zja h (by omega) ht hw hs).2;have h2:256*(24*(d.length+1)+1)*(zgh d w).length≤256*(24*17+1)*2042975:=Nat.mul_le_mul (by omega) (by omega);omega
 ·have hw2:∀b∈w++[c],InR .u8 b:=fun b hb=>(List.mem_append.1 hb).elim (hw b) fun e=>by rw [List.mem_singleton.1 e];exact hc
  have:=znb h hw2;rw [ze0,List.length_append,List.length_singleton] at this;omega
theorem rm_light {d:List SNode} (h:Rt d) (hl:d.length≤24) (ht:Txt d) (hn:NoFr d) (hs:szN d d.length ((d.length:Int)-1)≤1000) {w:List Int} (hw:∀c∈w,InR .u8 c):Rm d (zgh d w):=by
 obtain ⟨K,k1,k2⟩:=aftS_all h hn;have l1:=aftS_few h hn w;refine ⟨fun s hs=>(zja h hl ht hw hs).1,by omega, ?_,fun c hc=>⟨fun s hs=>(zja h hl ht hw hs).1,by omega,K,by omega,fun s hs t hts=>k2 (w++[c]) t ?_⟩,fun c hc=>?_⟩
 ·have h1:=zsg h (m:=24) (zgh d w) fun s hs=>(zja h hl ht hw hs).2;have h2:256*(24*(d.length+1)+1)*(zgh d w).length≤256*(24*25+1)*1001:=Nat.mul_le_mul (by omega) (by omega);omega
 ·rw [ze0,zkc];exact ⟨s,hs,hts⟩
 ·have:=aftS_few h hn (w++[c]);rw [ze0] at this;omega
theorem sets_Bytes_w {d:List SNode} {l:TS} (h:Rm d l) (hd:d.length≤1000):zjg d l (bytS d l):=by
 have h1:=h.cls;have h2:=h.len;have ho:=once_few d l;exact ⟨_,zny h.sm (by omega) (by omega),_,sets_Once_in (by omega) (by omega),_,zpe (by omega),rfl⟩
theorem bytS_u8 {d:List SNode} {l:TS} {c:Int} (h:c∈bytS d l):InR .u8 c:=bytC_u8 h
def zkj (d:List SNode) (l:TS):List (Int × TS):=(bytS d l).map fun c=>(c,onS d c l)
def zfm (d:List SNode):Sch TS:=⟨[stS d],zkj d,endS d⟩
theorem ways_len (d:List SNode) (l:TS):(zkj d l).length≤256:=by unfold zkj;rw [List.length_map];exact bytC_len _
theorem ways_in {d:List SNode} {l:TS} (h:Rm d l) (hd:d.length≤1000):zbk d l (zkj d l):=by
 refine ⟨_,sets_Bytes_w h hd, ?_⟩;have hbl:(bytS d l).length≤256:=bytC_len _;refine zgx (P:=fun k out v=>zbk.l1 d l (bytS d l) _ k out v) (bytS d l).length (fun i out=>out=(zkj d l).take i) ?_ ?_ _ (by simp)
 ·rintro i out hi rfl;have hc:=bytS_u8 (List.getElem_mem hi);have hi2:i<(zkj d l).length:=by unfold zkj;rw [List.length_map];exact hi
  refine .inr ⟨_,rfl,fun k hk=>⟨fun _=>⟨_,zf3 hi,_,zlt (h.on _ hc) hc, ?_,zh (by omega) (by omega), ?_⟩,fun h=>absurd (by omega) (df h)⟩⟩
  ·rw [List.length_take];simp;omega
  ·rw [List.take_succ_eq_append_getElem hi2] at hk;have e:(zkj d l)[i]=((bytS d l)[i],onS d (bytS d l)[i] l):=by simp [zkj]
   rw [e] at hk;exact hk
 ·rintro out rfl k;refine ⟨fun h=>absurd (dt h) (by omega),fun _=>?_⟩;show zkj d l=_;rw [List.take_of_length_le (by unfold zkj;rw [List.length_map];omega)]
theorem rn_aft {d:List SNode} {w:List Int} {x:TS} (h:Rn (fun x c y=>InR .u8 c∧y=onS d c x) [stS d] w x):x=zgh d w∧∀c∈w,InR .u8 c:=by
 induction h with
 | nil=>exact ⟨rfl,fun c hc=>by cases hc⟩
 | snoc h hs ih=>
  obtain ⟨h1,h2⟩:=hs;refine ⟨by rw [h2,ih.1,ze0],fun b hb=>?_⟩;rcases List.mem_append.1 hb with hb | hb
  ·exact ih.2 b hb
  ·rw [List.mem_singleton.1 hb];exact h1
theorem aft_rn {d:List SNode} (w:List Int) (hw:∀c∈w,InR .u8 c):Rn (fun x c y=>InR .u8 c∧y=onS d c x) [stS d] w (zgh d w):=by
 refine zqm (p:=fun w=>(∀c∈w,InR .u8 c)→Rn (fun x c y=>InR .u8 c∧y=onS d c x) [stS d] w (zgh d w)) (fun _=>.nil) (fun w c ih hw=>?_) w hw;exact .snoc (ih fun b hb=>hw b (by simp [hb])) ⟨hw c (by simp),ze0 d w c⟩
theorem zlu (d:List SNode):∀(x:TS) (c:Int) (y:TS),(c,y)∈(zfm d).ways x→InR .u8 c∧y=onS d c x:=fun x c y h=>by
 obtain ⟨b,h1,h2⟩:=List.mem_map.1 h;cases h2;exact ⟨bytS_u8 h1,rfl⟩
theorem zsj {d:List SNode} {i j:Nat} {q:Qb TS} (h:(zdm (zfm d) i)[j]?=some q):q.1=zgh d q.2.2.2∧(∀c∈q.2.2.2,InR .u8 c)∧q.2.2.2.length≤j:=by
 obtain ⟨h1,h2⟩:=rn_aft (accB_rn (S:=zfm d) (zlu d) i j q h);exact ⟨h1,h2,(zle _ _).wlen j q h⟩
def Lk (d:List SNode) (b:Int):Prop:=(NoFr d∧szN d d.length ((d.length:Int)-1)≤1000)∨b≤10
theorem acc_rm {d:List SNode} (h:Rt d) (hl:d.length≤16) (ht:Txt d) {b:Int} (hk:Lk d b) {i j:Nat} {q:Qb TS} (hq:(zdm (zfm d) i)[j]?=some q) (hj:(j:Int)<b):Rm d q.1:=by
 obtain ⟨h1,h2,h3⟩:=zsj hq;rw [h1];rcases hk with ⟨k1,k2⟩ | k1
 ·exact rm_light h (by omega) ht k1 k2 h2
 ·exact rm_heavy h hl ht h2 (by omega)
theorem key_start {d:List SNode}:zg2 [stS d] (zmp [stS d]):=znw (by simp) fun s hs=>by rw [List.mem_singleton.1 hs];simp [stS]
theorem walk_sets {d:List SNode} (h:Rt d) (hl:d.length≤16) (ht:Txt d) {b:Int} (hb:b≤1000) (hk:Lk d b):
  zf ([stS d],(fun q_=>zg2 q_.1 q_.2),(fun q_=>zbk d q_.1 q_.2),(fun q_=>zdv d q_.1 q_.2)) b (zdj (zgm (zfm d) b)):=by
 refine walkB_in (S:=zfm d) (kf:=zmp) (fun a b e=>keyL_inj e) hb key_start (fun i q hi hq=>?_) fun i q hi hq _=>?_
 ·have hr:=acc_rm h hl ht hk hq hi;exact ⟨_,ziv hr.sm (by have:=hr.len;show q.1.length≤_;omega),rfl⟩
 ·have hr:=acc_rm h hl ht hk hq hi;refine ⟨ways_in hr (by omega),ways_len _ _,fun e he=>?_⟩;obtain ⟨e1,e2⟩:=zlu d q.1 e.1 e.2 he;rw [e2];exact znw (hr.out _ e1) (onS_short hr.sm e1)
def zf7 (l:List Int) (x:Int):Int:=if 0≤x∧x<(l.length:Int) then (at? l x).getD 0 else 0
def zpw (e:SNode) (a b:Int):Int:=if e.1=7 then (1+max 0 (min e.2.2.2.2.1 1000))*a else if e.1=6∨e.1=8∨e.1=9 then a+1 else if e.1=4∨e.1=5 then a+b else if e.1=3 then 1+min (e.2.2.2.2.2.2.length:Int) 1000 else 1
def wl (d:List SNode):Nat→List Int
 | 0=>[]
 | i+1=>match d[i]? with
  | none=>wl d i
  | some e=>wl d i++[min (zpw e (zf7 (wl d i) e.2.1) (zf7 (wl d i) e.2.2.1)) 1000]
theorem zll {d:List SNode} {i:Nat} (hi:i<d.length):wl d (i+1)=wl d i++[min (zpw d[i] (zf7 (wl d i) d[i].2.1) (zf7 (wl d i) d[i].2.2.1)) 1000]:=by
 show (match d[i]? with | none=>wl d i | some e=>wl d i++[min (zpw e (zf7 (wl d i) e.2.1) (zf7 (wl d i) e.2.2.1)) 1000])=_;rw [List.getElem?_eq_getElem hi]
theorem zpv {d:List SNode}:∀{i:Nat},i≤d.length→(wl d i).length=i
 | 0,_=>rfl
 | i+1,h=>by rw [zll (by omega),List.length_append,zpv (by omega)];rfl
theorem mul_few {x a:Int} (hx:0≤x∧x≤1001) (ha:0≤a∧a≤1000):0≤x*a∧x*a≤1001000:=by
 refine ⟨Int.mul_nonneg hx.1 ha.1, ?_⟩;have:=Int.mul_le_mul hx.2 ha.2 ha.1 (by omega);omega
theorem wgt1_ok {e:SNode} {a b:Int} (ha:0≤a∧a≤1000) (hb:0≤b∧b≤1000):0≤zpw e a b:=by
 unfold zpw;split
 ·exact (mul_few (by omega) ha).1
 ·split
  ·omega
  ·split
   ·omega
   ·split <;> omega
theorem zi1 {l:List Int} (h:∀x∈l,0≤x∧x≤1000) (x:Int):0≤zf7 l x∧zf7 l x≤1000:=by
 unfold zf7;split
 ·rename_i hx
  obtain ⟨y,hy,hm⟩:=zoz hx.1 hx.2;rw [hy];exact h y hm
 ·omega
theorem wl_ok {d:List SNode}:∀{i:Nat},i≤d.length→∀x∈wl d i,0≤x∧x≤1000
 | 0,_,x,hx=>by cases hx
 | i+1,h,x,hx=>by
  have ih:=wl_ok (d:=d) (i:=i) (by omega);rw [zll (by omega)] at hx;rcases List.mem_append.1 hx with hx | hx
  ·exact ih x hx
  ·rw [List.mem_singleton.1 hx];have:=wgt1_ok (e:=d[i]) (zi1 ih d[i].2.1) (zi1 ih d[i].2.2.1);omega
theorem w7 {L1:List Int→Int→Prop} {l:List Int} {i:Int} {e:SNode} {a:Int} (hl:l.length≤1000) (hi:0≤i∧i≤1000) (ha:0≤a∧a≤1000) (hb:0≤zf7 l e.2.2.1∧zf7 l e.2.2.1≤1000) (h:L1 (l++[min (zpw e a (zf7 l e.2.2.1)) 1000]) (i+1)):zj.j7 L1 l i e a:=by
 have e2:∀w,w=zpw e a (zf7 l e.2.2.1)→zj.j2 L1 l i w:=fun w hw=>by
  subst hw;exact ⟨by simp;omega,zh (by omega) (by omega),h⟩
 have e3:∀w,e.1=7∨w=zpw e a (zf7 l e.2.2.1)→zj.j3 L1 l i e a w:=fun w hw=>by
  refine ⟨fun h7=>?_,fun h7=>e2 w (hw.resolve_left (by simpa using h7))⟩;have h7:e.1=7:=by simpa using h7
  have:=mul_few (x:=1+max 0 (min e.2.2.2.2.1 1000)) (by omega) ha;exact ⟨zh (by omega) (by omega),zh (by omega) (by omega),e2 _ (by unfold zpw;rw [if_pos h7])⟩
 have e4:∀w,e.1=7∨(e.1=6∨e.1=8∨e.1=9)∨w=zpw e a (zf7 l e.2.2.1)→zj.j4 L1 l i e a w:=fun w hw=>by
  refine ⟨fun h6=>⟨zh (by omega) (by omega),e3 _ ?_⟩,fun h6=>e3 w ?_⟩
  ·have h6:e.1=6∨e.1=8∨e.1=9:=by simpa [or_assoc] using h6
   refine .inr ?_;unfold zpw;rw [if_neg (by omega),if_pos h6]
  ·have h6:¬ (e.1=6∨e.1=8∨e.1=9):=by simpa [or_assoc,and_assoc] using h6
   exact hw.imp id fun h=>h.resolve_left h6
 have e5:∀w,e.1=7∨(e.1=6∨e.1=8∨e.1=9)∨(e.1=4∨e.1=5)∨w=zpw e a (zf7 l e.2.2.1)→zj.j5 L1 l i e a (zf7 l e.2.2.1) w:=fun w hw=>by
  refine ⟨fun h4=>⟨zh (by omega) (by omega),e4 _ ?_⟩,fun h4=>e4 w ?_⟩
  ·have h4:e.1=4∨e.1=5:=by simpa using h4
   refine .inr (.inr ?_);unfold zpw;rw [if_neg (by omega),if_neg (by omega),if_pos h4]
  ·have h4:¬ (e.1=4∨e.1=5):=by simpa using h4
   exact hw.imp id fun h=>h.imp id fun h=>h.resolve_left h4
 have e6:zj.j6 L1 l i e a (zf7 l e.2.2.1):=by
  refine ⟨fun h3=>⟨zh (by omega) (by omega),e5 _ ?_⟩,fun h3=>e5 1 ?_⟩
  ·have h3:e.1=3:=by simpa using h3
   refine .inr (.inr (.inr ?_));unfold zpw;rw [if_neg (by omega),if_neg (by omega),if_neg (by omega),if_pos h3]
  ·have h3:¬ e.1=3:=by simpa using h3
   by_cases k7:e.1=7
   ·exact .inl k7
   by_cases k6:e.1=6∨e.1=8∨e.1=9
   ·exact .inr (.inl k6)
   by_cases k4:e.1=4∨e.1=5
   ·exact .inr (.inr (.inl k4))
   refine .inr (.inr (.inr ?_));unfold zpw;rw [if_neg k7,if_neg k6,if_neg k4,if_neg h3]
 refine ⟨_,rfl,fun hc=>?_,fun hc=>?_⟩
 ·simp only [Bool.and_eq_true,decide_eq_true_eq] at hc;obtain ⟨y,hy,_⟩:=zoz hc.1 hc.2;have:zf7 l e.2.2.1=y:=by unfold zf7;rw [if_pos hc,hy];rfl
  rw [this] at e6;exact ⟨y,hy,e6⟩
 ·have:zf7 l e.2.2.1=0:=by
   unfold zf7;rw [if_neg];simp only [Bool.and_eq_false_iff,decide_eq_false_iff_not] at hc;omega
  rw [this] at e6;exact e6
theorem zn4 {d:List SNode} (hl:d.length≤100):zj d (if d.length=0 then 0 else zf7 (wl d d.length) ((d.length:Int)-1)):=by
 refine zgx (P:=fun k l v=>zj.l1 d _ k l v) d.length (fun i l=>l=wl d i) ?_ ?_ [] rfl
 ·rintro i l hi rfl;have hlen:=zpv (d:=d) (i:=i) (by omega);have hok:=wl_ok (d:=d) (i:=i) (by omega);refine .inr ⟨_,(zll hi).symm,fun k hk=>⟨_,rfl,fun _=>⟨_,zf3 hi,_,rfl,fun hc=>?_,fun hc=>?_⟩,fun hc=>?_⟩⟩
  ·simp only [Bool.and_eq_true,decide_eq_true_eq] at hc;obtain ⟨y,hy,hm⟩:=zoz hc.1 hc.2;have e:zf7 (wl d i) d[i].2.1=y:=by unfold zf7;rw [if_pos hc,hy];rfl
   rw [e] at hk;exact ⟨y,hy,w7 (by omega) (by omega) (hok y hm) (zi1 hok _) hk⟩
  ·have e:zf7 (wl d i) d[i].2.1=0:=by
    unfold zf7;rw [if_neg];simp only [Bool.and_eq_false_iff,decide_eq_false_iff_not] at hc;omega
   rw [e] at hk;exact w7 (by omega) (by omega) (by omega) (zi1 hok _) hk
  ·exfalso;simp only [Bool.and_eq_false_iff,decide_eq_false_iff_not] at hc;omega
 ·rintro l rfl k;have hlen:=zpv (d:=d) (i:=d.length) (Nat.le_refl _);refine ⟨_,rfl,fun hc=>?_,fun _=>⟨fun h=>?_,fun h=>?_⟩⟩
  ·exfalso;simp only [Bool.and_eq_true,decide_eq_true_eq] at hc;omega
  ·rw [hlen] at h;rw [if_pos (by have:=eq_of_beq h;omega)]
  ·rw [hlen] at h;have hp:d.length≠0:=by have:=beq_eq_false_iff_ne.1 h;omega
   obtain ⟨y,hy,_⟩:=zoz (xs:=wl d d.length) (i:=(d.length:Int)-1) (by omega) (by omega);refine ⟨zh (by omega) (by omega),y,by rw [hlen];exact hy, ?_⟩;rw [if_neg hp];unfold zf7;rw [if_pos (by omega),hy];rfl
theorem wl_pre {d:List SNode} {i:Nat}:∀{j:Nat},i≤j→j≤d.length→wl d i <+: wl d j
 | 0,h,_=>by rw [Nat.le_zero.1 h];exact List.prefix_refl _
 | j+1,h,hj=>by
  rcases Nat.lt_or_eq_of_le h with h1 | h1
  ·rw [zll (by omega)];exact (wl_pre (Nat.le_of_lt_succ h1) (by omega)).trans (List.prefix_append _ _)
  ·rw [h1];exact List.prefix_refl _
theorem zm4 {d:List SNode} {i:Nat} (hi:i≤d.length) {x:Int} (h0:0≤x) (h1:x<(i:Int)):zf7 (wl d i) x=zf7 (wl d d.length) x:=by
 have l1:=zpv (d:=d) hi;have l2:=zpv (d:=d) (i:=d.length) (Nat.le_refl _);obtain ⟨m,rfl⟩:∃m:Nat,x=m:=⟨x.toNat,by omega⟩;unfold zf7;rw [if_pos (by omega),if_pos (by omega),zbq,zbq];obtain ⟨r,hr⟩:=wl_pre (d:=d) hi (Nat.le_refl _);rw [← hr,List.getElem?_append_left (by omega)]
theorem look_at {d:List SNode} {i:Int} {e:SNode} (he:at? d i=some e):zf7 (wl d d.length) i=min (zpw e (zf7 (wl d i.toNat) e.2.1) (zf7 (wl d i.toNat) e.2.2.1)) 1000:=by
 obtain ⟨h0,h1⟩:=zbv he;obtain ⟨m,rfl⟩:∃m:Nat,i=m:=⟨i.toNat,by omega⟩;have hm:m<d.length:=by omega
 have he':d[m]=e:=by
  rw [zbq,List.getElem?_eq_getElem hm] at he;exact Option.some.inj he
 rw [← zm4 (d:=d) (i:=m+1) (by omega) (by omega) (by omega)];have l1:=zpv (d:=d) (i:=m) (by omega);unfold zf7;rw [if_pos (by rw [zll hm,List.length_append,l1];simp;omega),zbq,zll hm,List.getElem?_append_right (by omega),l1,Nat.sub_self,he'];simp [zf7]
theorem sz_wgt {d:List SNode} (hn:∀n∈d,n.1≠8∧n.1≠9) {f i:Int} (h:Tr d f i):∀k,zf7 (wl d d.length) i<1000→((szN d k i:Nat):Int)≤zf7 (wl d d.length) i:=by
 have hok:∀x,0≤zf7 (wl d d.length) x∧zf7 (wl d d.length) x≤1000:=fun x=>zi1 (wl_ok (Nat.le_refl _)) x;have hs:∀{i:Int} {e:SNode} (k:Nat),at? d i=some e→szN d (k+1) i=if e.1=2 then 1 else if e.1=3 then e.2.2.2.2.2.2.length else if e.1=4∨e.1=5 then szN d k e.2.1+szN d k e.2.2.1 else if e.1=6 then szN d k e.2.1 else if e.1=7 then e.2.2.2.2.1.toNat*szN d k e.2.1 else 0:=fun {i e} k he=>by
  simp only [szN,he]
 induction h with
 | leaf he hk hx h0=>
  rename_i i e
  intro k hlt;have hl:=look_at he;rw [hl] at hlt ⊢;cases k with
  | zero=>have:=wgt1_ok (e:=e) (zi1 (wl_ok (d:=d) (i:=i.toNat) (by have:=zbv he;omega)) e.2.1) (zi1 (wl_ok (d:=d) (i:=i.toNat) (by have:=zbv he;omega)) e.2.2.1);show (0:Int)≤_;omega
  | succ k=>
   rw [hs k he];unfold zpw at hlt ⊢;rcases hk with k1 | k1 | k1
   ·simp only [k1] at hlt ⊢;simp;try omega
   ·simp only [k1] at hlt ⊢;simp;try omega
   ·simp only [k1] at hlt ⊢;simp at hlt ⊢;omega
 | one he hk ha hb hr h ih=>
  rename_i f i e
  intro k hlt;have hle:=h.le;have hbd:=zbv he;have hl:=look_at he;rw [ha,zm4 (i:=i.toNat) (by omega) (by omega) (by omega)] at hl;have hA:=hok (i-1);have hw:=wgt1_ok (e:=e) (a:=zf7 (wl d d.length) (i-1)) hA (zi1 (wl_ok (d:=d) (i:=i.toNat) (by omega)) e.2.2.1);rw [hl] at hlt ⊢;cases k with
  | zero=>show (0:Int)≤_;omega
  | succ k=>
   rw [hs k he,ha];have ih:=ih k;unfold zpw at hlt ⊢;rcases hk with k1 | k1 | k1 | k1
   ·simp only [k1] at hlt ⊢;simp at hlt ⊢;have:=ih (by omega);omega
   ·have hr:=hr k1;simp only [k1] at hlt ⊢;simp only [show ¬ ((7:Int)=2) by decide,show ¬ ((7:Int)=3) by decide,show ¬ ((7:Int)=4∨(7:Int)=5) by decide,show ¬ ((7:Int)=6) by decide,if_false,if_true] at hlt ⊢;have hx:1+max 0 (min e.2.2.2.2.1 1000)=1+e.2.2.2.2.1:=by omega
    rw [hx] at hlt ⊢;have hA2:zf7 (wl d d.length) (i-1)<1000:=by
     rcases Int.lt_or_le (zf7 (wl d d.length) (i-1)) 1000 with h | h
     ·exact h
     ·have h2:zf7 (wl d d.length) (i-1)≤(1+e.2.2.2.2.1)*zf7 (wl d d.length) (i-1):=by
       have:=Int.mul_le_mul_of_nonneg_right (show (1:Int)≤1+e.2.2.2.2.1 by omega) hA.1;omega
      omega
    have ih:=ih hA2;have e1:(((e.2.2.2.2.1.toNat*szN d k (i-1):Nat)):Int)=e.2.2.2.2.1*(szN d k (i-1):Int):=by
     rw [Int.natCast_mul,Int.toNat_of_nonneg (by omega)]
    rw [e1];have h3:e.2.2.2.2.1*(szN d k (i-1):Int)≤(1+e.2.2.2.2.1)*zf7 (wl d d.length) (i-1):=Int.mul_le_mul (by omega) ih (by omega) (by omega);omega
   ·exact absurd k1 (hn _ (at_mem he)).1
   ·exact absurd k1 (hn _ (at_mem he)).2
 | two he hk ha hb h1 h2 i1 i2=>
  rename_i f p i e
  intro k hlt;have l1:=h1.le;have l2:=h2.le;have hbd:=zbv he;have hl:=look_at he;rw [ha,hb,zm4 (i:=i.toNat) (by omega) (by omega) (by omega),zm4 (i:=i.toNat) (by omega) (by omega) (by omega)] at hl;have hA:=hok (p-1);have hB:=hok (i-1);rw [hl] at hlt ⊢;have hw:zpw e (zf7 (wl d d.length) (p-1)) (zf7 (wl d d.length) (i-1))=zf7 (wl d d.length) (p-1)+zf7 (wl d d.length) (i-1):=by
   unfold zpw;rw [if_neg (by omega),if_neg (by omega),if_pos hk]
  rw [hw] at hlt ⊢;cases k with
  | zero=>show (0:Int)≤_;omega
  | succ k=>
   rw [hs k he,ha,hb,if_neg (by omega),if_neg (by omega),if_pos hk];have j1:=i1 k (by omega);have j2:=i2 k (by omega);rw [Int.natCast_add];omega
theorem Heavy_ex {d:List SNode} (hl:d.length≤1000):∃r,zby d r∧(r=false→∀n∈d,n.1≠8∧n.1≠9):=by
 rcases Classical.em (∀n∈d,n.1≠8∧n.1≠9) with hn | hn
 ·refine ⟨false, ?_,fun _=>hn⟩;refine zgx (P:=fun k (_:Unit) v=>zby.l1 d false _ k v) d.length (fun _ _=>True) ?_ ?_ () trivial
  ·intro i _ hi _;have:=hn _ (List.getElem_mem hi);refine .inr ⟨(),trivial,fun k hk=>⟨fun _=>⟨_,zf3 hi,_,fun _=>zf3 hi,fun h=>?_,fun _=>⟨zh (by omega) (by omega),hk⟩⟩,fun h=>absurd (by omega) (df h)⟩⟩;simp [this.1,this.2] at h
  ·intro _ _ k;exact ⟨fun h=>absurd (dt h) (by omega),fun _=>rfl⟩
 ·refine ⟨true, ?_,(fun h=>by cases h)⟩;refine zgx (P:=fun k (_:Unit) v=>zby.l1 d true _ k v) d.length (fun i _=>∀n∈d.take i,n.1≠8∧n.1≠9) ?_ ?_ () (by simp)
  ·intro i _ hi hI
   by_cases hb:d[i].1=8∨d[i].1=9
   ·exact .inl fun k=>⟨fun _=>⟨_,zf3 hi,_,fun _=>zf3 hi,fun _=>rfl,fun h=>by
     rcases hb with hb | hb <;> simp [hb] at h⟩,fun h=>absurd (by omega) (df h)⟩
   ·refine .inr ⟨(),fun n hnm=>?_,fun k hk=>⟨fun _=>⟨_,zf3 hi,_,fun _=>zf3 hi,fun _=>rfl,fun _=>⟨zh (by omega) (by omega),hk⟩⟩,fun h=>absurd (by omega) (df h)⟩⟩;rw [List.take_succ_eq_append_getElem hi,List.mem_append,List.mem_singleton] at hnm;rcases hnm with h | rfl
    ·exact hI n h
    ·omega
  ·intro _ hI k;rw [List.take_length] at hI;exact absurd hI hn
theorem Light_ex {d:List SNode} (hl:d.length≤1000) (b:Int):∃r,zgq d d b r∧(r=true→b≤10∨∀n∈d,n.1≠8∧n.1≠9):=by
 obtain ⟨r,h1,h2⟩:=Heavy_ex hl;refine ⟨_,⟨r,fun _=>h1,r,fun _=>h1,rfl⟩,fun h=>?_⟩;simp only [Bool.or_eq_true,decide_eq_true_eq,Bool.and_eq_true,Bool.not_eq_true'] at h;exact h.imp id fun h=>h2 h.1
theorem few18_ex {d:List SNode} (ht:Txt d):∃r,zk2 d r∧(r=true→Rt d∧d.length≤16∧((∀n∈d,n.1≠8∧n.1≠9)→szN d d.length ((d.length:Int)-1)≤60)):=by
 obtain ⟨r3,h3,h3b⟩:=few_ex ht;cases r3
 ·exact ⟨false,⟨false,h3,0,(fun h=>by simp at h),_,rfl,false,(fun h=>by simp at h),by simp⟩,(fun h=>by cases h)⟩
 ·have hl:=h3b rfl;have hw:=zn4 hl;obtain ⟨r9,h9,h9b⟩:=right_ok (d:=d) (by omega) ht;refine ⟨_,⟨true,h3,_,fun _=>hw,_,rfl,r9,fun _=>h9,rfl⟩,fun h=>?_⟩;simp only [Bool.true_and,Bool.and_eq_true,decide_eq_true_eq] at h;obtain ⟨⟨g1,g2⟩,g3⟩:=h;have hR:=h9b g3;refine ⟨hR,by omega,fun hn=>?_⟩;have hp:=List.length_pos_iff.2 hR.ne;rw [if_neg (by omega)] at g2;have:=sz_wgt hn hR.tr d.length (by omega);omega
theorem lk_of {d:List SNode} {b:Int} (h1:b≤10∨∀n∈d,n.1≠8∧n.1≠9) (h2:(∀n∈d,n.1≠8∧n.1≠9)→szN d d.length ((d.length:Int)-1)≤60):Lk d b:=
 h1.elim .inr fun h=>.inl ⟨nf_of h _ _,Nat.le_trans (h2 h) (by omega)⟩
theorem zga {d:List SNode} (h:Rt d) (hl:d.length≤16) (ht:Txt d) {b:Int} (hb:b≤1000) (hk:Lk d b):zd4 d b (zdj (zgm (zfm d) b)).1:=⟨_,zh5 h.ne (by omega),_,walk_sets h hl ht hb hk,rfl⟩
theorem zpu {d:List SNode} (h:Rt d) (hl:d.length≤16) (ht:Txt d) {w:List Int} (hw:∀c∈w,InR .u8 c) (hwl:w.length≤8):zh3 d w (endS d (zgh d w)):=by
 have hp:pas d.length w.length≤2000000000:=zrn (m':=16) (k':=17) (by omega) (by omega) pas_16_17;have:=znb h hw;exact ⟨_,zqw h (by omega) ht hw (by omega) hp,_,ziv (fun s hs=>(zja h (by omega) ht hw hs).1) (by omega),rfl⟩
theorem text_rt {n:SNode} (hk:n.1=3) (h0:n.2.1=0∧n.2.2.1=0) (hx:n.2.2.2.2.2.2≠[]):Rt [n]:=by
 have tr:Tr [n] 0 ((([n]:List SNode).length:Int)-1):=.leaf (e:=n) rfl (by omega) (fun _=>hx) h0;have nk:=tr.nok;refine ⟨⟨nk.two,nk.one,nk.rep,nk.kind,nk.ntx,fun i m hm h67=>?_⟩,tr⟩;obtain ⟨_,rfl⟩:=at_one hm;omega
def dDot:List SNode:=[(2,0,0,0,0,Cl.row 0 255,([]:Str))]
def dA:List SNode:=[(3,0,0,0,0,(0#256),([97]:Str))]
def dNo:List SNode:=[(2,0,0,0,0,(0#256),([]:Str))]
def dDA:List SNode:=zky 4 dDot dA
theorem dDot_rt:Rt dDot:=leaf_rt (.inr rfl) ⟨rfl,rfl⟩
theorem dNo_rt:Rt dNo:=leaf_rt (.inr rfl) ⟨rfl,rfl⟩
theorem dA_rt:Rt dA:=text_rt rfl ⟨rfl,rfl⟩ (by decide)
theorem dDA_rt:Rt dDA:=pair_rt dDot_rt dA_rt (.inl rfl)
theorem zsc:Txt dDA:=fun n hn=>by
 have:∀n∈dDA,n.2.2.2.2.2.2.length≤1:=by decide +kernel
 have:=this n hn;omega
theorem dNo_txt:Txt dNo:=small_txt (by decide +kernel)
def setsH (d:List SNode):Sch TS:=⟨[stS d],fun l=>((zge (zm7 d l)).map fun n:Nat=>(n:Int)).map fun c=>(c,onS d c l),endS d⟩
theorem sets_H (d:List SNode):zfm d=setsH d:=by
 unfold zfm setsH zkj bytS
 congr 1
 funext l;rw [zox]
theorem awake18:zgs true:=by
 have u8:∀c:Int,0≤c∧c≤255→InR .u8 c:=fun c h=>zcy.2 h;have w1:zd4 dDA 9 (2,[0,97],[],0,0,0,4):=by
  have:=zga dDA_rt (by decide +kernel) zsc (b:=9) (by decide) (.inr (by decide))
  rwa [sets_H,show (zdj (zgm (setsH dDA) 9)).1=(2,[0,97],[],0,0,0,4) by decide +kernel] at this
 have w2:zd4 dNo 9 (1,[],[],0,0,0,2):=by
  have:=zga dNo_rt (by decide +kernel) dNo_txt (b:=9) (by decide) (.inr (by decide))
  rwa [sets_H,show (zdj (zgm (setsH dNo) 9)).1=(1,[],[],0,0,0,2) by decide +kernel] at this
 have w3:zd4 dDA 1 (3,[],[],0,0,0,1):=by
  have:=zga dDA_rt (by decide +kernel) zsc (b:=1) (by decide) (.inr (by decide))
  rwa [sets_H,show (zdj (zgm (setsH dDA) 1)).1=(3,[],[],0,0,0,1) by decide +kernel] at this
 have bs:∀x y:Int,0≤x∧x≤255→0≤y∧y≤255→∀c∈[x,y],InR .u8 c:=fun x y hx hy c hc=>by
  rcases List.mem_cons.1 hc with rfl | hc
  ·exact u8 _ hx
  ·rw [List.mem_singleton.1 hc];exact u8 _ hy
 have i1:zh3 dDA [120,97] true:=by
  have:=zpu dDA_rt (by decide +kernel) zsc (w:=[120,97]) (bs _ _ (by decide) (by decide)) (by decide)
  rwa [show endS dDA (zgh dDA [120,97])=true by decide +kernel] at this
 have i2:zh3 dDA [97,120] false:=by
  have:=zpu dDA_rt (by decide +kernel) zsc (w:=[97,120]) (bs _ _ (by decide) (by decide)) (by decide)
  rwa [show endS dDA (zgh dDA [97,120])=false by decide +kernel] at this
 refine ⟨Cl.row 0 255,zix (u8 0 (by decide)) (u8 255 (by decide)),dDA,Pair_in dDot_rt.tr dA_rt.tr (by decide) (by decide),_,w1,_,w2,_,fun _=>zpm (by decide),_,rfl,_,fun _=>w3,_,fun _=>i1,_,fun _=>i2, ?_⟩;decide
theorem word_len {d:List SNode} {b:Int} {v:Int × List Int × Int × Option TS} (h:OutB (zfm d) b v):v.2.1.length≤b.toNat:=by
 cases h with
 | yes i hb h hno=>simp
 | no i q hb h hh hno=>
  have:=(zsj h).2.2;simp only;omega
 | limit _ _=>simp
theorem cut_ne {w:List Int}:∀{F:List Int→List Int→Nat},zek F w≠0↔∃a b,a++b=w∧F a b≠0:=by
 induction w with
 | nil=>
  intro F;refine ⟨fun h=>⟨[],[],rfl,h⟩,fun ⟨a,b,e,h⟩=>?_⟩;obtain ⟨rfl,rfl⟩:=List.append_eq_nil_iff.1 e;exact h
 | cons c w ih=>
  intro F;unfold zek;constructor
  ·intro h
   by_cases h0:F [] (c::w)=0
   ·obtain ⟨a,b,e,k⟩:=(ih (F:=fun a b=>F (c::a) b)).1 (by omega);exact ⟨c::a,b,by rw [← e];rfl,k⟩
   ·exact ⟨[],c::w,rfl,h0⟩
  ·rintro ⟨a,b,e,k⟩;cases a with
   | nil=>simp at e;subst e;omega
   | cons x a=>
    simp at e;obtain ⟨rfl,e⟩:=e;have:=(ih (F:=fun a b=>F (x::a) b)).2 ⟨a,b,e,k⟩;omega
theorem sumK_ne {K:Nat} {f:Nat→Nat}:zen K f≠0↔∃k,k<K∧f k≠0:=by
 induction K with
 | zero=>simp [zen]
 | succ K ih=>
  rw [zc1];constructor
  ·intro h
   by_cases h0:f K=0
   ·obtain ⟨k,h1,h2⟩:=ih.1 (by omega);exact ⟨k,by omega,h2⟩
   ·exact ⟨K,by omega,h0⟩
  ·rintro ⟨k,h1,h2⟩
   by_cases hk:k=K
   ·subst hk;omega
   ·have:=ih.2 ⟨k,by omega,h2⟩;omega
theorem pow_ge {f:List Int→Nat} {m:Nat} {B:Int→Prop} (hf:∀u,(∀c∈u,B c)→f u≠0→m≤u.length):∀(t:Nat) (u:List Int),(∀c∈u,B c)→zhe f t u≠0→m*t≤u.length
 | 0,u,_,_=>by simp
 | t+1,u,hu,h=>by
  rw [zfw] at h;obtain ⟨a,b,e,k⟩:=cut_ne.1 h;have h1:=Nat.mul_ne_zero_iff.1 k;have h2:=pow_ge hf t a (fun c hc=>hu c (by rw [← e];simp [hc])) h1.1;have h3:=hf b (fun c hc=>hu c (by rw [← e];simp [hc])) h1.2;rw [← e,List.length_append,Nat.mul_succ];omega
theorem pow_has {f:List Int→Nat} {u:List Int} {B:Int→Prop} (hu:∀c∈u,B c) (h:f u≠0):∀t:Nat,∃w,(∀c∈w,B c)∧zhe f t w≠0∧w.length=u.length*t
 | 0=>⟨[],(fun c h=>by cases h),by simp [zhe],by simp⟩
 | t+1=>by
  obtain ⟨w,h1,h2,h3⟩:=pow_has hu h t;refine ⟨w++u,fun c hc=>(List.mem_append.1 hc).elim (h1 c) (hu c), ?_,by rw [List.length_append,h3,Nat.mul_succ]⟩;rw [zfw];exact cut_ne.2 ⟨w,u,rfl,Nat.mul_ne_zero_iff.2 ⟨h2,h⟩⟩
structure ML (d:List SNode) (i lo:Int):Prop where
 le:-1≤lo∧lo≤140737488351232
 ge:∀w,(∀c∈w,InR .u8 c)→zbm d i w≠0→0≤lo∧lo≤w.length
 ex:0≤lo→lo<1099511627776→∃w,(∀c∈w,InR .u8 c)∧zbm d i w≠0∧(w.length:Int)=lo
theorem cls_none {x:Cl} (h:∀k:Int,0≤k→k<4→Cl.w x k=0) (c:Nat) (hc:c<256):x.has c=false:=by
 have h1:=h ((c / 64:Nat):Int) (by omega) (by omega);have h2:x.word (c / 64)=0:=by
  unfold Cl.w at h1;rw [Int.toNat_natCast] at h1;exact Int.natCast_eq_zero.1 h1
 have h3:=Cl.word_bit x (c / 64) (c % 64);rw [h2,Nat.zero_testBit,show 64*(c / 64)+c % 64=c by omega] at h3;have:c % 64<64:=Nat.mod_lt _ (by decide);simpa [this] using h3.symm
theorem cls_some {x:Cl} {k:Int} (h0:0≤k) (h1:k<4) (h:Cl.w x k≠0):∃c:Nat,c<256∧x.has c=true:=by
 unfold Cl.w at h;have h2:x.word k.toNat≠0:=fun e=>h (by rw [e];rfl);obtain ⟨j,hj⟩:=Nat.exists_testBit_of_ne_zero h2;rw [Cl.word_bit] at hj;simp only [Bool.and_eq_true,decide_eq_true_eq] at hj;exact ⟨64*k.toNat+j,by omega,hj.2⟩
theorem bytes10 {e:SNode} {r:Int × Int} {X:Prop} (hr:(∀k:Int,0≤k→k<4→Cl.w e.2.2.2.2.2.1 k=0)→X) (h1:(∃k:Int,0≤k∧k<4∧Cl.w e.2.2.2.2.2.1 k≠0)→r=(1,1)):∃k,zba.l1 e r X k 0:=by
 have st:∀(m:Nat) (i:Nat),m+i=4→(∀k:Int,0≤k→k<i→Cl.w e.2.2.2.2.2.1 k=0)→zba.l1 e r X (m+1) (i:Int):=by
  intro m
  induction m with
  | zero=>intro i hi h;exact ⟨fun hb=>absurd (dt hb) (by omega),fun _=>hr fun k k0 k4=>h k k0 (by omega)⟩
  | succ m ih=>
   intro i hi h;refine ⟨fun _=>⟨by omega,fun hb=>h1 ⟨i,by omega,by omega,by simpa using hb⟩,fun hb=>⟨zh (by omega) (by omega), ?_⟩⟩,fun hb=>absurd (by omega) (df hb)⟩;have:=ih (i+1) (by omega) fun k k0 k1=>by
    by_cases hk:k=(i:Int)
    ·subst hk;simpa using hb
    ·exact h k k0 (by omega)
   simpa using this
 exact ⟨5,st 4 0 rfl (fun k a b=>by omega)⟩
theorem u8_nil:∀c∈([]:List Int),InR .u8 c:=fun c h=>by cases h
theorem one_b {x:Int}:-1≤(x,(-1:Int)).2∧(x,(-1:Int)).2≤140737488351232:=by simp
theorem node10 {d:List SNode} (hd:ROk d) (ht:Txt d) {f i:Int} (h:Tr d f i):∃r:Int × Int,(-1≤r.2∧r.2≤140737488351232)∧ML d i r.1∧∀k,(i-f+1).toNat≤k→zba.n k d i r:=by
 induction h with
 | leaf he hk hx h0=>
  rename_i i e
  have hte:=ht e (at_mem he);rcases hk with k1 | k1 | k1
  ·refine ⟨(0,0),by decide,⟨by decide,fun w hw h=>by simp,fun _ _=>⟨[],u8_nil,by rw [zqd hd he k1];simp,rfl⟩⟩,fun k hk=>?_⟩;obtain ⟨k,rfl⟩:∃q,k=q+1:=⟨k-1,by omega⟩;exact ⟨e,he,fun _=>rfl,fun h=>by simp [k1] at h⟩
  ·by_cases hc:∃k:Int,0≤k∧k<4∧Cl.w e.2.2.2.2.2.1 k≠0
   ·obtain ⟨k,a,b,c⟩:=hc;obtain ⟨x,hx1,hx2⟩:=cls_some a b c;refine ⟨(1,1),by decide,⟨by decide,fun w hw h=>?_,fun _ _=>⟨[(x:Int)],fun y hy=>by rw [List.mem_singleton.1 hy];exact zcy.2 (by omega),by rw [zjt hd he k1];simp [hx2],rfl⟩⟩,fun k hk=>?_⟩
    ·rw [zjt hd he k1] at h;cases w with
     | nil=>simp at h
     | cons y w=>simp;omega
    ·obtain ⟨k',rfl⟩:∃q,k=q+1:=⟨k-1,by omega⟩;exact ⟨e,he,fun h=>by simp [k1] at h,fun _=>⟨fun _=>bytes10 (fun h=>absurd (h _ a b) c) fun _=>rfl,fun h=>by simp [k1] at h⟩⟩
   ·have hn:∀k:Int,0≤k→k<4→Cl.w e.2.2.2.2.2.1 k=0:=fun k a b=>Classical.byContradiction fun c=>hc ⟨k,a,b,c⟩;refine ⟨(-1, -1),by decide,⟨by decide,fun w hw h=>?_,fun h=>by simp at h⟩,fun k hk=>?_⟩
    ·exfalso;rw [zjt hd he k1] at h;cases w with
     | nil=>simp at h
     | cons y w=>
      have hy:=zcy.1 (hw y (by simp));have:=cls_none hn y.toNat (by omega);simp [this] at h
    ·obtain ⟨k',rfl⟩:∃q,k=q+1:=⟨k-1,by omega⟩;exact ⟨e,he,fun h=>by simp [k1] at h,fun _=>⟨fun _=>bytes10 (fun _=>rfl) fun h=>absurd h hc,fun h=>by simp [k1] at h⟩⟩
  ·refine ⟨((e.2.2.2.2.2.2.length:Int),(e.2.2.2.2.2.2.length:Int)),by omega,⟨by omega,fun w hw h=>?_,fun _ _=>⟨e.2.2.2.2.2.2.map fun b=>(b.toNat:Int),fun c hc=>?_,by rw [zob hd he k1];simp,by simp⟩⟩,fun k hk=>?_⟩
   ·rw [zob hd he k1] at h;split at h
    ·rename_i e1;rw [e1];simp
    ·exact absurd rfl h
   ·obtain ⟨b,_,rfl⟩:=List.mem_map.1 hc;have:=b.toNat_lt;exact zcy.2 (by omega)
   ·obtain ⟨k',rfl⟩:∃q,k=q+1:=⟨k-1,by omega⟩;exact ⟨e,he,fun h=>by simp [k1] at h,fun _=>⟨fun h=>by simp [k1] at h,fun _=>⟨fun _=>rfl,fun h=>by simp [k1] at h⟩⟩⟩
 | one he hk ha hb hr h ih=>
  rename_i f i e
  have hle:=h.le;obtain ⟨⟨a,b⟩,hb1,hm,hrel⟩:=ih;have mle:=hm.le;simp only at mle hb1;rw [← ha] at hm;have go:∀(r:Int × Int),(∀k',(i-1-f+1).toNat≤k'→(((e.1==6))=true→((((decide (a<0))||(b==0)))=true→r=(0,0))∧((((decide (a<0))||(b==0)))=false→r=(0,(-1)))) ∧
    (((e.1==6))=false→(((e.1==7))=true→∃b35:Bool,b35=((decide (a<0))&&(decide (0<e.2.2.2.1)))∧((b35)=true→r=((-1),(-1)))∧((b35)=false→((((decide (a<0))||(e.2.2.2.2.1==0)))=true→r=(0,0))∧((((decide (a<0))||(e.2.2.2.2.1==0)))=false→(InR .i64 (a*e.2.2.2.1))∧((decide (b<0))=true→r=((min 1099511627776 (a*e.2.2.2.1)),(-1)))∧((decide (b<0))=false→(InR .i64 (b*e.2.2.2.2.1))∧∃r41:Int,zef (b*e.2.2.2.2.1) r41∧r=((min 1099511627776 (a*e.2.2.2.1)),r41))))) ∧
    (((e.1==7))=false→(((e.1==9))=true→(zba.j3 r (a,b)) 65535 2)∧(((e.1==9))=false→(zba.j3 r (a,b)) 255 1))))→∀k,(i-f+1).toNat≤k→zba.n k d i r:=fun r hr k hk2=>by
   obtain ⟨k,rfl⟩:∃q,k=q+1:=⟨k-1,by omega⟩;have h45:(e.1==4)=false∧(e.1==5)=false∧(e.1==1)=false∧(e.1==2)=false∧(e.1==3)=false:=by
    refine ⟨?_, ?_, ?_, ?_, ?_⟩ <;> (rw [beq_eq_false_iff_ne];omega)
   refine ⟨e,he,fun h=>(by rw [h45.2.2.1] at h;cases h),fun _=>⟨fun h=>(by rw [h45.2.2.2.1] at h;cases h),fun _=>⟨fun h=>(by rw [h45.2.2.2.2] at h;cases h),fun _=>⟨(a,b),by rw [ha];exact hrel k (by omega),fun h=>(by rw [h45.1] at h;cases h),fun _=>⟨fun h=>(by rw [h45.2.1] at h;cases h),fun _=>hr k (by omega)⟩⟩⟩⟩⟩
  have fr:∀(most head:Int),0≤most→most≤65535→1≤head→head≤2→∃r:Int × Int,(-1≤r.2∧r.2≤140737488351232)∧zba.j3 r (a,b) most head∧((a<0∨most<a)∧r.1 = -1∨(0≤a∧a≤most)∧r.1=a+head):=fun most head m0 m1 h0 h1=>by
   by_cases hc:a<0∨most<a
   ·exact ⟨(-1, -1),by decide,⟨true,by simpa using hc,fun _=>rfl,(fun h=>by cases h)⟩,.inl ⟨hc,rfl⟩⟩
   ·by_cases hc2:b<0∨most<b
    ·refine ⟨(a+head,most+head),by simp only;omega,⟨false, ?_,(fun h=>by cases h),fun _=>⟨true,by simpa using hc2,fun _=>⟨zh (by omega) (by omega),zh (by omega) (by omega),rfl⟩,(fun h=>by cases h)⟩⟩,.inr ⟨by omega,rfl⟩⟩;have:decide (a<0)=false∧decide (most<a)=false:=⟨decide_eq_false (by omega),decide_eq_false (by omega)⟩;simp only [this.1,this.2];rfl
    ·refine ⟨(a+head,b+head),by simp only;omega,⟨false, ?_,(fun h=>by cases h),fun _=>⟨false, ?_,(fun h=>by cases h),fun _=>⟨zh (by omega) (by omega),zh (by omega) (by omega),rfl⟩⟩⟩,.inr ⟨by omega,rfl⟩⟩
     ·have:decide (a<0)=false∧decide (most<a)=false:=⟨decide_eq_false (by omega),decide_eq_false (by omega)⟩;simp only [this.1,this.2];rfl
     ·have:decide (b<0)=false∧decide (most<b)=false:=⟨decide_eq_false (by omega),decide_eq_false (by omega)⟩;simp only [this.1,this.2];rfl
  rcases hk with k1 | k1 | k1 | k1
  ·have e6:(e.1==6)=true:=by simp [k1]
   have mk:∀x:Int,ML d i 0:=fun _=>⟨by decide,fun w hw h=>by omega,fun _ _=>⟨[],u8_nil,by rw [node_star hd he k1];simp,rfl⟩⟩;cases hc:((decide (a<0))||(b==0))
   ·exact ⟨(0, -1),by decide,mk 0,go _ fun k' _=>⟨fun _=>⟨fun h=>(by rw [hc] at h;cases h),fun _=>rfl⟩,fun h=>(by rw [e6] at h;cases h)⟩⟩
   ·exact ⟨(0,0),by decide,mk 0,go _ fun k' _=>⟨fun _=>⟨fun _=>rfl,fun h=>(by rw [hc] at h;cases h)⟩,fun h=>(by rw [e6] at h;cases h)⟩⟩
  ·obtain ⟨r0,r1,r2⟩:=hr k1;have e6:(e.1==6)=false:=by simp [k1]
   have e7:(e.1==7)=true:=by simp [k1]
   obtain ⟨hi,hhi⟩:∃hi:Nat,e.2.2.2.2.1=(hi:Int):=⟨e.2.2.2.2.1.toNat,by omega⟩;obtain ⟨lo,hlo⟩:∃lo:Nat,e.2.2.2.1=(lo:Int):=⟨e.2.2.2.1.toNat,by omega⟩;have eq:∀w,zbm d i w=zen (hi+1) fun t=>if e.2.2.2.1≤(t:Int) then zhe (zbm d e.2.1) t w else 0:=fun w=>by
    rw [node_rep hd he k1,hhi];exact rep_pow (R:=fun lo hi u=>wyn d u [(2,i,lo,hi)]) (f:=zbm d e.2.1) (fun lo hi u=>item_rep hd he k1 lo hi u) hi e.2.2.2.1 w r0 (by omega)
   have rd:∀w,(∀c∈w,InR .u8 c)→zbm d i w≠0→∃t:Nat,lo≤t∧t≤hi∧zhe (zbm d e.2.1) t w≠0:=fun w hw h=>by
    rw [eq] at h;obtain ⟨t,t1,t2⟩:=sumK_ne.1 h;split at t2
    ·exact ⟨t,by omega,by omega,t2⟩
    ·exact absurd rfl t2
   have mkw:∀(t:Nat) w,lo≤t→t≤hi→zhe (zbm d e.2.1) t w≠0→zbm d i w≠0:=fun t w h1 h2 h3=>by
    rw [eq];exact sumK_ne.2 ⟨t,by omega,by rw [if_pos (by omega)];exact h3⟩
   have m0:lo=0→ML d i 0:=fun h0=>⟨by decide,fun w hw h=>by omega,fun _ _=>⟨[],u8_nil,mkw 0 [] (by omega) (by omega) (by simp [zhe]),rfl⟩⟩
   by_cases c1:a<0∧0<lo
   ·refine ⟨(-1, -1),by decide,⟨by decide,fun w hw h=>?_,fun h=>by simp at h⟩,go _ fun k' _=>⟨fun h=>(by rw [e6] at h;cases h),fun _=>⟨fun _=>⟨true, ?_,fun _=>rfl,(fun h=>by cases h)⟩,fun h=>(by rw [e7] at h;cases h)⟩⟩⟩
    ·exfalso;obtain ⟨t,t1,t2,t3⟩:=rd w hw h;obtain ⟨t,rfl⟩:∃q,t=q+1:=⟨t-1,by omega⟩;rw [zfw] at t3;obtain ⟨x,y,exy,hxy⟩:=cut_ne.1 t3;have:=(hm.ge y (fun c hc=>hw c (by rw [← exy];simp [hc])) (Nat.mul_ne_zero_iff.1 hxy).2).1;omega
    ·have:decide (a<0)=true∧decide (0<e.2.2.2.1)=true:=⟨decide_eq_true c1.1,decide_eq_true (by omega)⟩;rw [this.1,this.2];rfl
   ·have b35:(false:Bool)=((decide (a<0))&&(decide (0<e.2.2.2.1))):=by
     by_cases q:a<0
     ·have:decide (0<e.2.2.2.1)=false:=decide_eq_false (by omega);rw [this,Bool.and_false]
     ·rw [decide_eq_false q];rfl
    by_cases c2:a<0∨e.2.2.2.2.1=0
    ·have hb2:((decide (a<0))||(e.2.2.2.2.1==0))=true:=by simpa using c2
     exact ⟨(0,0),by decide,m0 (by omega),go _ fun k' _=>⟨fun h=>(by rw [e6] at h;cases h),fun _=>⟨fun _=>⟨false,b35,(fun h=>by cases h),fun _=>⟨fun _=>rfl,fun h=>(by rw [hb2] at h;cases h)⟩⟩,fun h=>(by rw [e7] at h;cases h)⟩⟩⟩
    ·have hb2:((decide (a<0))||(e.2.2.2.2.1==0))=false:=by
      have:decide (a<0)=false∧(e.2.2.2.2.1==0)=false:=⟨decide_eq_false (by omega),by rw [beq_eq_false_iff_ne];omega⟩;rw [this.1,this.2];rfl
     have p1:0≤a*e.2.2.2.1∧a*e.2.2.2.1≤140737488351232*255:=⟨Int.mul_nonneg (by omega) r0,Int.mul_le_mul (by omega) (by omega) r0 (by decide)⟩;have p2:b*e.2.2.2.2.1≤140737488351232*255∧(0≤b→0≤b*e.2.2.2.2.1):=by
      refine ⟨?_,fun q=>Int.mul_nonneg q (by omega)⟩
      by_cases q:0≤b
      ·exact Int.mul_le_mul (by omega) (by omega) (by omega) (by decide)
      ·have:b = -1:=by omega
       rw [this];omega
     have ml:ML d i (min 1099511627776 (a*e.2.2.2.1)):=by
      refine ⟨by omega,fun w hw h=>?_,fun q1 q2=>?_⟩
      ·obtain ⟨t,t1,t2,t3⟩:=rd w hw h;have:=pow_ge (f:=zbm d e.2.1) (m:=a.toNat) (B:=fun c=>InR .u8 c) (fun u hu hn=>by have:=(hm.ge u hu hn).2;omega) t w hw t3;have k2:a*e.2.2.2.1≤((a.toNat*t:Nat):Int):=by
        rw [Int.natCast_mul,Int.toNat_of_nonneg (by omega)];exact Int.mul_le_mul_of_nonneg_left (by omega) (by omega)
       omega
      ·have hlt:a*e.2.2.2.1<1099511627776:=by omega
       by_cases l0:lo=0
       ·refine ⟨[],u8_nil,mkw 0 [] (by omega) (by omega) (by simp [zhe]), ?_⟩;rw [hlo,l0,show a*((0:Nat):Int)=0 by simp];rfl
       ·have ha2:a<1099511627776:=by
         have:a*1≤a*e.2.2.2.1:=Int.mul_le_mul_of_nonneg_left (by omega) (by omega);omega
        obtain ⟨u,u1,u2,u3⟩:=hm.ex (by omega) ha2;obtain ⟨w,w1,w2,w3⟩:=pow_has (f:=zbm d e.2.1) u1 u2 lo;refine ⟨w,w1,mkw lo w (Nat.le_refl _) (by omega) w2, ?_⟩;have u3:(u.length:Int)=a:=u3;rw [w3,Int.natCast_mul,u3,← hlo];omega
     cases hbn:decide (b<0)
     ·have hb0:0≤b:=by have:=of_decide_eq_false hbn;omega
      obtain ⟨v,hv1,hv2⟩:∃v,zef (b*e.2.2.2.2.1) v∧(-1≤v∧v≤140737488351232):=by
       have:=p2.2 hb0
       by_cases q:1099511627776<b*e.2.2.2.2.1
       ·exact ⟨-1,⟨fun _=>rfl,fun h=>absurd q (df h)⟩,by decide⟩
       ·exact ⟨_,⟨fun h=>absurd (dt h) q,fun _=>rfl⟩,by omega⟩
      refine ⟨(min 1099511627776 (a*e.2.2.2.1),v),hv2,ml,go _ fun k' _=>⟨fun h=>(by rw [e6] at h;cases h),fun _=>⟨fun _=>⟨false,b35,(fun h=>by cases h),fun _=>⟨fun h=>(by rw [hb2] at h;cases h),fun _=>⟨zh (by omega) (by omega),fun h=>(by rw [hbn] at h;cases h),fun _=>⟨zh (by have:=p2.2 hb0;omega) (by omega),v,hv1,rfl⟩⟩⟩⟩,fun h=>(by rw [e7] at h;cases h)⟩⟩⟩
     ·refine ⟨(min 1099511627776 (a*e.2.2.2.1), -1),one_b,ml,go _ fun k' _=>⟨fun h=>(by rw [e6] at h;cases h),fun _=>⟨fun _=>⟨false,b35,(fun h=>by cases h),fun _=>⟨fun h=>(by rw [hb2] at h;cases h),fun _=>⟨zh (by omega) (by omega),fun _=>rfl,fun h=>(by rw [hbn] at h;cases h)⟩⟩⟩,fun h=>(by rw [e7] at h;cases h)⟩⟩⟩
  ·obtain ⟨r,rb,rj,rc⟩:=fr 255 1 (by decide) (by decide) (by decide) (by decide);have e6:(e.1==6)=false∧(e.1==7)=false∧(e.1==9)=false:=by simp [k1]
   refine ⟨r,rb, ?_,go _ fun k' _=>⟨fun h=>(by rw [e6.1] at h;cases h),fun _=>⟨fun h=>(by rw [e6.2.1] at h;cases h),fun _=>⟨fun h=>(by rw [e6.2.2] at h;cases h),fun _=>rj⟩⟩⟩⟩;have p0:∀w:List Int,(∀c∈w,InR .u8 c)→∀c∈w,0≤c:=fun w hw c hc=>(zcy.1 (hw c hc)).1;have rdf:∀w,(∀c∈w,InR .u8 c)→zbm d i w≠0→∃c u,w=c::u∧(u.length:Int)=c∧zbm d e.2.1 u≠0:=fun w hw h=>by
    rw [zjs hd he k1 w (p0 w hw)] at h;cases w with
    | nil=>simp at h
    | cons c u=>
     simp only at h;split at h
     ·rename_i q;exact ⟨c,u,rfl,q,h⟩
     ·exact absurd rfl h
   rcases rc with ⟨q1,q2⟩ | ⟨q1,q2⟩
   ·rw [q2];refine ⟨by decide,fun w hw h=>?_,fun h=>by simp at h⟩;exfalso;obtain ⟨c,u,rfl,u1,u2⟩:=rdf w hw h;have:=hm.ge u (fun c hc=>hw c (by simp [hc])) u2;have:=zcy.1 (hw c (by simp));omega
   ·rw [q2];refine ⟨by omega,fun w hw h=>?_,fun _ _=>?_⟩
    ·obtain ⟨c,u,rfl,u1,u2⟩:=rdf w hw h;have:=hm.ge u (fun c hc=>hw c (by simp [hc])) u2;rw [List.length_cons];omega
    ·obtain ⟨u,u1,u2,u3⟩:=hm.ex (by omega) (by omega);have hb8:∀c∈a::u,InR .u8 c:=fun c hc=>(List.mem_cons.1 hc).elim (fun e=>by rw [e];exact zcy.2 (by omega)) (u1 c);refine ⟨a::u,hb8, ?_,by rw [List.length_cons];omega⟩;rw [zjs hd he k1 _ (p0 _ hb8)];simp only;rw [if_pos u3];exact u2
  ·obtain ⟨r,rb,rj,rc⟩:=fr 65535 2 (by decide) (by decide) (by decide) (by decide);have e6:(e.1==6)=false∧(e.1==7)=false∧(e.1==9)=true:=by simp [k1]
   refine ⟨r,rb, ?_,go _ fun k' _=>⟨fun h=>(by rw [e6.1] at h;cases h),fun _=>⟨fun h=>(by rw [e6.2.1] at h;cases h),fun _=>⟨fun _=>rj,fun h=>(by rw [e6.2.2] at h;cases h)⟩⟩⟩⟩;have p0:∀w:List Int,(∀c∈w,InR .u8 c)→∀c∈w,0≤c:=fun w hw c hc=>(zcy.1 (hw c hc)).1;have rdf:∀w,(∀c∈w,InR .u8 c)→zbm d i w≠0→∃c c2 u,w=c::c2::u∧(u.length:Int)=256*c+c2∧zbm d e.2.1 u≠0:=fun w hw h=>by
    rw [ziy hd he k1 w (p0 w hw)] at h;cases w with
    | nil=>simp at h
    | cons c w=>
     cases w with
     | nil=>simp at h
     | cons c2 u=>
      simp only at h;split at h
      ·rename_i q;exact ⟨c,c2,u,rfl,q,h⟩
      ·exact absurd rfl h
   rcases rc with ⟨q1,q2⟩ | ⟨q1,q2⟩
   ·rw [q2];refine ⟨by decide,fun w hw h=>?_,fun h=>by simp at h⟩;exfalso;obtain ⟨c,c2,u,rfl,u1,u2⟩:=rdf w hw h;have:=hm.ge u (fun c hc=>hw c (by simp [hc])) u2;have:=zcy.1 (hw c (by simp));have:=zcy.1 (hw c2 (by simp));omega
   ·rw [q2];refine ⟨by omega,fun w hw h=>?_,fun _ _=>?_⟩
    ·obtain ⟨c,c2,u,rfl,u1,u2⟩:=rdf w hw h;have:=hm.ge u (fun c hc=>hw c (by simp [hc])) u2;rw [List.length_cons,List.length_cons];omega
    ·obtain ⟨u,u1,u2,u3⟩:=hm.ex (by omega) (by omega);have hb8:∀c∈(a / 256)::(a % 256)::u,InR .u8 c:=fun c hc=>by
      rcases List.mem_cons.1 hc with rfl | hc
      ·exact zcy.2 (by omega)
      ·rcases List.mem_cons.1 hc with rfl | hc
       ·exact zcy.2 (by omega)
       ·exact u1 c hc
     refine ⟨(a / 256)::(a % 256)::u,hb8, ?_,by rw [List.length_cons,List.length_cons];omega⟩;rw [ziy hd he k1 _ (p0 _ hb8)];simp only;rw [if_pos (by omega)];exact u2
 | two he hk ha hb h1 h2 i1 i2=>
  rename_i f p i e
  have l1:=h1.le;have l2:=h2.le;obtain ⟨⟨x,y⟩,xb,xm,xr⟩:=i1;obtain ⟨⟨a,b⟩,ab,am,ar⟩:=i2;rw [← ha] at am;rw [← hb] at xm;have xl:=xm.le;have al:=am.le;simp only at xl al xb ab;have h123:(e.1==1)=false∧(e.1==2)=false∧(e.1==3)=false:=by
   refine ⟨?_, ?_, ?_⟩ <;> (rw [beq_eq_false_iff_ne];omega)
  have go:∀(r:Int × Int),((((e.1==4))=true→((((decide (a<0))||(decide (x<0))))=true→r=((-1),(-1)))∧((((decide (a<0))||(decide (x<0))))=false→(InR .i64 (a+x))∧((((decide (b<0))||(decide (y<0))))=true→r=((min 1099511627776 (a+x)),(-1)))∧((((decide (b<0))||(decide (y<0))))=false→(InR .i64 (b+y))∧∃r26:Int,zef (b+y) r26∧r=((min 1099511627776 (a+x)),r26)))) ∧
    (((e.1==4))=false→((decide (a<0))=true→r=(x,y))∧((decide (a<0))=false→((decide (x<0))=true→r=(a,b))∧((decide (x<0))=false→((((decide (b<0))||(decide (y<0))))=true→r=((min a x),(-1)))∧((((decide (b<0))||(decide (y<0))))=false→r=((min a x),(max b y)))))))→∀k,(i-f+1).toNat≤k→zba.n k d i r:=fun r hr k hk2=>by
   obtain ⟨k,rfl⟩:∃q,k=q+1:=⟨k-1,by omega⟩;have hxr:=xr k (by omega);rw [← hb] at hxr;have har:=ar k (by omega);rw [← ha] at har;have e5:(e.1==4)=false→(e.1==5)=true:=fun q=>by
    rw [beq_eq_false_iff_ne] at q;simp;omega
   exact ⟨e,he,fun h=>(by rw [h123.1] at h;cases h),fun _=>⟨fun h=>(by rw [h123.2.1] at h;cases h),fun _=>⟨fun h=>(by rw [h123.2.2] at h;cases h),fun _=>⟨(a,b),har,fun h=>⟨(x,y),hxr,hr.1 h⟩,fun h=>⟨fun _=>⟨(x,y),hxr,hr.2 h⟩,fun h'=>(by rw [e5 h] at h';cases h')⟩⟩⟩⟩⟩
  rcases hk with k1 | k1
  ·have e4:(e.1==4)=true:=by simp [k1]
   have nf4:∀{p:Prop},(e.1==4)=false→p:=fun h=>by rw [e4] at h;cases h
   have rd:∀w,(∀c∈w,InR .u8 c)→zbm d i w≠0→(0≤a∧0≤x)∧a+x≤w.length:=fun w hw h=>by
    rw [zrp hd he k1] at h;obtain ⟨u,v,euv,huv⟩:=cut_ne.1 h;have n:=Nat.mul_ne_zero_iff.1 huv;have q1:=am.ge u (fun c hc=>hw c (by rw [← euv];simp [hc])) n.1;have q2:=xm.ge v (fun c hc=>hw c (by rw [← euv];simp [hc])) n.2;rw [← euv,List.length_append];omega
   by_cases c1:a<0∨x<0
   ·have hb1:((decide (a<0))||(decide (x<0)))=true:=by simpa using c1
    exact ⟨(-1, -1),by decide,⟨by decide,fun w hw h=>(by have:=rd w hw h;omega),fun h=>by simp at h⟩,go _ ⟨fun _=>⟨fun _=>rfl,fun h=>(by rw [hb1] at h;cases h)⟩,nf4⟩⟩
   ·have hb1:((decide (a<0))||(decide (x<0)))=false:=by
     rw [decide_eq_false (by omega:¬ a<0),decide_eq_false (by omega:¬ x<0)];rfl
    have ml:ML d i (min 1099511627776 (a+x)):=by
     refine ⟨by omega,fun w hw h=>(by have:=rd w hw h;omega),fun q1 q2=>?_⟩;obtain ⟨u,u1,u2,u3⟩:=am.ex (by omega) (by omega);obtain ⟨v,v1,v2,v3⟩:=xm.ex (by omega) (by omega);refine ⟨u++v,fun c hc=>(List.mem_append.1 hc).elim (u1 c) (v1 c), ?_,by rw [List.length_append];omega⟩;rw [zrp hd he k1];exact cut_ne.2 ⟨u,v,rfl,Nat.mul_ne_zero_iff.2 ⟨u2,v2⟩⟩
    by_cases c2:b<0∨y<0
    ·have hb2:((decide (b<0))||(decide (y<0)))=true:=by simpa using c2
     exact ⟨(_, -1),one_b,ml,go _ ⟨fun _=>⟨fun h=>(by rw [hb1] at h;cases h),fun _=>⟨zh (by omega) (by omega),fun _=>rfl,fun h=>(by rw [hb2] at h;cases h)⟩⟩,nf4⟩⟩
    ·have hb2:((decide (b<0))||(decide (y<0)))=false:=by
      rw [decide_eq_false (by omega:¬ b<0),decide_eq_false (by omega:¬ y<0)];rfl
     obtain ⟨v,hv1,hv2⟩:∃v,zef (b+y) v∧(-1≤v∧v≤140737488351232):=by
      by_cases q:1099511627776<b+y
      ·exact ⟨-1,⟨fun _=>rfl,fun h=>absurd q (df h)⟩,by decide⟩
      ·exact ⟨_,⟨fun h=>absurd (dt h) q,fun _=>rfl⟩,by omega⟩
     exact ⟨(_,v),hv2,ml,go _ ⟨fun _=>⟨fun h=>(by rw [hb1] at h;cases h),fun _=>⟨zh (by omega) (by omega),fun h=>(by rw [hb2] at h;cases h),fun _=>⟨zh (by omega) (by omega),v,hv1,rfl⟩⟩⟩,nf4⟩⟩
  ·have e4:(e.1==4)=false:=by simp [k1]
   have nf4:∀{p:Prop},(e.1==4)=true→p:=fun h=>by rw [e4] at h;cases h
   have rd:∀w,zbm d i w≠0→zbm d e.2.1 w≠0∨zbm d e.2.2.1 w≠0:=fun w h=>by
    rw [zrq hd he k1] at h;omega
   have mk1:∀w,zbm d e.2.1 w≠0→zbm d i w≠0:=fun w h=>by rw [zrq hd he k1];omega
   have mk2:∀w,zbm d e.2.2.1 w≠0→zbm d i w≠0:=fun w h=>by rw [zrq hd he k1];omega
   by_cases c1:a<0
   ·refine ⟨(x,y),xb,⟨xl,fun w hw h=>(rd w h).elim (fun q=>by have:=am.ge w hw q;omega) (xm.ge w hw),fun q1 q2=>?_⟩,go _ ⟨nf4,fun _=>⟨fun _=>rfl,fun h=>absurd c1 (df h)⟩⟩⟩;obtain ⟨v,v1,v2,v3⟩:=xm.ex q1 q2;exact ⟨v,v1,mk2 v v2,v3⟩
   ·have hb1:decide (a<0)=false:=decide_eq_false c1
    by_cases c2:x<0
    ·refine ⟨(a,b),ab,⟨al,fun w hw h=>(rd w h).elim (am.ge w hw) (fun q=>by have:=xm.ge w hw q;omega),fun q1 q2=>?_⟩,go _ ⟨nf4,fun _=>⟨fun h=>(by rw [hb1] at h;cases h),fun _=>⟨fun _=>rfl,fun h=>absurd c2 (df h)⟩⟩⟩⟩;obtain ⟨v,v1,v2,v3⟩:=am.ex q1 q2;exact ⟨v,v1,mk1 v v2,v3⟩
    ·have hb2:decide (x<0)=false:=decide_eq_false c2;have ml:ML d i (min a x):=by
      refine ⟨by omega,fun w hw h=>(rd w h).elim (fun q=>by have:=am.ge w hw q;omega) (fun q=>by have:=xm.ge w hw q;omega),fun q1 q2=>?_⟩;rcases Int.le_total a x with q | q
      ·obtain ⟨v,v1,v2,v3⟩:=am.ex (by omega) (by omega);exact ⟨v,v1,mk1 v v2,by omega⟩
      ·obtain ⟨v,v1,v2,v3⟩:=xm.ex (by omega) (by omega);exact ⟨v,v1,mk2 v v2,by omega⟩
     cases hb3:((decide (b<0))||(decide (y<0)))
     ·exact ⟨(_,max b y),by simp only;omega,ml,go _ ⟨nf4,fun _=>⟨fun h=>(by rw [hb1] at h;cases h),fun _=>⟨fun h=>(by rw [hb2] at h;cases h),fun _=>⟨fun h=>(by rw [hb3] at h;cases h),fun _=>rfl⟩⟩⟩⟩⟩
     ·exact ⟨(_, -1),one_b,ml,go _ ⟨nf4,fun _=>⟨fun h=>(by rw [hb1] at h;cases h),fun _=>⟨fun h=>(by rw [hb2] at h;cases h),fun _=>⟨fun _=>rfl,fun h=>(by rw [hb3] at h;cases h)⟩⟩⟩⟩⟩
theorem of10 {d:List SNode} (h:Rt d) (ht:Txt d):∃r:Int × Int,zba d ((d.length:Int)-1) r∧ML d ((d.length:Int)-1) r.1:=by
 obtain ⟨r,_,h1,h2⟩:=node10 h.toROk ht h.tr;exact ⟨r,⟨_,h2 _ (Nat.le_refl _)⟩,h1⟩
end Go.Proofs.YtahgmdbioafmbaaGreatDoor.V
