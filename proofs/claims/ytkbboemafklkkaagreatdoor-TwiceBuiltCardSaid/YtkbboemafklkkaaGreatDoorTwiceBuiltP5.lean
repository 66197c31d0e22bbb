/-
  The texts that the law's proof needs, part 5.
-/
import Derived.Carry
import Derived.ChangeSame
import Derived.Deep.Slices
import Derived.Handed
import Derived.KernelRfl
import Derived.LaidHandle
import Derived.LaidLaws
import Derived.LaidMore
import Derived.Lib.AppendIntMem
import Derived.Lib.ItoaLen
import Derived.Lib.LaidTab
import Derived.OpenShut
import Derived.ProofKit
import Derived.RowKit
import Derived.Shelf.SlLaysF
import Derived.Shelf.SlSortCmp.Whole1
import Derived.SizedLaws
import Derived.Stop.LaidErr
import Derived.Test.YtkbboemafklkkaaGreatDoorRows
import Derived.WalkKit
import Derived.WideKeyElems2
import Derived.Test.YtkbboemafklkkaaGreatDoorTwiceBuiltP4

namespace Go.Proofs.YtkbboemafklkkaaGreatDoor.V
open Go
set_option linter.unusedVariables false
def lk0 (p:Cl):Int:=p.least.1
def zgu (a p:Cl):List Cl:=[p &&& a,p &&& ~~~ a].filter fun q=>decide (0<q.count)
def zne (ps:List Cl) (a:Cl):List Cl:=srt lk0 (ps.flatMap (zgu a))
def zgn (l:List Cl):List Cl:=l.foldl zne [~~~ (0#256)]
def zpk (l:List Cl):List Int:=(zgn l).map lk0
def zjm (l:List Cl) (c d:Nat):Bool:=l.all fun a=>a.has c==a.has d
def part (l:List Cl) (c:Nat):Cl:=Cl.of (zjm l c)
def zf4 (l:List Cl):List Nat:=(List.range 256).filter fun c=>(List.range c).all fun d=>!zjm l d c
def parts (l:List Cl):List Cl:=(zf4 l).map (part l)
theorem zn5 (l:List Cl) (c:Nat):zjm l c c=true:=by simp [zjm]
theorem zkp {l:List Cl} {c d:Nat} (h:zjm l c d=true):zjm l d c=true:=by
 unfold zjm at *;rw [List.all_eq_true] at *;intro a ha;have:=h a ha;rw [beq_iff_eq] at *;exact this.symm
theorem zjg {l:List Cl} {c d e:Nat} (h:zjm l c d=true) (k:zjm l d e=true):zjm l c e=true:=by
 unfold zjm at *;rw [List.all_eq_true] at *;intro a ha;have h1:=h a ha;have h2:=k a ha;rw [beq_iff_eq] at *;exact h1.trans h2
theorem zeg {l:List Cl} {c d:Nat} (h:d<256):(part l c).has d=zjm l c d:=Cl.of_has _ h
theorem zgi {l:List Cl} {c:Nat}:c∈zf4 l↔c<256∧∀d,d<c→zjm l d c=false:=by
 simp [zf4]
theorem part_eq {l:List Cl} {c d:Nat} (h:zjm l c d=true):part l c=part l d:=by
 apply Cl.ext;intro e he;rw [zeg he,zeg he];cases h1:zjm l d e
 ·cases h2:zjm l c e
  ·rfl
  ·rw [zjg (zkp h) h2] at h1;cases h1
 ·exact zjg h h1
theorem zq8 {p:Cl} (h:0<p.count):∃n:Nat,n<256∧p.least=((n:Int),true)∧p.has n=true∧∀m,m<n→p.has m=false:=by
 cases hl:p.least.2
 ·have h0:=least_none hl;have:p.count=0:=by
   unfold Cl.count;rw [List.countP_eq_zero];intro m hm;rw [h0 m (by simpa using hm)];simp
  omega
 ·obtain ⟨n,hn⟩:∃n:Nat,p.least=((n:Int),true):=by
   unfold Cl.least at hl ⊢;split
   ·exact ⟨_,rfl⟩
   ·rename_i hn;rw [hn] at hl;simp at hl
  obtain ⟨h1,h2,h3⟩:=least_some hn;exact ⟨n,h1,hn,h2,h3⟩
theorem count_pos {p:Cl} {n:Nat} (hn:n<256) (h:p.has n=true):0<p.count:=by
 unfold Cl.count;rw [List.countP_pos_iff];exact ⟨n,by simpa using hn,h⟩
theorem head_of {l:List Cl} {c:Nat} (hc:c<256):∃h,h∈zf4 l∧h≤c∧zjm l h c=true:=by
 obtain ⟨h,⟨h1,h2⟩,h3⟩:=exists_least (p:=fun d=>d≤c∧zjm l d c=true) ⟨c,Nat.le_refl _,zn5 l c⟩;refine ⟨h,zgi.2 ⟨by omega,fun d hd=>?_⟩,h1,h2⟩;cases hl:zjm l d h
 ·rfl
 ·have:=h3 d ⟨by omega,zjg hl h2⟩;omega
theorem least_part {l:List Cl} {h:Nat} (hh:h∈zf4 l):(part l h).least=((h:Int),true):=by
 obtain ⟨h1,h2⟩:=zgi.1 hh;refine least_of h1 (by rw [zeg h1];exact zn5 l h) fun m hm=>?_;rw [zeg (by omega)];cases hl:zjm l h m
 ·rfl
 ·have:=h2 m hm;rw [zkp hl] at this;cases this
theorem lk_part {l:List Cl} {h:Nat} (hh:h∈zf4 l):lk0 (part l h)=(h:Int):=by rw [lk0,least_part hh]
theorem zl3 (l:List Cl):(zf4 l).Pairwise (· < ·):=(List.pairwise_lt_range).filter _
theorem parts_lk (l:List Cl):(parts l).map lk0=(zf4 l).map (fun n:Nat=>(n:Int)):=by
 unfold parts;rw [List.map_map];exact List.map_congr_left fun h hh=>lk_part hh
theorem parts_srt (l:List Cl):Srt lk0 (parts l):=by
 have h1:(zf4 l).Pairwise fun a b=>lk0 (part l a)≤lk0 (part l b):=by
  refine (List.pairwise_iff_getElem.2 fun i j hi hj hij=>?_);rw [lk_part (List.getElem_mem hi),lk_part (List.getElem_mem hj)];have:=List.pairwise_iff_getElem.1 (zl3 l) i j hi hj hij;omega
 exact List.pairwise_map.2 h1
theorem seq_of_mem {α:Type} {key:α→Int} {X Y:List α} (hX:(X.map key).Nodup) (hY:(Y.map key).Nodup) (h:∀x,x∈X↔x∈Y):SEq key X Y:=fun c=>by
 have one:∀{Z:List α},(Z.map key).Nodup→∀x∈Z,key x=c→Z.filter (fun z=>key z==c)=[x]:=by
  intro Z
  induction Z with
  | nil=>intro _ x hx;cases hx
  | cons z Z ih=>
   intro hn x hx hk;rw [List.map_cons,List.nodup_cons] at hn;rcases List.mem_cons.1 hx with rfl | hx
   ·rw [List.filter_cons_of_pos (by simp [hk])]
    congr 1
    rw [List.filter_eq_nil_iff];intro y hy hyc;exact hn.1 (List.mem_map.2 ⟨y,hy,by rw [hk];simpa using hyc⟩)
   ·rw [List.filter_cons_of_neg,ih hn.2 x hx hk];intro hz;exact hn.1 (List.mem_map.2 ⟨x,hx,by rw [hk];simpa using (eq_of_beq hz).symm⟩)
 by_cases hex:∃x,x∈X∧key x=c
 ·obtain ⟨x,hx,hk⟩:=hex;rw [one hX x hx hk,one hY x ((h x).1 hx) hk]
 ·have e1:X.filter (fun z=>key z==c)=[]:=by
   rw [List.filter_eq_nil_iff];intro y hy hyc;exact hex ⟨y,hy,by simpa using hyc⟩
  have e2:Y.filter (fun z=>key z==c)=[]:=by
   rw [List.filter_eq_nil_iff];intro y hy hyc;exact hex ⟨y,(h y).2 hy,by simpa using hyc⟩
  rw [e1,e2]
def Disj (p q:Cl):Prop:=∀n,n<256→p.has n=true→q.has n=false
theorem lk_ne {p q:Cl} (hp:0<p.count) (hq:0<q.count) (h:Disj p q):lk0 p≠lk0 q:=by
 obtain ⟨n,n1,n2,n3,n4⟩:=zq8 hp;obtain ⟨m,m1,m2,m3,m4⟩:=zq8 hq;unfold lk0;rw [n2,m2];intro he;have:n=m:=by simp at he;omega
 subst this;rw [h n n1 n3] at m3;cases m3
theorem nodup_lk {X:List Cl} (hd:X.Pairwise Disj) (hc:∀x∈X,0<x.count):(X.map lk0).Nodup:=by
 refine List.pairwise_map.2 ?_;refine hd.imp_of_mem fun {a b} ha hb h=>lk_ne (hc a ha) (hc b hb) h
theorem zhk {a p x:Cl}:x∈zgu a p↔(x=p &&& a∨x=p &&& ~~~ a)∧0<x.count:=by
 simp [zgu]
theorem znr {a p x:Cl} (h:x∈zgu a p) {n:Nat} (hx:x.has n=true):p.has n=true:=by
 rcases (zhk.1 h).1 with rfl | rfl <;> rw [zj5] at hx <;> simp at hx <;> exact hx.1
theorem pieces_disj (a p:Cl):(zgu a p).Pairwise Disj:=by
 unfold zgu;refine List.Pairwise.filter _ ?_;simp only [List.pairwise_cons,List.mem_singleton,forall_eq,List.not_mem_nil,false_implies,implies_true,List.Pairwise.nil,and_true];intro n hn h;rw [zj5] at h ⊢;rw [zn9 hn];simp at h ⊢;simp [h.2]
theorem zpo (l:List Cl):(parts l).Pairwise Disj:=by
 unfold parts;refine List.pairwise_map.2 ?_;refine List.pairwise_iff_getElem.2 fun i j hi hj hij n hn h=>?_;have hlt:=List.pairwise_iff_getElem.1 (zl3 l) i j hi hj hij;obtain ⟨_,h2⟩:=zgi.1 (List.getElem_mem hj);rw [zeg hn] at h ⊢;cases h3:zjm l (zf4 l)[j] n
 ·rfl
 ·have:=h2 _ hlt;rw [zjg h (zkp h3)] at this;cases this
theorem parts_pos {l:List Cl} {p:Cl} (h:p∈parts l):0<p.count:=by
 obtain ⟨c,hc,rfl⟩:=List.mem_map.1 h;have h1:=(zgi.1 hc).1;exact count_pos h1 (by rw [zeg h1];exact zn5 l c)
theorem flat_disj {ps:List Cl} (h:ps.Pairwise Disj) (a:Cl):(ps.flatMap (zgu a)).Pairwise Disj:=by
 rw [List.pairwise_flatMap];refine ⟨fun p _=>pieces_disj a p,h.imp fun {p q} hpq x hx y hy n hn hxn=>?_⟩;cases hy':y.has n
 ·rfl
 ·have:=hpq n hn (znr hx hxn);rw [znr hy hy'] at this;cases this
theorem like_snoc (l:List Cl) (a:Cl) (c d:Nat):zjm (l++[a]) c d=(zjm l c d&&(a.has c==a.has d)):=by simp [zjm]
theorem mem_split (l:List Cl) (a x:Cl):x∈(parts l).flatMap (zgu a)↔x∈parts (l++[a]):=by
 have key:∀h h':Nat,zjm l h h'=true→h' < 256→∀x:Cl,(a.has h'=true∧x=part l h &&& a∨a.has h'=false∧x=part l h &&& ~~~ a)→x=part (l++[a]) h':=by
  intro h h' hh h1 x hx;apply Cl.ext;intro d hd;rw [zeg hd,like_snoc];have e:zjm l h' d=zjm l h d:=by
   have:=congrArg (fun p:Cl=>p.has d) (part_eq hh);simp only [zeg hd] at this;exact this.symm
  rw [e];rcases hx with ⟨h2,rfl⟩ | ⟨h2,rfl⟩
  ·rw [zj5,zeg hd,h2];cases a.has d <;> simp
  ·rw [zj5,zn9 hd,zeg hd,h2];cases a.has d <;> simp
 constructor
 ·intro hx;obtain ⟨p,hp,hxp⟩:=List.mem_flatMap.1 hx;obtain ⟨h,hh,rfl⟩:=List.mem_map.1 hp;obtain ⟨hx1,hx2⟩:=zhk.1 hxp;obtain ⟨n,n1,n2,n3,n4⟩:=zq8 hx2;have hn:=znr hxp n3;rw [zeg n1] at hn;have hxe:x=part (l++[a]) n:=key h n hn n1 x (by
   rcases hx1 with rfl | rfl
   ·rw [zj5] at n3;simp at n3;exact .inl ⟨n3.2,rfl⟩
   ·rw [zj5,zn9 n1] at n3;simp at n3;exact .inr ⟨n3.2,rfl⟩)
  refine List.mem_map.2 ⟨n,zgi.2 ⟨n1,fun d hd=>?_⟩,hxe.symm⟩;cases hl:zjm (l++[a]) d n
  ·rfl
  ·have:=n4 d hd;rw [hxe,zeg (by omega),zkp hl] at this;cases this
 ·intro hx;obtain ⟨n,hn,rfl⟩:=List.mem_map.1 hx;have n1:=(zgi.1 hn).1;obtain ⟨h,hh,_,h3⟩:=head_of (l:=l) n1;have hpos:=parts_pos hx;cases ha:a.has n
  ·have e:=key h n h3 n1 _ (.inr ⟨ha,rfl⟩);exact List.mem_flatMap.2 ⟨_,List.mem_map.2 ⟨h,hh,rfl⟩,zhk.2 ⟨.inr e.symm,hpos⟩⟩
  ·have e:=key h n h3 n1 _ (.inl ⟨ha,rfl⟩);exact List.mem_flatMap.2 ⟨_,List.mem_map.2 ⟨h,hh,rfl⟩,zhk.2 ⟨.inl e.symm,hpos⟩⟩
theorem splitR_parts (l:List Cl) (a:Cl):zne (parts l) a=parts (l++[a]):=by
 unfold zne;refine (zic (parts_srt _) (seq_of_mem ?_ ?_ (mem_split l a))).symm
 ·exact nodup_lk (flat_disj (zpo l) a) fun x hx=>by
   obtain ⟨p,_,hxp⟩:=List.mem_flatMap.1 hx;exact (zhk.1 hxp).2
 ·exact nodup_lk (zpo _) fun x hx=>parts_pos hx
theorem parts_nil:parts []=[~~~ (0#256)]:=by
 have h:zf4 []=[0]:=by decide +kernel
 unfold parts;rw [h];simp only [List.map_cons,List.map_nil,List.cons.injEq,and_true];apply Cl.ext;intro c hc;rw [zeg hc,zn9 hc,has_zero];rfl
theorem splitP_eq (l:List Cl):zgn l=parts l:=by
 have:∀(l pre:List Cl),l.foldl zne (parts pre)=parts (pre++l):=by
  intro l
  induction l with
  | nil=>intro pre;simp
  | cons a l ih=>intro pre;rw [List.foldl_cons,splitR_parts,ih];simp
 have:=this l [];rw [parts_nil] at this;simpa [zgn] using this
theorem heads_len (l:List Cl):(zf4 l).length≤256:=by
 have:=List.length_filter_le (fun c=>(List.range c).all fun d=>!zjm l d c) (List.range 256);simpa [zf4] using this
theorem zng (l:List Cl):zpk l=(zf4 l).map (fun n:Nat=>(n:Int)):=by rw [zpk,splitP_eq,parts_lk]
abbrev Rs (l:List (List SItem)):Prop:=l.Pairwise (fun a b=>zdp a b<0)
def insS (t:List SItem):List (List SItem)→List (List SItem)
 | []=>[t]
 | c::l=>if zdp t c<0 then t::c::l else if zdp t c=0 then c::l else c::insS t l
def zqg (L:List (List SItem)):List (List SItem):=L.foldr insS []
theorem zrf {t u:List SItem}:∀{l:List (List SItem)},u∈insS t l↔u=t∨u∈l
 | []=>by simp [insS]
 | c::l=>by
  unfold insS;split
  ·simp
  ·split
   ·rename_i h
    rw [zb5.1 h];simp
   ·rw [List.mem_cons,zrf,List.mem_cons];constructor
    ·rintro (h | h | h)
     ·exact .inr (.inl h)
     ·exact .inl h
     ·exact .inr (.inr h)
    ·rintro (h | h | h)
     ·exact .inr (.inl h)
     ·exact .inl h
     ·exact .inr (.inr h)
theorem insS_srt {t:List SItem}:∀{l:List (List SItem)},Rs l→Rs (insS t l)
 | [],_=>by simp [insS]
 | c::l,h=>by
  unfold insS;have h':=List.pairwise_cons.1 h;split
  ·rename_i h1
   exact List.pairwise_cons.2 ⟨fun x hx=>(List.mem_cons.1 hx).elim (fun e=>by rw [e];exact h1) fun hx=>zez h1 (h'.1 x hx),h⟩
  ·split
   ·exact h
   ·rename_i h1 h2
    have h3:zdp c t<0:=by
     have:=zfb t c;omega
    refine List.pairwise_cons.2 ⟨fun x hx=>?_,insS_srt h'.2⟩;rcases zrf.1 hx with rfl | hx
    ·exact h3
    ·exact h'.1 x hx
theorem zcq {u:List SItem}:∀{L:List (List SItem)},u∈zqg L↔u∈L
 | []=>by simp [zqg]
 | t::L=>by
  show u∈insS t (zqg L)↔_;rw [zrf,zcq,List.mem_cons]
theorem zhe:∀L:List (List SItem),Rs (zqg L)
 | []=>List.Pairwise.nil
 | t::L=>insS_srt (zhe L)
theorem zqi {l:List (List SItem)} (h:Rs l):l.Nodup:=h.imp fun {a b} h e=>by subst e;exact zh6 h
theorem setOf_len {A K:List (List SItem)} (h:∀x∈A,x∈K):(zqg A).length≤K.length:=zj0 (zqi (zhe A)) fun t ht=>h t (zcq.1 ht)
def onS (d:List SNode) (c:Int) (l:List (List SItem)):List (List SItem):=zqg (l.flatMap (zck d c))
abbrev stS (d:List SNode):List SItem:=[(1,(d.length:Int)-1,0,0)]
def aftS (d:List SNode) (w:List Int):List (List SItem):=w.foldl (fun l c=>onS d c l) [stS d]
theorem zru (d:List SNode):aftS d []=[stS d]:=rfl
theorem zk0 (d:List SNode) (w:List Int) (c:Int):aftS d (w++[c])=onS d c (aftS d w):=by unfold aftS;rw [List.foldl_append];rfl
theorem onS_mem {d:List SNode} {c:Int} {l:List (List SItem)} {t:List SItem}:t∈onS d c l↔∃s∈l,t∈zck d c s:=by unfold onS;rw [zcq,List.mem_flatMap]
theorem zp3 {p:List Int→Prop} (h0:p []) (hs:∀w c,p w→p (w++[c])) (w:List Int):p w:=by
 have:∀n (w:List Int),w.length=n→p w:=by
  intro n
  induction n with
  | zero=>intro w hw;rw [List.length_eq_zero_iff.1 hw];exact h0
  | succ n ih=>
   intro w hw;have hne:w≠[]:=fun e=>by subst e;simp at hw
   rw [← List.dropLast_concat_getLast hne];exact hs _ _ (ih _ (by simp [hw]))
 exact this _ w rfl
theorem zm1 {d:List SNode} {t:List SItem} (w:List Int):t∈aftS d w↔t∈zcz d w (stS d):=by
 revert t
 refine zp3 (p:=fun w=>∀{t:List SItem},t∈aftS d w↔t∈zcz d w (stS d)) ?_ ?_ w
 ·intro t;rw [zru,zcz]
 ·intro w c ih t;rw [zk0,onS_mem,zlr,List.mem_flatMap];constructor
  ·rintro ⟨s,h1,h2⟩;exact ⟨s,ih.1 h1,h2⟩
  ·rintro ⟨s,h1,h2⟩;exact ⟨s,ih.2 h1,h2⟩
theorem aftS_srt (d:List SNode) (w:List Int):Rs (aftS d w):=by
 refine zp3 (p:=fun w=>Rs (aftS d w)) ?_ (fun w c _=>?_) w
 ·rw [zru];simp
 ·rw [zk0];exact zhe _
theorem zj7 {d:List SNode} (h:Rt d) (hl:d.length≤24) (ht:Txt d) {w:List Int} (hw:∀c∈w,InR .u8 c) {u:List SItem} (hu:u∈aftS d w):Sm d u∧u.length≤24:=after_sm h hl ht hw ((zm1 w).1 hu)
def canB (d:List SNode) (s:List SItem):List SBranch:=(zqg (hds d s)).map fun t=>(t,sat ((hds d s).count t))
theorem canB_can (d:List SNode) (s:List SItem):Can (fun t=>(hds d s).count t) (canB d s):=by
 refine ⟨List.pairwise_map.2 (zhe _),fun t m=>?_⟩;unfold canB;simp only [List.mem_map,Prod.mk.injEq];constructor
 ·rintro ⟨u,h1,rfl,h2⟩;have:=List.count_pos_iff.2 (zcq.1 h1);exact ⟨by omega,h2.symm⟩
 ·rintro ⟨h1,h2⟩;exact ⟨t,zcq.2 (List.count_pos_iff.1 (by omega)),rfl,h2.symm⟩
def clsA (d:List SNode) (s:List SItem):List Cl:=zk5 d (canB d s)
def zrn (d:List SNode) (l:List (List SItem)):List Cl:=l.flatMap (clsA d)
theorem clsA_in {d:List SNode} {s:List SItem} (h:Sm d s):zbd d s (clsA d s)∧zbc d s (clsA d s)∧(clsA d s).length≤256*10001:=by
 obtain ⟨B,b1,b2,b3⟩:=classes_both h;have e:=b1.uniq (canB_can d s);subst e;have:=zmz d (canB d s);have:=(h.hok b1).few;exact ⟨b2,b3,by unfold clsA;omega⟩
theorem clsA_mem {d:List SNode} {s t:List SItem} (h:t∈hds d s):∀x∈clsF d t,x∈clsA d s:=fun x hx=>by
 unfold clsA zk5;exact List.mem_flatMap.2 ⟨(t,sat ((hds d s).count t)),List.mem_map.2 ⟨t,zcq.2 h,rfl⟩,hx⟩
theorem step_like {d:List SNode} {s:List SItem} (h:Sm d s) {a b:Int} (ha:InR .u8 a) (hb:InR .u8 b) (hx:∀x∈clsA d s,x.has a.toNat=x.has b.toNat):zck d a s=zck d b s:=by
 have hd:=h.rt.toROk;unfold zck;have key:∀t∈hds d s,zx d t a=zx d t b:=fun t ht=>by
  obtain ⟨L,⟨k,hk⟩,hp⟩:=zpv hd s h.form;obtain ⟨h3,h4⟩:=lv_vs hd (n0:=s.length) k s L hk (Vs.start h.form (Nat.le_refl _)) t (hp.mem_iff.2 ht);exact read_same h3.form h4 ha hb fun x hxx=>hx x (clsA_mem ht x hxx)
 have:∀L:List (List SItem),(∀t∈L,zx d t a=zx d t b)→L.filterMap (fun t=>if (zx d t a).2=true then some (zx d t a).1 else none)=L.filterMap (fun t=>if (zx d t b).2=true then some (zx d t b).1 else none):=by
  intro L
  induction L with
  | nil=>intro _;rfl
  | cons t L ih=>
   intro hL;rw [List.filterMap_cons,List.filterMap_cons,hL t (by simp),ih fun u hu=>hL u (by simp [hu])]
 exact this _ key
def zfu (l:List Cl):List Cl:=l.foldl (fun o a=>if a∈o then o else o++[a]) []
theorem zje (l:List Cl) (a:Cl):zfu (l++[a])=if a∈zfu l then zfu l else zfu l++[a]:=by unfold zfu;rw [List.foldl_append];rfl
theorem cl_ind {p:List Cl→Prop} (h0:p []) (hs:∀w c,p w→p (w++[c])) (w:List Cl):p w:=by
 have:∀n (w:List Cl),w.length=n→p w:=by
  intro n
  induction n with
  | zero=>intro w hw;rw [List.length_eq_zero_iff.1 hw];exact h0
  | succ n ih=>
   intro w hw;have hne:w≠[]:=fun e=>by subst e;simp at hw
   rw [← List.dropLast_concat_getLast hne];exact hs _ _ (ih _ (by simp [hw]))
 exact this _ w rfl
theorem zhh {x:Cl} (l:List Cl):x∈zfu l↔x∈l:=by
 refine cl_ind (p:=fun l=>x∈zfu l↔x∈l) (by simp [zfu]) (fun l a ih=>?_) l;rw [zje]
 by_cases h:a∈zfu l
 ·rw [if_pos h,List.mem_append,ih,List.mem_singleton];constructor
  ·exact .inl
  ·rintro (h1 | rfl)
   ·exact h1
   ·exact ih.1 h
 ·rw [if_neg h,List.mem_append,List.mem_append,ih]
theorem znu (l:List Cl):(zfu l).Nodup:=by
 refine cl_ind (p:=fun l=>(zfu l).Nodup) (by simp [zfu]) (fun l a ih=>?_) l;rw [zje];split
 ·exact ih
 ·rename_i h
  rw [List.nodup_append];exact ⟨ih,by simp,fun x hx y hy e=>by rw [List.mem_singleton.1 hy] at e;subst e;exact h hx⟩
theorem like_mem {l m:List Cl} (h:∀x,x∈l↔x∈m) (c e:Nat):zjm l c e=zjm m c e:=by
 unfold zjm;rw [Bool.eq_iff_iff,List.all_eq_true,List.all_eq_true];exact ⟨fun k x hx=>k x ((h x).2 hx),fun k x hx=>k x ((h x).1 hx)⟩
theorem splitH_mem {l m:List Cl} (h:∀x,x∈l↔x∈m):zpk l=zpk m:=by
 rw [zng,zng];have:zf4 l=zf4 m:=by
  unfold zf4;refine List.filter_congr fun c _=>?_
  congr 1
  funext d;rw [like_mem h]
 rw [this]
def bytC (l:List Cl):List Int:=zpk (zfu l)
def bytS (d:List SNode) (l:List (List SItem)):List Int:=bytC (zrn d l)
theorem zrq (l:List Cl):bytC l=(zf4 l).map fun n:Nat=>(n:Int):=by
 unfold bytC;rw [splitH_mem (m:=l) fun x=>zhh l,zng]
theorem bytC_len (l:List Cl):(bytC l).length≤256:=by rw [zrq,List.length_map];exact heads_len l
theorem bytC_u8 {l:List Cl} {b:Int} (h:b∈bytC l):InR .u8 b:=by
 rw [zrq] at h;obtain ⟨n,h1,rfl⟩:=List.mem_map.1 h;have:=(zgi.1 h1).1;exact zen.2 ⟨by omega,by omega⟩
theorem bytC_of (l:List Cl) {c:Int} (hc:InR .u8 c):∃b∈bytC l,b≤c∧∀x∈l,x.has b.toNat=x.has c.toNat:=by
 have hc':=zen.1 hc;obtain ⟨h,h1,h2,h3⟩:=head_of (l:=l) (c:=c.toNat) (by omega);refine ⟨(h:Int),by rw [zrq];exact List.mem_map.2 ⟨h,h1,rfl⟩,by omega,fun x hx=>?_⟩;unfold zjm at h3;rw [List.all_eq_true] at h3;have:=h3 x hx;simpa using this
def szN (d:List SNode):Nat→Int→Nat
 | 0,_=>0
 | k+1,i=>match at? d i with
  | none=>0
  | some n=>if n.1=2 then 1 else if n.1=3 then n.2.2.2.2.2.2.length else if n.1=4∨n.1=5 then szN d k n.2.1+szN d k n.2.2.1 else if n.1=6 then szN d k n.2.1 else if n.1=7 then n.2.2.2.2.1.toNat*szN d k n.2.1 else 0
theorem zk8 (m:Nat):∀k,sumN (fun _=>m) k=k*m
 | 0=>by simp [sumN]
 | k+1=>by
  show sumN (fun _=>m) k+m=_;rw [zk8 m k,Nat.succ_mul]
def nf (d:List SNode):Nat→Int→Bool
 | 0,_=>true
 | k+1,i=>match at? d i with
  | none=>true
  | some n=>if n.1=8∨n.1=9 then false else if n.1=4∨n.1=5 then nf d k n.2.1&&nf d k n.2.2.1 else if n.1=6 then nf d k n.2.1 else if n.1=7 then decide (n.2.2.2.2.1≤0)||nf d k n.2.1 else true
def NoFr (d:List SNode):Prop:=nf d d.length ((d.length:Int)-1)=true
theorem at_mem {d:List SNode} {i:Int} {e:SNode} (he:at? d i=some e):e∈d:=by
 unfold at? at he;split at he
 ·exact List.mem_of_getElem? he
 ·cases he
theorem nf_of {d:List SNode} (h:∀n∈d,n.1≠8∧n.1≠9):∀(k:Nat) (i:Int),nf d k i=true
 | 0,_=>rfl
 | k+1,i=>by
  unfold nf;cases hn:at? d i with
  | none=>rfl
  | some n=>
   have:=h n (at_mem hn);simp only [nf_of h k];rw [if_neg (by omega)];simp
theorem cov_sz {d:List SNode} (hd:ROk d) {f i:Int} (h:Tr d f i):∀k,(i-f+1).toNat≤k→nf d k i=true→Cov (szN d k i) (fun u=>∃w,Rch d [(1,i,0,0)] w u):=by
 induction h with
 | leaf he hk hx h0=>
  rename_i i e
  intro k hk2 hnf;obtain ⟨k,rfl⟩:∃q,k=q+1:=⟨k-1,by omega⟩;have hs:szN d (k+1) i=if e.1=2 then 1 else if e.1=3 then e.2.2.2.2.2.2.length else if e.1=4∨e.1=5 then szN d k e.2.1+szN d k e.2.2.1 else if e.1=6 then szN d k e.2.1 else if e.1=7 then e.2.2.2.2.1.toNat*szN d k e.2.1 else 0:=by
   simp only [szN,he]
  rw [hs];rcases hk with k1 | k1 | k1
  ·exact Cov.none (fun u ⟨w,hu⟩=>rch_empty hd he k1 hu) _
  ·rw [if_pos k1];exact Cov.one [] fun u ⟨w,hu⟩=>rch_bytes hd he k1 hu
  ·rw [if_neg (by omega),if_pos k1];have:=Cov.sum (f:=fun _=>1) (p:=fun j u=>u=if j+1<e.2.2.2.2.2.2.length then [(3,i,((j+1:Nat):Int),0)] else []) e.2.2.2.2.2.2.length fun j hj=>Cov.one _ fun u hu=>hu;refine this.weak (by rw [zk8];omega) fun u ⟨w,hu⟩=>?_;obtain ⟨j,_,h1,h2⟩:=rch_text hd he k1 hu;exact ⟨j,h1,h2⟩
 | one he hk ha hb hr h ih=>
  rename_i f i e
  intro k hk2 hnf;have hle:=h.le;obtain ⟨k,rfl⟩:∃q,k=q+1:=⟨k-1,by omega⟩;have hs:szN d (k+1) i=if e.1=2 then 1 else if e.1=3 then e.2.2.2.2.2.2.length else if e.1=4∨e.1=5 then szN d k e.2.1+szN d k e.2.2.1 else if e.1=6 then szN d k e.2.1 else if e.1=7 then e.2.2.2.2.1.toNat*szN d k e.2.1 else 0:=by
   simp only [szN,he]
  have ih:=ih k (by omega);unfold nf at hnf;simp only [he] at hnf;rw [hs];rcases hk with k1 | k1 | k1 | k1
  ·rw [if_neg (by omega),if_neg (by omega),if_neg (by omega),if_pos k1,ha];rw [if_neg (by omega),if_neg (by omega),if_pos k1,ha] at hnf;refine (ih hnf).map (·++[(1,i,0,0)]) fun u ⟨w,hu⟩=>?_;obtain ⟨t,h1,h2⟩:=rch_star hd he k1 hu;rw [ha] at h1;exact ⟨t,⟨w,h1⟩,h2⟩
  ·rw [if_neg (by omega),if_neg (by omega),if_neg (by omega),if_neg (by omega),if_pos k1,ha];rw [if_neg (by omega),if_neg (by omega),if_neg (by omega),if_pos k1,ha,Bool.or_eq_true,decide_eq_true_iff] at hnf;rcases Int.lt_or_le 0 e.2.2.2.2.1 with h0 | h0
   rotate_left
   ·refine Cov.none (fun u ⟨w,hu⟩=>?_) _;obtain ⟨t,_,h1,_⟩:=rch_rep hd he k1 hu;omega
   have ih:=ih (hnf.resolve_left (by omega));have:=Cov.sum (f:=fun _=>szN d k (i-1)) (p:=fun t u=>∃u',(∃w,Rch d [(1,i-1,0,0)] w u')∧u=u'++[zj2 i e (t+1)]) e.2.2.2.2.1.toNat fun t ht=>ih.map (·++[zj2 i e (t+1)]) fun u hu=>hu;refine this.weak (by rw [zk8];omega) fun u ⟨w,hu⟩=>?_;obtain ⟨t,_,h1,u',h2,h3⟩:=rch_rep hd he k1 hu;rw [ha] at h2;exact ⟨t,by omega,u',⟨_,h2⟩,h3⟩
  ·rw [if_pos (.inl k1)] at hnf;cases hnf
  ·rw [if_pos (.inr k1)] at hnf;cases hnf
 | two he hk ha hb h1 h2 i1 i2=>
  rename_i f p i e
  intro k hk2 hnf;have l1:=h1.le;have l2:=h2.le;obtain ⟨k,rfl⟩:∃q,k=q+1:=⟨k-1,by omega⟩;have hs:szN d (k+1) i=if e.1=2 then 1 else if e.1=3 then e.2.2.2.2.2.2.length else if e.1=4∨e.1=5 then szN d k e.2.1+szN d k e.2.2.1 else if e.1=6 then szN d k e.2.1 else if e.1=7 then e.2.2.2.2.1.toNat*szN d k e.2.1 else 0:=by
   simp only [szN,he]
  unfold nf at hnf;simp only [he] at hnf;rw [if_neg (by omega),if_pos hk,ha,hb,Bool.and_eq_true] at hnf;have j1:=i1 k (by omega) hnf.2;have j2:=i2 k (by omega) hnf.1;rw [hs,if_neg (by omega),if_neg (by omega),if_pos hk,ha,hb];rcases hk with k1 | k1
  ·refine (j2.map (·++[(1,i-1,0,0)]) (r:=fun u=>∃t,(∃w,Rch d [(1,p-1,0,0)] w t)∧u=t++[(1,i-1,0,0)]) fun u hu=>hu).or j1 fun u ⟨w,hu⟩=>?_;have:=rch_seq hd he k1 hu;rw [ha,hb] at this;exact this.imp (fun ⟨t,a,b⟩=>⟨t,⟨w,a⟩,b⟩) fun a=>⟨w,a⟩
  ·refine j2.or j1 fun u ⟨w,hu⟩=>?_;have:=rch_or hd he k1 hu;rw [ha,hb] at this;exact this.imp (fun a=>⟨w,a⟩) fun a=>⟨w,a⟩
theorem all_cov {d:List SNode} (h:Rt d) (hn:NoFr d):Cov (szN d d.length ((d.length:Int)-1)+1) (fun u=>∃w,u∈zcz d w (stS d)):=by
 refine ((cov_sz h.toROk h.tr d.length (by omega) hn).or (Cov.one (stS d) (p:=fun u=>u=stS d) fun u hu=>hu) fun u ⟨w,hu⟩=>?_);cases w with
 | nil=>
  rw [zcz,List.mem_singleton] at hu;exact .inr hu
 | cons c w=>exact .inl ⟨c::w,[],c::w,rfl,by simp,hu⟩
theorem aftS_all {d:List SNode} (h:Rt d) (hn:NoFr d):∃K:List (List SItem),K.length≤szN d d.length ((d.length:Int)-1)+1∧∀w,∀t∈aftS d w,t∈K:=by
 obtain ⟨K,h1,h2⟩:=all_cov h hn;exact ⟨K,h1,fun w t ht=>h2 t ⟨w,(zm1 w).1 ht⟩⟩
theorem aftS_few {d:List SNode} (h:Rt d) (hn:NoFr d) (w:List Int):(aftS d w).length≤szN d d.length ((d.length:Int)-1)+1:=by
 obtain ⟨K,h1,h2⟩:=aftS_all h hn;exact Nat.le_trans (zj0 (zqi (aftS_srt d w)) (h2 w)) h1
theorem canB_len {d:List SNode} (h:Rt d) (s:List SItem):(canB d s).length≤s.length*(d.length+1)+1:=by
 unfold canB;rw [List.length_map];exact Nat.le_trans (setOf_len fun t ht=>hds_CS d s t ht) (CS_few h s)
theorem clsF_of (d:List SNode) (t:List SItem) (hb:∀n∈d,True):∀x∈clsF d t,x∈sing++d.map fun n=>n.2.2.2.2.2.1:=by
 intro x hx;cases t with
 | nil=>cases hx
 | cons y t=>
  simp only [clsF] at hx;cases hn:at? d y.2.1 with
  | none=>rw [hn] at hx;cases hx
  | some n=>
   rw [hn] at hx;simp only at hx;have hm:n∈d:=by
    unfold at? at hn;split at hn
    ·exact List.mem_of_getElem? hn
    ·cases hn
   split at hx
   ·rw [List.mem_singleton] at hx;refine List.mem_append.2 (.inl ?_);have hr:0≤(zd1 n.2.2.2.2.2.2 y.2.2.1).getD 0∧(zd1 n.2.2.2.2.2.2 y.2.2.1).getD 0≤255:=by
     cases hq:zd1 n.2.2.2.2.2.2 y.2.2.1 with
     | none=>simp
     | some c=>exact byte_u8 hq
    rw [hx];refine List.mem_map.2 ⟨((zd1 n.2.2.2.2.2.2 y.2.2.1).getD 0).toNat,by simp;omega, ?_⟩;have e:((((zd1 n.2.2.2.2.2.2 y.2.2.1).getD 0).toNat:Nat):Int) % 256=(zd1 n.2.2.2.2.2.2 y.2.2.1).getD 0:=by omega
    rw [e]
   ·split at hx
    ·rw [List.mem_singleton] at hx;exact List.mem_append.2 (.inr (List.mem_map.2 ⟨n,hm,hx.symm⟩))
    ·exact List.mem_append.2 (.inl hx)
theorem once_few (d:List SNode) (l:List (List SItem)):(zfu (zrn d l)).length≤256+d.length:=by
 have h1:=zj0 (U:=sing++d.map fun n=>n.2.2.2.2.2.1) (znu (zrn d l)) fun x hx=>by
  obtain ⟨s,_,h2⟩:=List.mem_flatMap.1 ((zhh _).1 hx);unfold clsA zk5 at h2;obtain ⟨b,_,h3⟩:=List.mem_flatMap.1 h2;exact clsF_of d b.1 (fun _ _=>trivial) x h3
 rw [List.length_append,List.length_map,zhu] at h1;exact h1
theorem zg7 {a:Cl}:zbx a a.least:=by
 refine zhq (P:=fun k (_:Unit) v=>zbx.l1 a a.least _ k v) 256 (fun i _=>∀m,m<i→a.has m=false) ?_ ?_ () (by intro m hm;omega)
 ·intro i s hi hs;cases hc:a.has i
  ·refine .inr ⟨(),fun m hm=>?_,fun k h=>⟨fun _=>⟨a.has i,zh7 hi,fun h2=>by simp [hc] at h2,fun _=>⟨zh (by omega) (by omega),h⟩⟩,fun h=>absurd (by omega) (df h)⟩⟩
   by_cases e:m=i
   ·subst e;exact hc
   ·exact hs m (by omega)
  ·refine .inl fun k=>⟨fun _=>⟨a.has i,zh7 hi,fun _=>?_,fun h2=>by simp [hc] at h2⟩,fun h=>absurd (by omega) (df h)⟩;rw [show ((i:Int) % 256)=i by omega];exact least_of hi hc hs
 ·intro s hs k;exact ⟨fun h=>absurd (dt h) (by omega),fun _=>by first | exact zh1 hs | (show zbx.j1 _ _;exact zh1 hs)⟩
theorem zo8 {a:Cl}:zb2 a (a.count:Int):=by
 refine zhq (P:=fun k (s:Int) v=>zb2.l1 a _ k s v) 256 (fun i s=>s=(((List.range i).countP a.has:Nat):Int)) ?_ ?_ _ (by simp)
 ·rintro i s hi rfl;have hle:=List.countP_le_length (l:=List.range i) (p:=a.has);simp only [List.length_range] at hle;refine .inr ⟨_,rfl,fun k h=>⟨fun _=>⟨a.has i,zh7 hi,fun hc=>?_,fun hc=>?_⟩,fun h=>absurd (by omega) (df h)⟩⟩
  ·rw [List.range_succ,List.countP_append,List.countP_singleton,hc] at h;exact ⟨zh (by omega) (by omega),zh (by omega) (by omega),by simpa using h⟩
  ·rw [List.range_succ,List.countP_append,List.countP_singleton,hc] at h;exact ⟨zh (by omega) (by omega),by simpa using h⟩
 ·rintro s rfl k;exact ⟨fun h=>absurd (dt h) (by omega),fun _=>rfl⟩
theorem zky {a b:Cl}:zcj a b (a &&& b):=by
 refine words_up (P:=fun k s v=>zcj.l1 b _ k s v) (a:=a) (r:=a &&& b) (fun i w=>w &&& b.word i) (fun i hi=>?_) (fun k i s v hi hw hv h=>?_) (fun k=>?_)
 ·refine zik hi (Nat.and_lt_two_pow _ (b.word_lt i)) fun j hj=>?_;rw [zj5,Nat.testBit_and,Cl.word_bit,Cl.word_bit];simp [hj]
 ·refine ⟨fun _=>⟨⟨by omega,by omega⟩,⟨by omega,by omega⟩,⟨by omega,by omega⟩,zh (by omega) (by omega), ?_⟩,fun h=>absurd (by omega) (df h)⟩;rw [show andI (Cl.w s (i:Int)) (Cl.w b (i:Int))=v by rw [hv];unfold andI;rw [w_nat,w_nat,Int.toNat_natCast,hw]];exact h
 ·exact ⟨fun h=>absurd (dt h) (by omega),fun _=>rfl⟩
theorem zl6 {a:Cl}:zc0 a (~~~ a):=by
 refine words_up (P:=fun k s v=>zc0.l1 _ k s v) (a:=a) (r := ~~~ a) (fun i w=>18446744073709551615 ^^^ w) (fun i hi=>?_) (fun k i s v hi hw hv h=>?_) (fun k=>?_)
 ·refine zik hi (Nat.xor_lt_two_pow (by omega) (a.word_lt i)) fun j hj=>?_;rw [zn9 (by omega),Nat.testBit_xor,Cl.word_bit,show 18446744073709551615=2 ^ 64-1 by rfl,Nat.testBit_two_pow_sub_one];simp [hj]
 ·refine ⟨fun _=>⟨⟨by omega,by omega⟩,⟨by omega,by omega⟩,zh (by omega) (by omega), ?_⟩,fun h=>absurd (by omega) (df h)⟩;rw [show xorI 18446744073709551615 (Cl.w s (i:Int))=v by rw [hv];unfold xorI;rw [w_nat,Int.toNat_natCast,hw];rfl];exact h
 ·exact ⟨fun h=>absurd (dt h) (by omega),fun _=>rfl⟩
theorem dt0 {p:Prop} [Decidable p] (h:decide p=true):p:=of_decide_eq_true h
theorem df0 {p:Prop} [Decidable p] (h:decide p=false):¬ p:=of_decide_eq_false h
def zry (key:Cl→Int) (cmp:Cl × Cl × Int→Prop):Prop:=∀x y,cmp (x,y,key x-key y)
theorem ins_l2 {key:Cl→Int} {cmp:Cl × Cl × Int→Prop} (hc:zry key cmp) {A B:List Cl} {x:Cl} {X:List Cl→Prop}:
  ∀(m:Nat) (P G:List Cl),P.length=m→Srt key (P++G)→(∀g∈G,key x<key g)→(A++P++x::(G++B)).length<4611686018427387904 →
   (∀Q,Srt key Q→SEq key (P++x::G) Q→X (A++Q++B)) →
   ∃k,zd.l2 (A.length:Int) cmp X k (A++P++x::(G++B)) ((A.length+P.length:Nat):Int):=by
 intro m
 induction m with
 | zero=>
  intro P G hm hs hg hlen hX;have hP:=List.eq_nil_of_length_eq_zero hm;subst hP;refine ⟨1,x,fun h=>absurd (dt0 h) (by simp),fun h=>absurd (dt0 h) (by simp),x,fun h=>absurd (dt0 h) (by simp),0,fun h=>absurd (dt0 h) (by simp),fun h=>?_,fun _=>?_⟩
  ·simp at h
  ·have:=hX (x::G) (Srt.cons.2 ⟨fun y hy=>Int.le_of_lt (hg y hy),by simpa using hs⟩) (SEq.refl _ _);simpa using this
 | succ m ih=>
  intro P G hm hs hg hlen hX;obtain ⟨P,y,rfl⟩:=snoc_of (l:=P) (by rintro rfl;simp at hm);have hmP:P.length=m:=by simpa using hm
  have hl2:A.length+P.length+1<4611686018427387904:=by simp at hlen;omega
  have e0:A++(P++[y])++x::(G++B)=(A++P)++y::x::(G++B):=by simp
  have e1:A++(P++[y])++x::(G++B)=(A++P++[y])++x::(G++B):=by simp
  have hj:((A.length+(P++[y]).length:Nat):Int)=((A.length+P.length:Nat):Int)+1:=by simp <;> omega
  have at1:at? (A++(P++[y])++x::(G++B)) ((A.length+(P++[y]).length:Nat):Int)=some x:=by rw [e1];exact zif (by simp <;> omega)
  have at2:at? (A++(P++[y])++x::(G++B)) (((A.length+(P++[y]).length:Nat):Int)-1)=some y:=by rw [e0];exact zif (by simp <;> omega)
  by_cases hlt:key x<key y
  ·-- a round more
   obtain ⟨k,hk⟩:=ih P (y::G) hmP (by simpa using hs) (fun g hgm=>by
     rcases List.mem_cons.1 hgm with rfl | h
     ·exact hlt
     ·exact hg g h) (by simp at hlen ⊢ <;> omega) (fun Q hQ hE=>hX Q hQ (SEq.trans (by
      have:SEq key ([y]++[x]) ([x]++[y]):=zja (by simp <;> omega);have h2:=(SEq.refl key P).app (this.app (SEq.refl key G));simpa using h2) hE))
   refine ⟨k+1,x,fun _=>at1,fun _=>zh (by omega) (by omega),y,fun _=>at2,key x-key y,fun _=>hc x y,fun _=>?_,fun h=>?_⟩
   ·refine ⟨zh (by omega) (by omega),zh (by omega) (by omega),y,at2,x,at1,x,at1,y, ?_,zh (by omega) (by omega), ?_⟩
    ·rw [e1,zhv (by simp <;> omega)];rw [show (A++P++[y]++y::(G++B))=(A++P)++y::y::(G++B) by simp];exact zif (by simp <;> omega)
    ·have:((A++(P++[y])++x::(G++B)).set ((A.length+(P++[y]).length:Nat):Int).toNat y).set (((A.length+(P++[y]).length:Nat):Int)-1).toNat x=A++P++x::(y::G++B):=by
      rw [e1,zhv (by simp <;> omega)];rw [show (A++P++[y]++y::(G++B))=(A++P)++y::y::(G++B) by simp];rw [zhv (by simp <;> omega)];simp
     rw [this,show (((A.length+(P++[y]).length:Nat):Int)-1)=((A.length+P.length:Nat):Int) by omega];exact hk
   ·exfalso;simp at h;omega
  ·refine ⟨1,x,fun _=>at1,fun _=>zh (by omega) (by omega),y,fun _=>at2,key x-key y,fun _=>hc x y,fun h=>?_,fun _=>?_⟩
   ·exfalso;simp at h;omega
   ·have:=hX (P++[y]++x::G) (Srt.app.2 ⟨(Srt.app.1 hs).1,Srt.cons.2 ⟨fun g hgm=>Int.le_of_lt (hg g hgm),(Srt.app.1 hs).2.1⟩,fun p hp q hq=>?_⟩) (SEq.refl _ _)
    ·simpa using this
    ·have hpy:key p≤key y:=by
      rcases List.mem_append.1 hp with h | h
      ·exact (Srt.app.1 (Srt.app.1 hs).1).2.2 p h y (by simp)
      ·simp at h;subst h;exact Int.le_refl _
     rcases List.mem_cons.1 hq with rfl | h
     ·omega
     ·have:=(Srt.app.1 hs).2.2 p hp q h;exact this
theorem ins_in {key:Cl→Int} {cmp:Cl × Cl × Int→Prop} (hc:zry key cmp) {A S B:List Cl} {a b:Int} (ha:a=(A.length:Int)) (hb:b=((A.length+S.length:Nat):Int)) (hlen:(A++S++B).length<4611686018427387904):
  zd (A++S++B) a b cmp (A++srt key S++B):=by
 have hlA:A.length+S.length<4611686018427387904:=by simp at hlen;omega
 subst ha;subst hb;have key2:∀(m:Nat) (P R:List Cl),R.length=m→Srt key P→SEq key S (P++R)→∀{X:List Cl→Prop},X (A++srt key S++B) →
   ∃k,zd.l1 (A.length:Int) ((A.length+S.length:Nat):Int) cmp X k (A++(P++R)++B) ((A.length+P.length:Nat):Int):=by
  intro m
  induction m with
  | zero=>
   intro P R hR hP hS X hX;have:=List.eq_nil_of_length_eq_zero hR;subst this;have hl:=hS.length;simp at hl;have e:=zic hP (by simpa using hS);exact ⟨1,fun h=>absurd (dt0 h) (by omega),fun _=>by rw [List.append_nil,e];exact hX⟩
  | succ m ih=>
   intro P R hR hP hS X hX;cases R with
   | nil=>simp at hR
   | cons x R=>
    have hl:=hS.length;simp at hl;simp at hR;have hS2:SEq key S (srt key (P++[x])++R):=hS.trans (by
     have:=(zgf key (P++[x])).app (SEq.refl key R);simpa using this)
    obtain ⟨k,hk⟩:=ih (srt key (P++[x])) R hR (zim _ _) hS2 hX;refine ⟨k+1,fun _=>?_,fun h=>absurd (by omega) (df0 h)⟩;have:=ins_l2 hc (A:=A) (B:=R++B) (x:=x) (X:=zd.j2 (zd.l1 (A.length:Int) ((A.length+S.length:Nat):Int) cmp X k) ((A.length+P.length:Nat):Int)) P.length P [] rfl (by simpa using hP) (by simp) (by simp at hlen ⊢ <;> omega) (fun Q hQ hE=>by
     have hQe:=zic hQ hE;refine ⟨zh (by omega) (by omega), ?_⟩;rw [hQe];have e1:((A.length+(srt key (P++[x])).length:Nat):Int)=((A.length+P.length:Nat):Int)+1:=by rw [zgy];simp;omega
     rw [e1] at hk;simpa using hk)
    simpa using this
 refine ⟨zh (by omega) (by omega), ?_⟩;cases S with
 | nil=>
  refine ⟨1,fun h=>absurd (dt0 h) (by simp <;> omega),fun _=>?_⟩;show A++srt key []++B=A++[]++B;rw [List.eq_nil_of_length_eq_zero (zgy key [])]
 | cons x S=>
  have:=key2 S.length [x] S rfl (by simp [Srt]) (SEq.refl _ _) (X:=zd.j1 (A++srt key (x::S)++B)) rfl;simpa using this
theorem swap_l1 {A M B:List Cl} {a b n:Int} {X:List Cl→Prop}:∀(X2 Y2 X1 Y1:List Cl),X2.length=Y2.length→X1.length=Y1.length→a=(A.length:Int)→b=((A.length+X1.length+X2.length+M.length:Nat):Int)→n=((X1.length+X2.length:Nat):Int) →
  (A++Y1++X2++M++X1++Y2++B).length<4611686018427387904→X (A++(Y1++Y2)++M++(X1++X2)++B) →
  ∃k,zi.l1 a b n X k (A++Y1++X2++M++X1++Y2++B) (X1.length:Int)
 | [],[],X1,Y1,_,h1,ha,hb,hn,hl,hX=>⟨1,fun h=>absurd (dt0 h) (by rw [hn];simp),fun _=>by simpa using hX⟩
 | x::X2,y::Y2,X1,Y1,h0,h1,ha,hb,hn,hl,hX=>by
  simp at h0;have hl':A.length+Y1.length+X2.length+M.length+X1.length+Y2.length+B.length+2<4611686018427387904:=by simp at hl;omega
  obtain ⟨k,hk⟩:=swap_l1 (A:=A) (M:=M) (B:=B) (a:=a) (b:=b) (n:=n) (X:=X) X2 Y2 (X1++[x]) (Y1++[y]) h0 (by simp <;> omega) ha (by rw [hb];simp <;> omega) (by rw [hn];simp <;> omega) (by simp at hl ⊢ <;> omega) (by simpa using hX);have e1:A++Y1++x::X2++M++X1++y::Y2++B=(A++Y1)++x::(X2++M++X1++y::Y2++B):=by simp
  have e2:A++Y1++x::X2++M++X1++y::Y2++B=(A++Y1++x::X2++M++X1)++y::(Y2++B):=by simp
  have pa:a+(X1.length:Int)=((A++Y1).length:Int):=by rw [ha];simp <;> omega
  have pb:b+(X1.length:Int)=((A++Y1++x::X2++M++X1).length:Int):=by rw [hb];simp <;> omega
  have hb0:b+(X1.length:Int)<4611686018427387904∧0≤b+(X1.length:Int):=by rw [pb];simp <;> omega
  have ha0:a+(X1.length:Int)<4611686018427387904∧0≤a+(X1.length:Int):=by rw [pa];simp <;> omega
  have aty:at? (A++Y1++x::X2++M++X1++y::Y2++B) (b+(X1.length:Int))=some y:=by rw [e2];exact zif pb
  have atx:at? (A++Y1++x::X2++M++X1++y::Y2++B) (a+(X1.length:Int))=some x:=by rw [e1];exact zif pa
  have s1:(A++Y1++x::X2++M++X1++y::Y2++B).set (a+(X1.length:Int)).toNat y=A++Y1++y::X2++M++X1++y::Y2++B:=by rw [e1,zhv pa];simp
  have e3:A++Y1++y::X2++M++X1++y::Y2++B=(A++Y1++y::X2++M++X1)++y::(Y2++B):=by simp
  have pb':b+(X1.length:Int)=((A++Y1++y::X2++M++X1).length:Int):=by rw [pb];simp
  refine ⟨k+1,fun _=>⟨zh (by omega) (by omega),zh (by omega) (by omega),zh (by omega) (by omega),y,aty,zh (by omega) (by omega),x,atx,x,atx,y, ?_,zh (by omega) (by omega), ?_⟩,fun h=>absurd (by rw [hn];simp <;> omega) (df0 h)⟩
  ·rw [s1,e3];exact zif pb'
  ·rw [s1,e3,zhv pb'];simpa using hk
 | [],_::_,_,_,h,_,_,_,_,_,_=>by simp at h
 | _::_,[],_,_,h,_,_,_,_,_,_=>by simp at h
theorem swap_in {A X M Y B:List Cl} {a b n:Int} {cmp:Cl × Cl × Int→Prop} (ha:a=(A.length:Int)) (hb:b=((A.length+X.length+M.length:Nat):Int)) (hn:n=(X.length:Int)) (hxy:X.length=Y.length) (hl:(A++X++M++Y++B).length<4611686018427387904):
  zi (A++X++M++Y++B) a b n cmp (A++Y++M++X++B):=by
 have:=swap_l1 (A:=A) (M:=M) (B:=B) (a:=a) (b:=b) (n:=n) (X:=zi.j1 (A++Y++M++X++B)) X Y [] [] hxy rfl ha (by rw [hb];simp) (by rw [hn];simp) (by simpa using hl) rfl;unfold zi;simpa using this
theorem rot_in {A X Y B:List Cl} {a m b:Int} {cmp:Cl × Cl × Int→Prop} (ha:a=(A.length:Int)) (hm:m=((A.length+X.length:Nat):Int)) (hb:b=((A.length+X.length+Y.length:Nat):Int)) (hX:X≠[]) (hY:Y≠[]) (hl:(A++X++Y++B).length<4611686018427387904):
  zm (A++X++Y++B) a m b cmp (A++Y++X++B):=by
 have hl':A.length+X.length+Y.length+B.length<4611686018427387904:=by simp at hl;omega
 refine ⟨zh (by omega) (by omega),zh (by omega) (by omega), ?_⟩;have key:∀(f:Nat) (L X' Y' R:List Cl),X'.length+Y'.length≤f→X'≠[]→Y'≠[]→A.length+L.length+X'.length=A.length+X.length→L++Y'++X'++R=Y++X →
   ∃k,zm.l1 m cmp (zm.j1 m cmp (A++Y++X++B)) k (A++L++X'++Y'++R++B) (X'.length:Int) (Y'.length:Int):=by
  intro f
  induction f with
  | zero=>intro L X' Y' R hf hx;exact absurd (List.eq_nil_of_length_eq_zero (by omega)) hx
  | succ f ih=>
   intro L X' Y' R hf hx hy hmid heq;have hx':0<X'.length:=List.length_pos_iff.2 hx;have hy':0<Y'.length:=List.length_pos_iff.2 hy;have hle:=congrArg List.length heq;simp at hle
   by_cases hlt:Y'.length<X'.length
   ·obtain ⟨X1,X2,rfl,hX1⟩:=zfk X' (Nat.le_of_lt hlt);have hX2:X2≠[]:=by rintro rfl;simp at hlt;omega
    have hX2':0<X2.length:=List.length_pos_iff.2 hX2;simp at hle hmid hf hlt;obtain ⟨k,hk⟩:=ih (L++Y') X2 X1 R (by omega) hX2 (by rintro rfl;simp at hX1;omega) (by first | omega | (simp;omega)) (by simpa using heq);refine ⟨k+1,fun _=>⟨fun _=>⟨zh (by first | omega | (simp;omega)) (by first | omega | (simp;omega)),A++L++Y'++X2++X1++(R++B), ?_,zh (by first | omega | (simp;omega)) (by first | omega | (simp;omega)), ?_⟩,fun h=>absurd (by simp;omega) (df0 h)⟩,fun h=>by simp at h;omega⟩
    ·have:=swap_in (cmp:=cmp) (A:=A++L) (X:=X1) (M:=X2) (Y:=Y') (B:=R++B) (a:=m-((X1++X2).length:Int)) (b:=m) (n:=(Y'.length:Int)) (by rw [hm];simp;omega) (by rw [hm];simp;omega) (by omega) (by omega) (by simp;omega);simpa using this
    ·have e:(((X1++X2).length:Nat):Int)-(Y'.length:Int)=(X2.length:Int):=by simp;omega
     rw [e,← hX1];simpa using hk
   ·by_cases heq2:X'.length=Y'.length
    ·refine ⟨1,fun h=>?_,fun _=>⟨zh (by first | omega | (simp;omega)) (by first | omega | (simp;omega)),A++L++Y'++X'++R++B, ?_, ?_⟩⟩
     ·simp at h;omega
     ·have:=swap_in (cmp:=cmp) (A:=A++L) (X:=X') (M:=[]) (Y:=Y') (B:=R++B) (a:=m-(X'.length:Int)) (b:=m) (n:=(X'.length:Int)) (by rw [hm];simp;omega) (by rw [hm];simp;omega) rfl heq2 (by simp;omega);simpa using this
     ·have:A++(Y++X)++B=A++(L++Y'++X'++R)++B:=by rw [heq]
      simpa using this
    ·have hlt2:X'.length<Y'.length:=by omega
     obtain ⟨Y1,Y2,rfl,hY1⟩:=zfk Y' (show Y'.length-X'.length≤Y'.length by omega);have hY2:Y2.length=X'.length:=by simp at hY1 hlt2;omega
     have hY1':Y1≠[]:=by rintro rfl;simp at hY1 hlt2;omega
     simp at hle hmid hf hlt2;obtain ⟨k,hk⟩:=ih L Y2 Y1 (X'++R) (by omega) (by rintro rfl;simp at hY2;omega) hY1' (by omega) (by simpa using heq);refine ⟨k+1,fun _=>⟨fun h=>absurd (dt0 h) (by simp;omega),fun _=>⟨zh (by omega) (by omega),zh (by first | omega | (simp;omega)) (by first | omega | (simp;omega)),zh (by first | omega | (simp;omega)) (by first | omega | (simp;omega)),A++L++Y2++Y1++X'++(R++B), ?_,zh (by first | omega | (simp;omega)) (by first | omega | (simp;omega)), ?_⟩⟩,fun h=>by simp at h;omega⟩
     ·have:=swap_in (cmp:=cmp) (A:=A++L) (X:=X') (M:=Y1) (Y:=Y2) (B:=R++B) (a:=m-(X'.length:Int)) (b:=m+((Y1++Y2).length:Int)-(X'.length:Int)) (n:=(X'.length:Int)) (by rw [hm];simp;omega) (by rw [hm];simp;omega) rfl (by omega) (by simp;omega);simpa using this
     ·have e:(((Y1++Y2).length:Nat):Int)-(X'.length:Int)=(Y1.length:Int):=by simp;omega
      rw [e,← hY2];simpa using hk
 have:=key (X.length+Y.length) [] X Y [] (Nat.le_refl _) hX hY (by simp) (by simp);have e1:m-a=(X.length:Int):=by omega
 have e2:b-m=(Y.length:Int):=by omega
 rw [e1,e2];simpa using this
theorem at_app1 {A S B:List Cl} {c:Nat} (h1:A.length≤c) (h2:c<A.length+S.length):at? (A++S++B) (c:Int)=some (S[c-A.length]'(by omega)):=by
 rw [zbl,List.append_assoc,List.getElem?_append_right h1,List.getElem?_append_left (by omega),List.getElem?_eq_getElem (by omega)]
theorem zpj {key:Cl→Int} {S:List Cl} (h:Srt key S) {i j:Nat} (hij:i≤j) (hj:j<S.length):key (S[i]'(by omega))≤key S[j]:=by
 rcases Nat.lt_or_ge i j with hlt | hge
 ·exact List.pairwise_iff_getElem.1 h i j (by omega) hj hlt
 ·have:i=j:=by omega
  subst this;exact Int.le_refl _
theorem sm_l1 {A B:List Cl} {x:Cl} {i:Int} {X:List Cl→Prop}:∀(Y2 Y1:List Cl),i=((A.length+Y1.length+Y2.length:Nat):Int)+1→(A++Y1++x::Y2++B).length<4611686018427387904→X (A++(Y1++Y2)++x::B) →
  ∃k,za.l1 i X k (A++Y1++x::Y2++B) ((A.length+Y1.length:Nat):Int)
 | [],Y1,hi,hl,hX=>by
  have hl':A.length+Y1.length<4611686018427387904:=by simp at hl;omega
  exact ⟨1,zh (by simp at hi;omega) (by simp at hi;omega),fun h=>absurd (dt0 h) (by simp at hi;omega),fun _=>by simpa using hX⟩
 | y::Y2,Y1,hi,hl,hX=>by
  have hl':A.length+Y1.length+Y2.length+1<4611686018427387904:=by simp at hl;omega
  have hi':=hi;simp at hi';obtain ⟨k,hk⟩:=sm_l1 (A:=A) (B:=B) (x:=x) (i:=i) (X:=X) Y2 (Y1++[y]) (by rw [hi];simp;omega) (by simp at hl ⊢;omega) (by simpa using hX);have e1:A++Y1++x::(y::Y2)++B=(A++Y1)++x::(y::Y2++B):=by simp
  have e2:A++Y1++x::(y::Y2)++B=(A++Y1++[x])++y::(Y2++B):=by simp
  have p1:((A.length+Y1.length:Nat):Int)=((A++Y1).length:Int):=by simp
  have p2:((A.length+Y1.length:Nat):Int)+1=((A++Y1++[x]).length:Int):=by simp;omega
  have a1:at? (A++Y1++x::(y::Y2)++B) ((A.length+Y1.length:Nat):Int)=some x:=by rw [e1];exact zif p1
  have a2:at? (A++Y1++x::(y::Y2)++B) (((A.length+Y1.length:Nat):Int)+1)=some y:=by rw [e2];exact zif p2
  have s1:(A++Y1++x::(y::Y2)++B).set ((A.length+Y1.length:Nat):Int).toNat y=(A++Y1++[y])++y::(Y2++B):=by rw [e1,zhv p1];simp
  have p2':((A.length+Y1.length:Nat):Int)+1=((A++Y1++[y]).length:Int):=by simp;omega
  refine ⟨k+1,zh (by omega) (by omega),fun _=>⟨zh (by omega) (by omega),zh (by omega) (by omega),y,a2,x,a1,x,a1,y, ?_,zh (by omega) (by omega), ?_⟩,fun h=>absurd (by omega) (df0 h)⟩
  ·rw [s1];exact zif p2'
  ·rw [s1,zhv p2'];have p3:((A.length+(Y1++[y]).length:Nat):Int)=((A.length+Y1.length:Nat):Int)+1:=by simp;omega
   rw [p3] at hk;simpa using hk
theorem sm_l3 {A B:List Cl} {x:Cl} {i:Int} {X:List Cl→Prop}:∀(m:Nat) (Y1 Y2:List Cl),Y1.length=m→i=(A.length:Int)→(A++Y1++x::Y2++B).length<4611686018427387904→X (A++x::(Y1++Y2)++B) →
  ∃k,za.l3 i X k (A++Y1++x::Y2++B) ((A.length+Y1.length:Nat):Int):=by
 intro m
 induction m with
 | zero=>
  intro Y1 Y2 hm hi hl hX;have:=List.eq_nil_of_length_eq_zero hm;subst this;exact ⟨1,fun h=>absurd (dt0 h) (by rw [hi];simp),fun _=>by simpa using hX⟩
 | succ m ih=>
  intro Y1 Y2 hm hi hl hX;obtain ⟨Y1,y,rfl⟩:=snoc_of (l:=Y1) (by rintro rfl;simp at hm);have hl':A.length+Y1.length+Y2.length+1<4611686018427387904:=by simp at hl;omega
  obtain ⟨k,hk⟩:=ih Y1 (y::Y2) (by simpa using hm) hi (by simp at hl ⊢;omega) (by simpa using hX);have e1:A++(Y1++[y])++x::Y2++B=(A++Y1)++y::(x::Y2++B):=by simp
  have e2:A++(Y1++[y])++x::Y2++B=(A++Y1++[y])++x::(Y2++B):=by simp
  have p2:((A.length+(Y1++[y]).length:Nat):Int)=((A++Y1++[y]).length:Int):=by simp
  have p1:((A.length+(Y1++[y]).length:Nat):Int)-1=((A++Y1).length:Int):=by simp;omega
  have a2:at? (A++(Y1++[y])++x::Y2++B) ((A.length+(Y1++[y]).length:Nat):Int)=some x:=by rw [e2];exact zif p2
  have a1:at? (A++(Y1++[y])++x::Y2++B) (((A.length+(Y1++[y]).length:Nat):Int)-1)=some y:=by rw [e1];exact zif p1
  have s1:(A++(Y1++[y])++x::Y2++B).set ((A.length+(Y1++[y]).length:Nat):Int).toNat y=(A++Y1)++y::(y::Y2++B):=by rw [e2,zhv p2];simp
  refine ⟨k+1,fun _=>⟨zh (by simp;omega) (by simp;omega),zh (by simp;omega) (by simp;omega),y,a1,x,a2,x,a2,y, ?_,zh (by simp;omega) (by simp;omega), ?_⟩,fun h=>absurd (by rw [hi];simp;omega) (df0 h)⟩
  ·rw [s1];exact zif p1
  ·rw [s1,zhv p1,p1,show (((A++Y1).length:Nat):Int)=((A.length+Y1.length:Nat):Int) by simp];simpa using hk
theorem at_gd {A S B:List Cl} {c:Nat} (h1:A.length≤c) (h2:c<A.length+S.length):at? (A++S++B) (c:Int)=some (S.getD (c-A.length) 0#256):=by
 rw [at_app1 h1 h2,List.getD,List.getElem?_eq_getElem (by omega)];rfl
theorem gd_le {key:Cl→Int} {S:List Cl} (h:Srt key S) {i j:Nat} (hij:i≤j) (hj:j<S.length):key (S.getD i 0#256)≤key (S.getD j 0#256):=by
 have:=zpj h hij hj;rw [List.getD,List.getD,List.getElem?_eq_getElem (by omega),List.getElem?_eq_getElem hj];exact this
theorem getD_l {X Y:List Cl} {q:Nat} (h:q<X.length):(X++Y).getD q 0#256=X[q]:=by
 rw [List.getD,List.getElem?_append_left h,List.getElem?_eq_getElem h];rfl
theorem getD_r {X Y:List Cl} {q:Nat} (h:q<Y.length):(X++Y).getD (X.length+q) 0#256=Y[q]:=by
 rw [List.getD,List.getElem?_append_right (by omega),Nat.add_sub_cancel_left,List.getElem?_eq_getElem h];rfl
theorem sym_j7 {key:Cl→Int} {cmp:Cl × Cl × Int→Prop} {f:Nat} {A S1 S2 T1 T2 B:List Cl}
  (ih:∀(A S T B:List Cl),S.length+T.length≤f→S≠[]→T≠[]→Srt key S→Srt key T→(A++S++T++B).length<4611686018427387904 →
   za.n f (A++S++T++B) (A.length:Int) ((A.length+S.length:Nat):Int) ((A.length+S.length+T.length:Nat):Int) cmp (A++srt key (S++T)++B))
  (hS:Srt key (S1++S2)) (hT:Srt key (T1++T2)) (hlen:(A++(S1++S2)++(T1++T2)++B).length<4611686018427387904) (h1:∀t∈T1,∀s∈S2,key t<key s) (h2:∀s∈S1,∀t∈T2,key s≤key t)
  {st mid m b:Int} (hst:st=((A.length+S1.length:Nat):Int)) (hmid:mid=((A.length+S1.length+T1.length:Nat):Int)) (hm:m=((A.length+S1.length+S2.length:Nat):Int)) (hb:b=((A.length+S1.length+S2.length+T1.length+T2.length:Nat):Int))
  (hf1:S1.length+T1.length≤f) (hf2:S2.length+T2.length≤f):
  za.j7 (za.n f) (A++(S1++S2)++(T1++T2)++B) (A.length:Int) m b cmp (A++srt key ((S1++S2)++(T1++T2))++B) mid st:=by
 have hl:A.length+S1.length+S2.length+T1.length+T2.length+B.length<4611686018427387904:=by simp at hlen;omega
 obtain ⟨hS1,hS2,hSS⟩:=Srt.app.1 hS;obtain ⟨hT1,hT2,hTT⟩:=Srt.app.1 hT;have hres:srt key ((S1++S2)++(T1++T2))=srt key (S1++T1)++srt key (S2++T2):=by
  refine (zic (Srt.app.2 ⟨zim _ _,zim _ _,fun x hx y hy=>?_⟩) ?_).symm
  ·have hx':=(zgf key (S1++T1)).perm.mem_iff.2 hx;have hy':=(zgf key (S2++T2)).perm.mem_iff.2 hy;rcases List.mem_append.1 hx' with hx1 | hx1 <;> rcases List.mem_append.1 hy' with hy1 | hy1
   ·exact hSS x hx1 y hy1
   ·exact h2 x hx1 y hy1
   ·exact Int.le_of_lt (h1 x hx1 y hy1)
   ·exact hTT x hx1 y hy1
  ·have e1:SEq key (S2++T1) (T1++S2):=zja fun x hx y hy=>by have:=h1 y hy x hx;omega
   have e2:=(SEq.refl key S1).app (e1.app (SEq.refl key T2));have e3:=(zgf key (S1++T1)).app (zgf key (S2++T2));exact SEq.trans (by simpa using e2) (by simpa using e3)
 rw [hres];have hj5:za.j5 (za.n f) m b cmp (A++(srt key (S1++T1)++srt key (S2++T2))++B) mid st (A++srt key (S1++T1)++S2++T2++B):=by
  refine ⟨_,rfl,fun h=>?_,fun h=>?_⟩
  ·simp only [Bool.and_eq_true,decide_eq_true_eq] at h;have hS2n:S2≠[]:=by rintro rfl;simp at hm;omega
   have hT2n:T2≠[]:=by rintro rfl;simp at hb;omega
   have:=ih (A++srt key (S1++T1)) S2 T2 B hf2 hS2n hT2n hS2 hT2 (by simp [zgy];omega);refine ⟨_, ?_,rfl⟩;have e1:(((A++srt key (S1++T1)).length:Nat):Int)=mid:=by rw [hmid];simp [zgy];omega
   have e2:(((A++srt key (S1++T1)).length+S2.length:Nat):Int)=mid+m-st:=by rw [hmid,hm,hst];simp [zgy];omega
   have e3:(((A++srt key (S1++T1)).length+S2.length+T2.length:Nat):Int)=b:=by rw [hb];simp [zgy];omega
   rw [e1,e2,e3] at this;simpa using this
  ·have:S2=[]∨T2=[]:=by
    simp only [Bool.and_eq_false_iff,decide_eq_false_iff_not] at h;rcases h with h | h
    ·left;exact List.eq_nil_of_length_eq_zero (by omega)
    ·right;exact List.eq_nil_of_length_eq_zero (by omega)
   have e:srt key (S2++T2)=S2++T2:=by
    rcases this with rfl | rfl
    ·exact (zic (by simpa using hT2) (SEq.refl _ _)).symm
    ·exact (zic (by simpa using hS2) (SEq.refl _ _)).symm
   rw [e];simp
 have hj6:za.j6 (za.n f) (A.length:Int) m b cmp (A++(srt key (S1++T1)++srt key (S2++T2))++B) mid st (A++S1++T1++S2++T2++B):=by
  refine ⟨_,rfl,fun h=>?_,fun h=>?_⟩
  ·simp only [Bool.and_eq_true,decide_eq_true_eq] at h;have hS1n:S1≠[]:=by rintro rfl;simp at hst;omega
   have hT1n:T1≠[]:=by rintro rfl;simp at hmid;omega
   have:=ih A S1 T1 (S2++T2++B) hf1 hS1n hT1n hS1 hT1 (by simp;omega);refine ⟨A++srt key (S1++T1)++S2++T2++B, ?_,hj5⟩;rw [← hst,← hmid] at this;simpa using this
  ·have:S1=[]∨T1=[]:=by
    simp only [Bool.and_eq_false_iff,decide_eq_false_iff_not] at h;rcases h with h | h
    ·left;exact List.eq_nil_of_length_eq_zero (by omega)
    ·right;exact List.eq_nil_of_length_eq_zero (by omega)
   have e:srt key (S1++T1)=S1++T1:=by
    rcases this with rfl | rfl
    ·exact (zic (by simpa using hT1) (SEq.refl _ _)).symm
    ·exact (zic (by simpa using hS1) (SEq.refl _ _)).symm
   rw [e] at hj5 ⊢;simpa using hj5
 refine ⟨zh (by omega) (by omega),_,rfl,fun h=>?_,fun h=>?_⟩
 ·simp only [Bool.and_eq_true,decide_eq_true_eq] at h;have hS2n:S2≠[]:=by rintro rfl;simp at hm;omega
  have hT1n:T1≠[]:=by rintro rfl;simp at hmid;omega
  have:=rot_in (cmp:=cmp) (A:=A++S1) (X:=S2) (Y:=T1) (B:=T2++B) (a:=st) (m:=m) (b:=mid+m-st) (by rw [hst];simp) (by rw [hm];simp) (by rw [hmid,hm,hst];simp;omega) hS2n hT1n (by simp;omega);refine ⟨A++S1++T1++S2++T2++B, ?_,hj6⟩;simpa using this
 ·have:S2=[]∨T1=[]:=by
   simp only [Bool.and_eq_false_iff,decide_eq_false_iff_not] at h;rcases h with h | h
   ·left;exact List.eq_nil_of_length_eq_zero (by omega)
   ·right;exact List.eq_nil_of_length_eq_zero (by omega)
  have e:A++(S1++S2)++(T1++T2)++B=A++S1++T1++S2++T2++B:=by
   rcases this with rfl | rfl <;> simp
  rw [e];exact hj6
theorem sym_n {key:Cl→Int} {cmp:Cl × Cl × Int→Prop} (hc:zry key cmp):∀(f:Nat) (A S T B:List Cl),S.length+T.length≤f→S≠[]→T≠[]→Srt key S→Srt key T→(A++S++T++B).length<4611686018427387904 →
  za.n f (A++S++T++B) (A.length:Int) ((A.length+S.length:Nat):Int) ((A.length+S.length+T.length:Nat):Int) cmp (A++srt key (S++T)++B):=by
 intro f
 induction f with
 | zero=>intro A S T B hf hS;exact absurd (List.eq_nil_of_length_eq_zero (by omega)) hS
 | succ f ih=>
  intro A S T B hf hSn hTn hS hT hlen;have hl:A.length+S.length+T.length+B.length<4611686018427387904:=by simp at hlen;omega
  have hs0:0<S.length:=List.length_pos_iff.2 hSn;have ht0:0<T.length:=List.length_pos_iff.2 hTn;have atS:∀c:Nat,A.length≤c→c<A.length+S.length→at? (A++S++T++B) (c:Int)=some (S.getD (c-A.length) 0#256):=fun c h1 h2=>by
   rw [show A++S++T++B=A++S++(T++B) by simp];exact at_gd h1 h2
  have atT:∀c:Nat,A.length+S.length≤c→c<A.length+S.length+T.length→at? (A++S++T++B) (c:Int)=some (T.getD (c-(A.length+S.length)) 0#256):=fun c h1 h2=>by
   have:=at_gd (A:=A++S) (S:=T) (B:=B) (c:=c) (by simp;omega) (by simp;omega);simpa using this
  refine ⟨zh (by omega) (by omega),fun h1=>?_,fun h1=>⟨zh (by omega) (by omega),fun h2=>?_,fun h2=>⟨zh (by omega) (by omega), ?_⟩⟩⟩
  ·-- one thing ahead
   have hs1:S.length=1:=by simp at h1;omega
   obtain ⟨x,rfl⟩:=List.length_eq_one_iff.1 hs1;refine bsearch (P:=fun k i j=>za.l2 (A++[x]++T++B) (A.length:Int) cmp _ k i j) (fun c=>decide (key (T.getD (c-(A.length+1)) 0#256)<key x)) (A.length+1) (A.length+1+T.length) (fun c d h1 h2 h3 h4=>?_) (fun k i j h1 h2 h3=>?_) (fun k i h1 h2 h3 h4=>?_) (by omega)
   ·have:=gd_le hT (i:=c-(A.length+1)) (j:=d-(A.length+1)) (by omega) (by omega);simp only [decide_eq_true_eq] at h4 ⊢;omega
   ·have hat:=atT ((i+j) / 2) (by simp;omega) (by simp;omega);have hax:=atS A.length (Nat.le_refl _) (by simp);have hh:∀(p:Prop),(((decide ((i:Int)<(j:Int)))=true→InR .i64 ((i:Int)+j)∧∃i42:Int,i42=(IntKind.wrap .i64 (zpl (IntKind.wrap .u64 ((i:Int)+j)) 1))∧∃e45:Cl,at? (A++[x]++T++B) i42=some e45∧∃e47:Cl,at? (A++[x]++T++B) (A.length:Int)=some e47∧∃r49:Int,cmp (e45,e47,r49)∧p)→True):=fun _ _=>trivial;constructor
    ·intro hp hk;refine ⟨fun _=>⟨zh (by omega) (by omega),_,rfl,T.getD ((i+j) / 2-(A.length+1)) 0#256, ?_,x,by simpa using hax,_,hc _ _,fun _=>⟨?_, ?_⟩,fun h=>?_⟩,fun h=>absurd (by omega) (df0 h)⟩
     ·rw [zfw (by omega) (by omega),show ((i:Int)+j) / 2=(((i+j) / 2:Nat):Int) by omega];simpa using hat
     ·rw [zfw (by omega) (by omega)];exact zh (by omega) (by omega)
     ·rw [zfw (by omega) (by omega),show ((i:Int)+j) / 2+1=(((i+j) / 2+1:Nat):Int) by omega];exact hk
     ·exfalso;simp at h hp;omega
    ·intro hp hk;refine ⟨fun _=>⟨zh (by omega) (by omega),_,rfl,T.getD ((i+j) / 2-(A.length+1)) 0#256, ?_,x,by simpa using hax,_,hc _ _,fun h=>?_,fun _=>?_⟩,fun h=>absurd (by omega) (df0 h)⟩
     ·rw [zfw (by omega) (by omega),show ((i:Int)+j) / 2=(((i+j) / 2:Nat):Int) by omega];simpa using hat
     ·exfalso;simp at h hp;omega
     ·rw [zfw (by omega) (by omega),show ((i:Int)+j) / 2=(((i+j) / 2:Nat):Int) by omega];exact hk
   ·refine ⟨fun h=>absurd (dt0 h) (by omega),fun _=>?_⟩;obtain ⟨T1,T2,rfl,hT1⟩:=zfk T (show i-(A.length+1)≤T.length by omega);have hlt:∀y∈T1,key y<key x:=fun y hy=>by
     obtain ⟨q,hq,rfl⟩:=List.mem_iff_getElem.1 hy;have:=h3 (A.length+1+q) (by omega) (by omega);rw [show A.length+1+q-(A.length+1)=q by omega,getD_l hq] at this;exact of_decide_eq_true this
    have hge:∀y∈T2,key x≤key y:=fun y hy=>by
     obtain ⟨q,hq,rfl⟩:=List.mem_iff_getElem.1 hy;have:=h4 (A.length+1+T1.length+q) (by omega) (by simp;omega);rw [show A.length+1+T1.length+q-(A.length+1)=T1.length+q by omega,getD_r hq] at this;have:=of_decide_eq_false this;omega
    have hres:srt key ([x]++(T1++T2))=T1++x::T2:=by
     refine (zic (Srt.app.2 ⟨(Srt.app.1 hT).1,Srt.cons.2 ⟨hge,(Srt.app.1 hT).2.1⟩,fun p hp q hq=>?_⟩) ?_).symm
     ·rcases List.mem_cons.1 hq with rfl | hq
      ·exact Int.le_of_lt (hlt p hp)
      ·exact (Srt.app.1 hT).2.2 p hp q hq
     ·have e1:SEq key ([x]++T1) (T1++[x]):=zja fun a ha b hb=>by simp at ha;subst ha;have:=hlt b hb;omega
      simpa using e1.app (SEq.refl key T2)
    rw [hres];have:=sm_l1 (A:=A) (B:=T2++B) (x:=x) (i:=(i:Int)) (X:=za.j1 (A++(T1++x::T2)++B)) T1 [] (by simp;omega) (by simp at hl ⊢;omega) (by simp [za.j1]);show ∃k15,za.l1 (i:Int) _ k15 _ _;simpa using this
  ·-- one thing behind
   have ht1:T.length=1:=by simp at h2;omega
   obtain ⟨y,rfl⟩:=List.length_eq_one_iff.1 ht1;refine bsearch (P:=fun k i j=>za.l4 (A++S++[y]++B) ((A.length+S.length:Nat):Int) cmp _ k i j) (fun c=>!decide (key y<key (S.getD (c-A.length) 0#256))) A.length (A.length+S.length) (fun c d h1 h2 h3 h4=>?_) (fun k i j h1 h2 h3=>?_) (fun k i h1 h2 h3 h4=>?_) (by omega)
   ·have:=gd_le hS (i:=c-A.length) (j:=d-A.length) (by omega) (by omega);simp only [Bool.not_eq_true',decide_eq_false_iff_not] at h4 ⊢;omega
   ·have hat:=atS ((i+j) / 2) (by omega) (by omega);have hay:=atT (A.length+S.length) (Nat.le_refl _) (by simp);constructor
    ·intro hp hk;refine ⟨fun _=>⟨zh (by omega) (by omega),_,rfl,y,by simpa using hay,S.getD ((i+j) / 2-A.length) 0#256, ?_,_,hc _ _,fun _=>⟨?_, ?_⟩,fun h=>?_⟩,fun h=>absurd (by omega) (df0 h)⟩
     ·rw [zfw (by omega) (by omega),show ((i:Int)+j) / 2=(((i+j) / 2:Nat):Int) by omega];exact hat
     ·rw [zfw (by omega) (by omega)];exact zh (by omega) (by omega)
     ·rw [zfw (by omega) (by omega),show ((i:Int)+j) / 2+1=(((i+j) / 2+1:Nat):Int) by omega];exact hk
     ·exfalso;simp only [Bool.not_eq_true',Bool.not_eq_false',decide_eq_true_eq,decide_eq_false_iff_not] at h hp;omega
    ·intro hp hk;refine ⟨fun _=>⟨zh (by omega) (by omega),_,rfl,y,by simpa using hay,S.getD ((i+j) / 2-A.length) 0#256, ?_,_,hc _ _,fun h=>?_,fun _=>?_⟩,fun h=>absurd (by omega) (df0 h)⟩
     ·rw [zfw (by omega) (by omega),show ((i:Int)+j) / 2=(((i+j) / 2:Nat):Int) by omega];exact hat
     ·exfalso;simp only [Bool.not_eq_true',Bool.not_eq_false',decide_eq_true_eq,decide_eq_false_iff_not] at h hp;omega
     ·rw [zfw (by omega) (by omega),show ((i:Int)+j) / 2=(((i+j) / 2:Nat):Int) by omega];exact hk
   ·refine ⟨fun h=>absurd (dt0 h) (by omega),fun _=>?_⟩;obtain ⟨S1,S2,rfl,hS1⟩:=zfk S (show i-A.length≤S.length by omega);have hle:∀x∈S1,key x≤key y:=fun x hx=>by
     obtain ⟨q,hq,rfl⟩:=List.mem_iff_getElem.1 hx;have:=h3 (A.length+q) (by omega) (by omega);rw [show A.length+q-A.length=q by omega,getD_l hq] at this;simp only [Bool.not_eq_true',decide_eq_false_iff_not] at this;omega
    have hgt:∀x∈S2,key y<key x:=fun x hx=>by
     obtain ⟨q,hq,rfl⟩:=List.mem_iff_getElem.1 hx;have:=h4 (A.length+S1.length+q) (by omega) (by simp;omega);rw [show A.length+S1.length+q-A.length=S1.length+q by omega,getD_r hq] at this;simpa using this
    have hres:srt key ((S1++S2)++[y])=S1++y::S2:=by
     refine (zic (Srt.app.2 ⟨(Srt.app.1 hS).1,Srt.cons.2 ⟨fun q hq=>Int.le_of_lt (hgt q hq),(Srt.app.1 hS).2.1⟩,fun p hp q hq=>?_⟩) ?_).symm
     ·rcases List.mem_cons.1 hq with rfl | hq
      ·exact hle p hp
      ·exact (Srt.app.1 hS).2.2 p hp q hq
     ·have e1:SEq key (S2++[y]) ([y]++S2):=zja fun a ha b hb=>by simp at hb;subst hb;have:=hgt a ha;omega
      simpa using (SEq.refl key S1).app e1
    rw [hres];have:=sm_l3 (A:=A++S1) (B:=B) (x:=y) (i:=(i:Int)) (X:=za.j3 (A++(S1++y::S2)++B)) S2.length S2 [] rfl (by simp;omega) (by simp at hl ⊢;omega) (by simp [za.j3]);show ∃k66,za.l3 (i:Int) _ k66 _ _;have e:(((A++S1).length+S2.length:Nat):Int)=((A.length+(S1++S2).length:Nat):Int):=by simp;omega
    rw [e] at this;simpa using this
  ·-- both longer
   have hs2:2≤S.length:=by simp at h1;omega
   have ht2:2≤T.length:=by simp at h2;omega
   obtain ⟨mid,hmid⟩:∃mid:Nat,mid=(A.length+(A.length+S.length+T.length)) / 2:=⟨_,rfl⟩;have hmidI:IntKind.wrap .i64 (zpl (IntKind.wrap .u64 ((A.length:Int)+((A.length+S.length+T.length:Nat):Int))) 1)=(mid:Int):=by
    rw [zfw (by omega) (by omega)];omega
   refine ⟨_,rfl, ?_⟩;rw [hmidI];have main:∀(lo hi:Nat),(lo=A.length∨lo+(A.length+S.length+T.length)=mid+(A.length+S.length))→A.length≤lo→mid+(A.length+S.length)≤lo+(A.length+S.length+T.length)→(hi=mid∨hi=A.length+S.length)→hi≤mid→hi≤A.length+S.length→lo≤hi →
     za.j8 (za.n f) (A++S++T++B) (A.length:Int) ((A.length+S.length:Nat):Int) ((A.length+S.length+T.length:Nat):Int) cmp (A++srt key (S++T)++B) (mid:Int) (lo:Int) (hi:Int):=by
    intro lo hi hlo hla hlb hhi hhm hhs hle;refine ⟨zh (by omega) (by omega), ?_⟩;refine bsearch (P:=fun k i j=>za.l5 (A++S++T++B) ((A.length+S.length:Nat):Int) cmp (mid:Int) _ k i j) (fun c=>!decide (key (T.getD (mid-1-c) 0#256)<key (S.getD (c-A.length) 0#256))) lo hi (fun c d h1 h2 h3 h4=>?_) (fun k i j h1 h2 h3=>?_) (fun k st h1 h2 h3 h4=>?_) hle
    ·have e1:=gd_le hS (i:=c-A.length) (j:=d-A.length) (by omega) (by omega);have e2:=gd_le hT (i:=mid-1-d) (j:=mid-1-c) (by omega) (by omega);simp only [Bool.not_eq_true',decide_eq_false_iff_not] at h4 ⊢;omega
    ·have hat:=atS ((i+j) / 2) (by omega) (by omega);have hay:=atT (mid+(A.length+S.length)-1-(i+j) / 2) (by omega) (by omega);rw [show mid+(A.length+S.length)-1-(i+j) / 2-(A.length+S.length)=mid-1-(i+j) / 2 by omega] at hay;have hpc:(mid:Int)+((A.length+S.length:Nat):Int)-1-(((i+j) / 2:Nat):Int)=((mid+(A.length+S.length)-1-(i+j) / 2:Nat):Int):=by omega
     have hh:IntKind.wrap .i64 (zpl (IntKind.wrap .u64 ((i:Int)+(j:Int))) 1)=(((i+j) / 2:Nat):Int):=by rw [zfw (by omega) (by omega)];omega
     constructor
     ·intro hp hk;refine ⟨fun _=>⟨zh (by omega) (by omega),_,rfl, ?_⟩,fun h=>absurd (by omega) (df0 h)⟩;rw [hh,hpc];refine ⟨zh (by omega) (by omega),_,hay,_,hat,_,hc _ _,fun _=>⟨zh (by omega) (by omega),by simpa using hk⟩,fun h=>?_⟩;exfalso;simp only [Bool.not_eq_true',Bool.not_eq_false',decide_eq_true_eq,decide_eq_false_iff_not] at h hp;omega
     ·intro hp hk;refine ⟨fun _=>⟨zh (by omega) (by omega),_,rfl, ?_⟩,fun h=>absurd (by omega) (df0 h)⟩;rw [hh,hpc];refine ⟨zh (by omega) (by omega),_,hay,_,hat,_,hc _ _,fun h=>?_,fun _=>hk⟩;exfalso;simp only [Bool.not_eq_true',Bool.not_eq_false',decide_eq_true_eq,decide_eq_false_iff_not] at h hp;omega
    ·refine ⟨fun h=>absurd (dt0 h) (by omega),fun _=>?_⟩;obtain ⟨S1,S2,rfl,hS1⟩:=zfk S (show st-A.length≤S.length by omega);obtain ⟨T1,T2,rfl,hT1⟩:=zfk T (show mid-st≤T.length by omega);simp only [List.length_append] at hmid hs2 ht2 hlo hla hlb hhi hhm hhs hf hl hS1 hT1 ⊢;refine sym_j7 (key:=key) ih hS hT hlen (fun t ht s hs=>?_) (fun s hs t ht=>?_) (by omega) (by omega) (by omega) (by omega) (by omega) (by omega)
     ·-- what stands ahead of the middle behind is less
      have hs2:0<S2.length:=List.length_pos_iff.2 (List.ne_nil_of_mem hs);have ht1:0<T1.length:=List.length_pos_iff.2 (List.ne_nil_of_mem ht);obtain ⟨q,hq,rfl⟩:=List.mem_iff_getElem.1 ht;obtain ⟨r,hr,rfl⟩:=List.mem_iff_getElem.1 hs;have hp:=h4 st (Nat.le_refl _) (by omega);rw [show mid-1-st=T1.length-1 by omega,show st-A.length=S1.length+0 by omega,getD_l (by omega),getD_r hs2] at hp;have e1:=zpj (Srt.app.1 hT).1 (i:=q) (j:=T1.length-1) (by omega) (by omega);have e2:=zpj (Srt.app.1 hS).2.1 (i:=0) (j:=r) (by omega) hr;simp only [Bool.not_eq_false',decide_eq_true_eq] at hp;omega
     ·have hs1:0<S1.length:=List.length_pos_iff.2 (List.ne_nil_of_mem hs);have ht2:0<T2.length:=List.length_pos_iff.2 (List.ne_nil_of_mem ht);obtain ⟨q,hq,rfl⟩:=List.mem_iff_getElem.1 ht;obtain ⟨r,hr,rfl⟩:=List.mem_iff_getElem.1 hs;have hp:=h3 (st-1) (by omega) (by omega);rw [show mid-1-(st-1)=T1.length+0 by omega,show st-1-A.length=S1.length-1 by omega,getD_r ht2,getD_l (X:=S1) (q:=S1.length-1) (by omega)] at hp;have e1:=zpj (Srt.app.1 hT).2.1 (i:=0) (j:=q) (by omega) hq;have e2:=zpj (Srt.app.1 hS).1 (i:=r) (j:=S1.length-1) (by omega) (by omega);simp only [Bool.not_eq_true',decide_eq_false_iff_not] at hp;omega
   refine ⟨zh (by omega) (by omega),fun h=>⟨zh (by omega) (by omega), ?_⟩,fun h=>?_⟩
   ·have hlt:mid<A.length+S.length:=by have:=dt0 h;omega
    have:=main (mid+(A.length+S.length)-(A.length+S.length+T.length)) mid (by omega) (by omega) (by omega) (.inl rfl) (Nat.le_refl _) (by omega) (by omega);rw [show ((mid+(A.length+S.length)-(A.length+S.length+T.length):Nat):Int)=(mid:Int)+((A.length+S.length:Nat):Int)-((A.length+S.length+T.length:Nat):Int) by omega] at this;exact this
   ·have hge:¬ mid<A.length+S.length:=by have:=df0 h;omega
    exact main A.length (A.length+S.length) (.inl rfl) (Nat.le_refl _) (by omega) (.inr rfl) (by omega) (Nat.le_refl _) (by omega)
def BS (key:Cl→Int) (n:Nat) (l:List Cl):Prop:=∀(i j:Nat) (hj:j<l.length) (hi:i≤j),i / n=j / n→key (l[i]'(by omega))≤key l[j]
theorem BS.of_srt {key:Cl→Int} {n:Nat} {l:List Cl} (h:Srt key l):BS key n l:=fun i j hj hi _=>zpj h hi hj
theorem BS.srt {key:Cl→Int} {n:Nat} {l:List Cl} (h:BS key n l) (hl:l.length≤n):Srt key l:=by
 refine List.pairwise_iff_getElem.2 fun i j hi hj hij=>h i j hj (Nat.le_of_lt hij) ?_;rw [Nat.div_eq_of_lt (by omega),Nat.div_eq_of_lt (by omega)]
theorem BS.app {key:Cl→Int} {n q:Nat} {P Q:List Cl} (hn:0<n) (hP:P.length=q*n) (h1:BS key n P) (h2:BS key n Q):BS key n (P++Q):=fun i j hj hi he=>by
 by_cases hjp:j<P.length
 ·rw [List.getElem_append_left (by omega),List.getElem_append_left hjp];exact h1 i j hjp hi he
 ·have hq:q≤j / n:=by rw [Nat.le_div_iff_mul_le hn];omega
  have hip:P.length≤i:=by
   rcases Nat.lt_or_ge i P.length with h | h
   ·have:i / n<q:=by rw [Nat.div_lt_iff_lt_mul hn];omega
    omega
   ·exact h
  rw [List.getElem_append_right hip,List.getElem_append_right (by omega)];refine h2 (i-P.length) (j-P.length) (by simp at hj;omega) (by omega) ?_;have e1:i=(i-P.length)+q*n:=by omega
  have e2:j=(j-P.length)+q*n:=by omega
  rw [e1,e2,Nat.add_mul_div_right _ _ hn,Nat.add_mul_div_right _ _ hn] at he;omega
theorem BS.left {key:Cl→Int} {n:Nat} {P Q:List Cl} (h:BS key n (P++Q)):BS key n P:=fun i j hj hi he=>by
 have:=h i j (by simp;omega) hi he
 rwa [List.getElem_append_left (by omega),List.getElem_append_left hj] at this
theorem BS.right {key:Cl→Int} {n q:Nat} {P Q:List Cl} (hn:0<n) (hP:P.length=q*n) (h:BS key n (P++Q)):BS key n Q:=fun i j hj hi he=>by
 have:=h (P.length+i) (P.length+j) (by simp;omega) (by omega) (by rw [hP,Nat.add_comm,Nat.add_comm (q*n) j,Nat.add_mul_div_right _ _ hn,Nat.add_mul_div_right _ _ hn,he]);rw [List.getElem_append_right (by omega),List.getElem_append_right (by omega)] at this;simpa using this
theorem sym_in {key:Cl→Int} {cmp:Cl × Cl × Int→Prop} (hc:zry key cmp) {A S T B:List Cl} {a m b:Int} (ha:a=(A.length:Int)) (hm:m=((A.length+S.length:Nat):Int)) (hb:b=((A.length+S.length+T.length:Nat):Int)) (hS:S≠[]) (hT:T≠[]) (h1:Srt key S) (h2:Srt key T)
  (hl:(A++S++T++B).length<4611686018427387904):za (A++S++T++B) a m b cmp (A++srt key (S++T)++B):=by
 subst ha;subst hm;subst hb;exact ⟨_,sym_n hc _ A S T B (Nat.le_refl _) hS hT h1 h2 hl⟩
section
variable {key : Cl → Int} {cmp : Cl × Cl × Int → Prop} {xs : List Cl} {r : List Cl}
theorem st_l2 (hc:zry key cmp) (hn:xs.length<1152921504606846976) {bs:Nat} (hbs:0<bs) (hbn:bs<xs.length) {L1:List Cl→Int→Prop} (hL:∀Q,BS key (2*bs) Q→SEq key xs Q→L1 Q ((bs:Int)*2)):
  ∀(f:Nat) (P R:List Cl) (q:Nat),R.length≤f→P.length=q*(2*bs)→BS key (2*bs) P→BS key bs R→SEq key xs (P++R) →
   ∃k,zb.l2 (xs.length:Int) cmp (bs:Int) (zb.j2 L1 (xs.length:Int) cmp (bs:Int)) k (P++R) (P.length:Int) ((P.length:Int)+2*(bs:Int)):=by
 intro f
 induction f with
 | zero=>
  intro P R q hf hP h1 h2 h3;have:=List.eq_nil_of_length_eq_zero (show R.length=0 by omega);subst this;have hl:=h3.length;simp at hl;refine ⟨1,fun h=>absurd (dt0 h) (by omega),fun _=>⟨zh (by omega) (by omega),fun h=>absurd (dt0 h) (by omega),fun _=>⟨zh (by omega) (by omega), ?_⟩⟩⟩;rw [List.append_nil] at h3 ⊢;exact hL P h1 h3
 | succ f ih=>
  intro P R q hf hP h1 h2 h3;have hl:=h3.length;simp at hl
  by_cases hle:P.length+2*bs≤xs.length
  ·obtain ⟨S,R1,rfl,hS⟩:=zfk R (show bs≤R.length by omega);simp at hl;obtain ⟨T,R2,rfl,hT⟩:=zfk R1 (show bs≤R1.length by omega);simp at hl hf;have hSs:=h2.left.srt (by omega);have h2':=BS.right hbs (q:=1) (by omega) h2;have hTs:=h2'.left.srt (by omega);have h2'':=BS.right hbs (q:=1) (by omega) h2';have hP2:(P++srt key (S++T)).length=(q+1)*(2*bs):=by simp [zgy,hP,Nat.add_mul];omega
   obtain ⟨k,hk⟩:=ih (P++srt key (S++T)) R2 (q+1) (by omega) hP2 (BS.app (by omega) hP h1 (BS.of_srt (zim _ _))) h2'' (h3.trans (by
    have:=(SEq.refl key P).app ((zgf key (S++T)).app (SEq.refl key R2));simpa using this))
   refine ⟨k+1,fun _=>⟨zh (by omega) (by omega),P++srt key (S++T)++R2, ?_,zh (by omega) (by omega),zh (by omega) (by omega), ?_⟩,fun h=>absurd (by omega) (df0 h)⟩
   ·have:=sym_in hc (A:=P) (S:=S) (T:=T) (B:=R2) (a:=(P.length:Int)) (m:=(P.length:Int)+(bs:Int)) (b:=(P.length:Int)+2*(bs:Int)) rfl (by omega) (by omega) (by rintro rfl;simp at hS;omega) (by rintro rfl;simp at hT;omega) hSs hTs (by simp;omega);simpa using this
   ·have e:(((P++srt key (S++T)).length:Nat):Int)=(P.length:Int)+2*(bs:Int):=by simp [zgy];omega
    rw [e] at hk;exact hk
  ·by_cases hm:P.length+bs<xs.length
   ·obtain ⟨S,T,rfl,hS⟩:=zfk R (show bs≤R.length by omega);simp at hl;have hSs:=h2.left.srt (by omega);have hTs:=(BS.right hbs (q:=1) (by omega) h2).srt (by omega);refine ⟨1,fun h=>absurd (dt0 h) (by omega),fun _=>⟨zh (by omega) (by omega),fun _=>⟨P++srt key (S++T)++[], ?_,zh (by omega) (by omega), ?_⟩,fun h=>absurd (by omega) (df0 h)⟩⟩
    ·have:=sym_in hc (A:=P) (S:=S) (T:=T) (B:=[]) (a:=(P.length:Int)) (m:=(P.length:Int)+(bs:Int)) (b:=(xs.length:Int)) rfl (by omega) (by omega) (by rintro rfl;simp at hS;omega) (by rintro rfl;simp at hl;omega) hSs hTs (by simp;omega);simpa using this
    ·rw [List.append_nil];exact hL _ (BS.app (by omega) hP h1 (BS.of_srt (zim _ _))) (h3.trans (by
      have:=(SEq.refl key P).app (zgf key (S++T));simpa using this))
   ·refine ⟨1,fun h=>absurd (dt0 h) (by omega),fun _=>⟨zh (by omega) (by omega),fun h=>absurd (dt0 h) (by omega),fun _=>⟨zh (by omega) (by omega), ?_⟩⟩⟩;exact hL _ (BS.app (by omega) hP h1 (BS.of_srt (h2.srt (by omega)))) h3
theorem st_l1 (hc:zry key cmp) (hn:xs.length<1152921504606846976):∀(f:Nat) (bs:Nat) (Q:List Cl),xs.length-bs≤f→0<bs→BS key bs Q→SEq key xs Q →
  zb.l1 (xs.length:Int) cmp (zb.j1 (srt key xs)) (f+1) Q (bs:Int):=by
 intro f
 induction f with
 | zero=>
  intro bs Q hf hbs h1 h2;have hl:=h2.length;exact ⟨fun h=>absurd (dt0 h) (by omega),fun _=>(zic (h1.srt (by omega)) h2).symm⟩
 | succ f ih=>
  intro bs Q hf hbs h1 h2;have hl:=h2.length
  by_cases hlt:bs<xs.length
  ·refine ⟨fun _=>⟨zh (by omega) (by omega), ?_⟩,fun h=>absurd (by omega) (df0 h)⟩;have:=st_l2 hc hn hbs hlt (L1:=zb.l1 (xs.length:Int) cmp (zb.j1 (srt key xs)) (f+1)) (fun Q' hb hs=>by
    have:=ih (2*bs) Q' (by omega) (by omega) hb hs
    rwa [show (((2*bs:Nat)):Int)=(bs:Int)*2 by omega] at this) Q.length [] Q 0 (Nat.le_refl _) (by simp) (fun i j hj=>by simp at hj) h1 (by simpa using h2)
   simpa using this
  ·exact ⟨fun h=>absurd (dt0 h) (by omega),fun _=>(zic (h1.srt (by omega)) h2).symm⟩
theorem st_l3 (hc:zry key cmp) (hn:xs.length<1152921504606846976):∀(f:Nat) (P R:List Cl) (q:Nat),R.length≤f→P.length=q*20→BS key 20 P→SEq key xs (P++R) →
  ∃k,zb.l3 (xs.length:Int) cmp (zb.j3 (xs.length:Int) cmp (srt key xs)) k (P++R) (P.length:Int) ((P.length:Int)+20):=by
 intro f;have fin:∀(P R:List Cl) (q:Nat),P.length=q*20→BS key 20 P→SEq key xs (P++R)→R.length≤20→zb.j3 (xs.length:Int) cmp (srt key xs) (P++R) (P.length:Int):=by
  intro P R q hP h1 h3 hR;have hl:=h3.length;simp at hl;have:=ins_in hc (A:=P) (S:=R) (B:=[]) (a:=(P.length:Int)) (b:=(xs.length:Int)) rfl (by omega) (by simp;omega);refine ⟨P++srt key R,by simpa using this,_,st_l1 hc hn xs.length 20 _ (by omega) (by omega) (BS.app (by omega) hP h1 (BS.of_srt (zim _ _))) (h3.trans ((SEq.refl key P).app (zgf key R)))⟩
 induction f with
 | zero=>
  intro P R q hf hP h1 h3;have hl:=h3.length;simp at hl;exact ⟨1,fun h=>absurd (dt0 h) (by omega),fun _=>fin P R q hP h1 h3 (by omega)⟩
 | succ f ih=>
  intro P R q hf hP h1 h3;have hl:=h3.length;simp at hl
  by_cases hle:P.length+20≤xs.length
  ·obtain ⟨S,R1,rfl,hS⟩:=zfk R (show 20≤R.length by omega);simp at hl hf;have hP2:(P++srt key S).length=(q+1)*20:=by simp [zgy,hP,Nat.add_mul];omega
   obtain ⟨k,hk⟩:=ih (P++srt key S) R1 (q+1) (by omega) hP2 (BS.app (by omega) hP h1 (BS.of_srt (zim _ _))) (h3.trans (by
    have:=(SEq.refl key P).app ((zgf key S).app (SEq.refl key R1));simpa using this))
   refine ⟨k+1,fun _=>⟨P++srt key S++R1, ?_,zh (by omega) (by omega), ?_⟩,fun h=>absurd (by omega) (df0 h)⟩
   ·have:=ins_in hc (A:=P) (S:=S) (B:=R1) (a:=(P.length:Int)) (b:=(P.length:Int)+20) rfl (by omega) (by simp;omega);simpa using this
   ·have e:(((P++srt key S).length:Nat):Int)=(P.length:Int)+20:=by simp [zgy];omega
    rw [e] at hk;exact hk
  ·exact ⟨1,fun h=>absurd (dt0 h) (by omega),fun _=>fin P R q hP h1 h3 (by omega)⟩
theorem stable_in (hc:zry key cmp) (hn:xs.length<1152921504606846976):zbg xs cmp (srt key xs):=by
 have:=st_l3 hc hn xs.length [] xs 0 (Nat.le_refl _) (by simp) (fun i j hj=>by simp at hj) (SEq.refl _ _);refine ⟨_, ?_,rfl⟩;unfold zb;simpa using this
end
end Go.Proofs.YtkbboemafklkkaaGreatDoor.V
namespace Go.Proofs.YtkbboemafklkkaaGreatDoor.V
open Go
set_option linter.unusedVariables false
theorem lk0_le (p:Cl):0≤lk0 p∧lk0 p≤255:=by
 unfold lk0
 by_cases h:0<p.count
 ·obtain ⟨n,h1,h2,_,_⟩:=zq8 h;rw [h2];simp;omega
 ·have:p.least=(0,false):=zh1 fun m hm=>by
   cases hb:p.has m
   ·rfl
   ·exact absurd (count_pos hm hb) h
  rw [this];simp
theorem split_cmp:zry lk0 (fun q_=>zel q_.1 q_.2.1 (fun q_=>zd3 q_.1 q_.2) q_.2.2):=fun x y=>by
 have h1:=lk0_le x;have h2:=lk0_le y;exact ⟨lk0 x,⟨_,zg7,rfl⟩,lk0 y,⟨_,zg7,rfl⟩,zh (by omega) (by omega),rfl⟩
theorem flat_len2 (a:Cl) (l:List Cl):(l.flatMap (zgu a)).length≤2*l.length:=by
 induction l with
 | nil=>simp
 | cons p l ih=>
  rw [List.flatMap_cons,List.length_append];have:(zgu a p).length≤2:=by
   have:=List.length_filter_le (fun q:Cl=>decide (0<q.count)) [p &&& a,p &&& ~~~ a];simpa [zgu] using this
  rw [List.length_cons];omega
theorem znd {ps:List Cl} {a:Cl} (hl:ps.length≤1073741823):z8 ps a (zne ps a):=by
 refine zhq (P:=fun k (s:List Cl) v=>z8.l1 ps a _ k s v) ps.length (fun i s=>s=(ps.take i).flatMap (zgu a)) ?_ ?_ _ (by simp)
 ·rintro i s hi rfl;refine .inr ⟨_,rfl,fun k h=>⟨fun _=>⟨ps[i],by rw [zbl];simp [hi],_,zky,_,zl6,_,zky, ?_⟩,fun h=>absurd (by omega) (df h)⟩⟩;have hb:=flat_len2 a (ps.take i);simp only [List.length_take] at hb;refine zhq (P:=fun k (s:List Cl) v=>z8.l2 _ _ _ k s v) 2 (fun j s=>s=(ps.take i).flatMap (zgu a)++([ps[i] &&& a,ps[i] &&& ~~~ a].take j).filter fun q=>decide (0<q.count)) ?_ ?_ _ (by simp)
  ·rintro j s hj rfl;have hlen:(([ps[i] &&& a,ps[i] &&& ~~~ a].take j).filter fun q=>decide (0<q.count)).length≤1:=by
    have:=List.length_filter_le (fun q:Cl=>decide (0<q.count)) ([ps[i] &&& a,ps[i] &&& ~~~ a].take j);simp at this;omega
   refine .inr ⟨_,rfl,fun k h=>⟨fun _=>⟨[ps[i] &&& a,ps[i] &&& ~~~ a][j],by rw [zbl];simp [hj],_,zo8,fun hc=>?_,fun hc=>?_⟩,fun h=>absurd (by simp;omega) (df h)⟩⟩
   ·have hc:=dt hc;rw [List.take_succ_eq_append_getElem (by simpa using hj),List.filter_append,List.filter_cons_of_pos (by simp;omega),List.filter_nil,← List.append_assoc] at h;exact ⟨by simp only [List.length_append,List.length_cons,List.length_nil];omega,zh (by omega) (by omega),h⟩
   ·have hc:=df hc;rw [List.take_succ_eq_append_getElem (by simpa using hj),List.filter_append,List.filter_cons_of_neg (by simp;omega),List.filter_nil,List.append_nil] at h;exact ⟨zh (by omega) (by omega),h⟩
  ·rintro s rfl k2;refine ⟨fun h=>absurd (dt h) (by simp),fun _=>⟨zh (by omega) (by omega), ?_⟩⟩;rw [List.take_succ_eq_append_getElem hi,List.flatMap_append] at h;simpa [zgu] using h
 ·rintro s rfl k;refine ⟨fun h=>absurd (dt h) (by omega),fun _=>⟨_,stable_in split_cmp ?_, ?_⟩⟩
  ·have:=flat_len2 a (ps.take ps.length);simp only [List.length_take,Nat.min_self] at this;omega
  ·simp [zne]
theorem znf (l:List Cl) (i:Nat):(zgn (l.take i)).length≤256:=by
 rw [splitP_eq];have:=heads_len (l.take i);simpa [parts] using this
theorem zot {l:List Cl} (hl:l.length≤1073741823):zb6 l (zgn l):=by
 refine ⟨_,zl6, ?_⟩;refine zhq (P:=fun k (s:List Cl) v=>zb6.l1 l _ k s v) l.length (fun i s=>s=zgn (l.take i)) ?_ ?_ _ (by simp [zgn])
 ·rintro i s hi rfl;have:=znf l i;refine .inr ⟨_,rfl,fun k h=>⟨fun _=>⟨l[i],by rw [zbl];simp [hi],_,znd (by omega),zh (by omega) (by omega), ?_⟩,fun h=>absurd (by omega) (df h)⟩⟩;have e:zgn (l.take i++[l[i]])=zne (zgn (l.take i)) l[i]:=by unfold zgn;rw [List.foldl_append];rfl
  rw [List.take_succ_eq_append_getElem hi,e] at h;exact h
 ·rintro s rfl k;exact ⟨fun h=>absurd (dt h) (by omega),fun _=>by rw [List.take_length];rfl⟩
theorem zov {l:List Cl} (hl:l.length≤1073741823):zb7 l (zpk l):=by
 refine ⟨_,zot hl, ?_⟩;have hlen:=znf l l.length;rw [List.take_length] at hlen;refine zhq (P:=fun k (s:List Int) v=>zb7.l1 (zgn l) _ k s v) (zgn l).length (fun i s=>s=((zgn l).take i).map lk0) ?_ ?_ _ (by simp)
 ·rintro i s hi rfl;refine .inr ⟨_,rfl,fun k h=>⟨fun _=>⟨(zgn l)[i],by rw [zbl];simp [hi],_,zg7,by simp;omega,zh (by omega) (by omega), ?_⟩,fun h=>absurd (by omega) (df h)⟩⟩;rw [List.take_succ_eq_append_getElem hi,List.map_append] at h;exact h
 ·rintro s rfl k;exact ⟨fun h=>absurd (dt h) (by omega),fun _=>by rw [List.take_length];rfl⟩
theorem zo2 {a b:List Int} (ha:a.length<9223372036854775807):zb9 a b (decide (a=b)):=by
 refine ⟨fun h=>?_,fun h=>?_⟩
 ·simp at h;exact decide_eq_false fun e=>by subst e;omega
 ·have hl:a.length=b.length:=by simp at h;omega
  refine zhq (P:=fun k (_:Unit) v=>zb9.l1 a b (decide (a=b)) _ k v) a.length (fun i _=>∀j (hj:j<i) (h1:j<a.length),a[j]=b[j]'(by omega)) ?_ ?_ () (by intro j hj;omega)
  ·intro i s hi hs;have hat:at? a (i:Int)=some a[i]:=by rw [zbl];simp [hi]
   have hbt:at? b (i:Int)=some (b[i]'(by omega)):=by rw [zbl];simp [show i<b.length by omega]
   by_cases he:a[i]=b[i]'(by omega)
   ·refine .inr ⟨(),fun j hj h1=>?_,fun k h=>⟨fun _=>⟨_,hat,_,hbt,fun h=>by simp [he] at h,fun _=>⟨zh (by omega) (by omega),h⟩⟩,fun h=>absurd (by omega) (df h)⟩⟩
    by_cases hji:j=i
    ·subst hji;exact he
    ·exact hs j (by omega) h1
   ·exact .inl fun k=>⟨fun _=>⟨_,hat,_,hbt,fun _=>decide_eq_false fun e=>he (by subst e;rfl),fun h=>by simp at h;exact absurd h he⟩,fun h=>absurd (by omega) (df h)⟩
  ·intro s hs k;refine ⟨fun h=>absurd (dt h) (by omega),fun _=>?_⟩;show decide (a=b)=true;exact decide_eq_true (List.ext_getElem hl fun j h1 h2=>hs j h1 h1)
theorem znw {a b:List SItem} (h:zpa a) (k:zpa b):zpa (a++b):=fun x hx=>(List.mem_append.1 hx).elim (h x) (k x)
theorem pm_noend {d:List SNode} (hd:ROk d):∀(k:Nat) (i:Int),i<(k:Int)→∀p∈pm d i,zpa p
 | 0,i,hi,p,hp=>by
  have:at? d i=none:=at_none (.inl (by omega));unfold pm at hp;rw [zh8 hd d.length 0 i] at hp
  ·simp [PM] at hp
  ·omega
  ·omega
 | k+1,i,hi,p,hp=>by
  have ih:=pm_noend hd k;cases hn:at? d i with
  | none=>
   exfalso;unfold pm at hp;cases hdl:d.length with
   | zero=>rw [hdl] at hp;simp [PM] at hp
   | succ m=>rw [hdl] at hp;simp [PM,hn] at hp
  | some n=>
   have one:∀x:SItem,x.1≠5→zpa [x]:=fun x h y hy=>by rw [List.mem_singleton.1 hy];exact h
   have e1:pm d i=(PM d d.length i).1:=rfl;rw [e1,zh9 hd hn] at hp
   by_cases h1:n.1=1
   ·rw [if_pos h1] at hp;cases hp
   ·rw [if_neg h1] at hp
    by_cases h3:n.1=3
    ·rw [if_pos h3,List.mem_singleton] at hp;subst hp;exact one _ (by simp)
    ·rw [if_neg h3] at hp
     by_cases h4:n.1=4
     ·rw [if_pos h4] at hp;obtain ⟨⟨a,b⟩,c,e⟩:=hd.two _ n hn (.inl h4);rcases List.mem_append.1 hp with hp | hp
      ·obtain ⟨q,hq,rfl⟩:=List.mem_map.1 hp;exact znw (ih _ (by omega) q hq) (one _ (by simp))
      ·obtain ⟨L,hL,hp⟩:=List.mem_flatten.1 hp;rw [(List.mem_replicate.1 hL).2] at hp;exact ih _ (by omega) p hp
     ·rw [if_neg h4] at hp
      by_cases h5:n.1=5
      ·rw [if_pos h5] at hp;obtain ⟨⟨a,b⟩,c,e⟩:=hd.two _ n hn (.inr h5);rcases List.mem_append.1 hp with hp | hp
       ·exact ih _ (by omega) p hp
       ·exact ih _ (by omega) p hp
      ·rw [if_neg h5] at hp
       by_cases h6:n.1=6
       ·rw [if_pos h6] at hp;obtain ⟨a,b⟩:=hd.one _ n hn (.inl h6);obtain ⟨q,hq,rfl⟩:=List.mem_map.1 hp;exact znw (ih _ (by omega) q hq) (one _ (by simp))
       ·rw [if_neg h6] at hp
        by_cases h7:n.1=7
        ·rw [if_pos h7] at hp;obtain ⟨a,b⟩:=hd.one _ n hn (.inr (.inl h7));simp only at hp;split at hp
         ·obtain ⟨q,hq,rfl⟩:=List.mem_map.1 hp;exact znw (ih _ (by omega) q hq) (one _ (by simp))
         ·cases hp
        ·rw [if_neg h7,List.mem_singleton] at hp;subst hp;exact one _ (by simp)
def shJ (c:Int) (x:SItem):SItem:=if x.1=5 then x else shI c x
def shT (c:Int) (s:List SItem):List SItem:=s.map (shJ c)
theorem zjw (c:Int) (a b:List SItem):shT c (a++b)=shT c a++shT c b:=List.map_append ..
theorem shT_noend {c:Int} {s:List SItem} (h:zpa s):shS c s=shT c s:=List.map_congr_left fun x hx=>by unfold shJ;rw [if_neg (h x hx)]
section
variable {l l' : List SNode} {c : Int} (h : Emb l l' c) (hl : ROk l) (hl' : ROk l')
include h hl hl'
theorem pmI_emb {x:SItem} (hx:zeu l x=true):pmI l' (shJ c x)=(pmI l x).map (shT c)∧nwI l' (shJ c x)=nwI l x:=by
 by_cases h5:x.1=5
 ·have e:shJ c x=x:=by unfold shJ;rw [if_pos h5]
  rw [e];unfold pmI nwI;simp [h5]
 ·obtain ⟨n,hn,hk⟩:=ze8 hx h5;have e:shJ c x=shI c x:=by unfold shJ;rw [if_neg h5]
  rw [e];have pmT:∀(i:Int) m,at? l i=some m→pm l' (i+c)=(pm l i).map (shT c)∧nw l' (i+c)=nw l i:=fun i m hm=>by
   obtain ⟨p1,p2⟩:=PM_emb h hl hl' (i.toNat+1) i m (by have:=zbj hm;omega) hm;refine ⟨?_,p2⟩;rw [p1];exact List.map_congr_left fun p hp=>shT_noend (pm_noend hl (i.toNat+1) i (by have:=zbj hm;omega) p hp)
  rcases hk with h1 | ⟨h2,h7⟩ | ⟨h3,_⟩ | ⟨h4,_⟩
  ·have:=pmT _ n hn;unfold pmI nwI;have e1:(shI c x).1=1:=h1;rw [if_pos e1,if_pos h1,if_pos e1,if_pos h1];exact this
  ·obtain ⟨m,hm,f1,f2,f3,f4,f5⟩:=h.get hn;obtain ⟨a,b⟩:=hl.one _ n hn (.inr (.inl h7));obtain ⟨m1,hm1⟩:=zc8 hn a b;obtain ⟨p1,_⟩:=pmT _ m1 hm1;have e1:(shI c x).1=2:=h2;have A:pmI l' (shI c x)=if 0<x.2.2.2 then (pm l' m.2.1).map (·++[(2,x.2.1+c,max (x.2.2.1-1) 0,x.2.2.2-1)]) else []:=by
    unfold pmI;rw [if_neg (by rw [e1];decide),if_pos e1,show (shI c x).2.1=x.2.1+c from rfl,hm];rfl
   have B:pmI l x=if 0<x.2.2.2 then (pm l n.2.1).map (·++[(2,x.2.1,max (x.2.2.1-1) 0,x.2.2.2-1)]) else []:=by
    unfold pmI;rw [if_neg (by rw [h2];decide),if_pos h2,hn]
   have C:nwI l' (shI c x)=nwI l x:=by
    unfold nwI;have k1:¬ (shI c x).1=1:=by rw [e1];decide
    have k2:¬ x.1=1:=by rw [h2];decide
    rw [if_neg k1,if_pos e1,if_neg k2,if_pos h2];rfl
   refine ⟨?_,C⟩;rw [A,B];split
   ·rw [f2 (by omega),p1,List.map_map,List.map_map];refine List.map_congr_left fun q _=>?_;simp only [Function.comp];rw [zjw];rfl
   ·rfl
  ·unfold pmI nwI;have e1:(shI c x).1=3:=h3;rw [if_neg (by omega),if_neg (by omega),if_neg (by omega),if_neg (by omega),if_neg (by omega),if_neg (by omega)];rw [if_neg (by omega),if_neg (by omega),if_neg (by omega),if_neg (by omega),if_neg (by omega),if_neg (by omega)];refine ⟨?_,rfl⟩;simp [shT,e]
  ·unfold pmI nwI;have e1:(shI c x).1=4:=h4;rw [if_neg (by omega),if_neg (by omega),if_neg (by omega),if_neg (by omega),if_neg (by omega),if_neg (by omega)];rw [if_neg (by omega),if_neg (by omega),if_neg (by omega),if_neg (by omega),if_neg (by omega),if_neg (by omega)];refine ⟨?_,rfl⟩;simp [shT,e]
theorem hds_emb:∀s:List SItem,zdz l s=true→hds l' (shT c s)=(hds l s).map (shT c)
 | [],_=>rfl
 | x::rest,hf=>by
  obtain ⟨h1,h2⟩:=zdk hf;obtain ⟨p,q⟩:=pmI_emb h hl hl' h1;have ih:=hds_emb rest h2;show (pmI l' (shJ c x)).map (·++shT c rest)++(List.replicate (nwI l' (shJ c x)) (hds l' (shT c rest))).flatten=((pmI l x).map (·++rest)++(List.replicate (nwI l x) (hds l rest)).flatten).map (shT c);rw [p,q,ih,List.map_append,List.map_map,List.map_map,← rep_map]
  congr 1
  refine List.map_congr_left fun t _=>?_;simp only [Function.comp];rw [zjw]
omit h hl hl' in
theorem lowF_sh (c:Int) (s:List SItem):zdm (shT c s)=(shT c (zdm s).1,(zdm s).2):=by
 have b:∀x:SItem,badI (shJ c x)=badI x:=fun x=>by
  unfold shJ
  split
  ·rfl
  ·rfl
 have l:∀x:SItem,zii (shJ c x)=shJ c (zii x):=fun x=>by
  by_cases h5:x.1=5
  ·have e1:zii x=(x.1,x.2.1,x.2.2.1-1,x.2.2.2):=by unfold zii;rw [if_pos h5]
   have e2:shJ c x=x:=by unfold shJ;rw [if_pos h5]
   have e3:shJ c (zii x)=zii x:=by unfold shJ;rw [if_pos (by rw [e1];exact h5)]
   rw [e2,e3]
  ·have e1:zii x=x:=by unfold zii;rw [if_neg h5]
   have e2:shJ c x=shI c x:=by unfold shJ;rw [if_neg h5]
   rw [e1,e2]
   unfold zii
   rw [if_neg (show ¬ (shI c x).1=5 from h5)]
 unfold zdm
 have e:(shT c s).any badI=s.any badI:=by
  unfold shT
  rw [List.any_map]
  congr 1
  funext x
  exact b x
 rw [e]
 split
 ·rfl
 ·simp only [shT,List.map_map]
  congr 1
  exact List.map_congr_left fun x _=>l x
omit hl hl' in
theorem readF_emb {t:List SItem} (hf:zdz l t=true) (hr:rdy l t=true) (b:Int):zx l' (shT c t) b=(shT c (zx l t b).1,(zx l t b).2):=by
 cases t with
 | nil=>rfl
 | cons x rest=>
  obtain ⟨n,hn,hm,hk⟩:=zhz hf hr
  have h5:x.1≠5:=by omega
  have e:shJ c x=shI c x:=by unfold shJ;rw [if_neg h5]
  have es:shT c (x::rest)=shI c x::shT c rest:=by show shJ c x::_=_;rw [e];rfl
  have hm':=h.at' _ _ hn
  have n1:(zlm c n).1=n.1:=rfl
  have nt:(zlm c n).2.2.2.2.2=n.2.2.2.2.2:=rfl
  have x1:(shI c x).1=x.1:=rfl
  have x2:(shI c x).2.1=x.2.1+c:=rfl
  have x3:(shI c x).2.2=x.2.2:=rfl
  have five:∀v:Int,shJ c (5,0,v,0)=(5,0,v,0):=fun v=>rfl
  have a4:4≤n.1→(zlm c n).2.1=n.2.1+c:=fun h4=>by unfold zlm;rw [if_pos h4]
  rw [es]
  unfold zx
  simp only [lowF_sh,x2,hm',hn,x1,n1,nt,x3]
  by_cases hl0:(zdm rest).2=false
  ·rw [if_pos hl0,if_pos hl0];rfl
  ·rw [if_neg hl0,if_neg hl0]
   by_cases h3:x.1=3
   ·rw [if_pos h3,if_pos h3]
    split
    ·split
     ·rw [zjw];rfl
     ·rw [zjw];rfl
    ·rfl
   ·rw [if_neg h3,if_neg h3]
    by_cases h4:x.1=4
    ·have h9:n.1=9:=by omega
     rw [if_pos h4,if_pos h4,a4 (by omega),zjw];rfl
    ·rw [if_neg h4,if_neg h4]
     by_cases h8:n.1=8
     ·rw [if_pos h8,if_pos h8,a4 (by omega),zjw];rfl
     ·rw [if_neg h8,if_neg h8]
      by_cases h9:n.1=9
      ·rw [if_pos h9,if_pos h9,zjw];rfl
      ·rw [if_neg h9,if_neg h9]
       split <;> rfl
theorem wyn_emb:∀(w:List Int) (s:List SItem),(∀b∈w,InR .u8 b)→zdz l s=true→wyn l' w (shT c s)=wyn l w s
 | [],s,_,hf=>by
  show (hds l' (shT c s)).count []=(hds l s).count [];rw [hds_emb h hl hl' s hf,zct,zct,zdx];refine zev fun t _=>?_;cases t with
  | nil=>rfl
  | cons x t=>rfl
 | b::w,s,hw,hf=>by
  show zb3 _ (hds l' (shT c s))=zb3 _ (hds l s);rw [hds_emb h hl hl' s hf,zdx];refine zev fun t ht=>?_;obtain ⟨L,⟨k,hk⟩,hp⟩:=zpv hl s hf;obtain ⟨h3,h4⟩:=lv_vs hl (n0:=s.length) k s L hk (Vs.start hf (Nat.le_refl _)) t (hp.mem_iff.2 ht);rw [readF_emb h h3.form h4 b];cases hr:(zx l t b).2
  ·rfl
  ·simp only [if_true];exact wyn_emb w _ (fun e he=>hw e (by simp [he])) (form_read hl h3.form h4 (hw b (by simp)))
theorem zq2 {i:Int} {n:SNode} (hn:at? l i=some n) {w:List Int} (hw:∀b∈w,InR .u8 b):zbr l' (i+c) w=zbr l i w:=by
 have:=wyn_emb h hl hl' w [(1,i,0,0)] hw (ze9 (zgw ⟨n,hn⟩) rfl);exact this
end
end Go.Proofs.YtkbboemafklkkaaGreatDoor.V
namespace Go.Proofs.YtkbboemafklkkaaGreatDoor.V
open Go
set_option linter.unusedVariables false
theorem zf0 {α:Type} {xs:List α} {i:Nat} (h:i<xs.length):at? xs (i:Int)=some xs[i]:=by rw [zbl];exact List.getElem?_eq_getElem h
theorem item_StartS {d:List SNode} (h:d≠[]) (hl:d.length≤1000):zji d (stS d):=by
 have:=List.length_pos_iff.2 h;exact ⟨zh (by omega) (by omega),rfl⟩
theorem zhd {d:List SNode} {s:List SItem} (h:Sm d s) {c:Int} (hc:InR .u8 c) {t:List SItem} (ht:t∈zck d c s):t.length≤1000:=by
 have:=(step_ok h.rt.toROk h.form hc t ht).2;have:=h.slen;have:=h.len;omega
theorem sat_pos (n:Nat):decide (0<sat n)=decide (n≠0):=by
 by_cases h:n=0
 ·subst h;simp [sat]
 ·rw [decide_eq_true (by unfold sat;omega),decide_eq_true h]
theorem znj {d:List SNode} {l:List (List SItem)} (hl:∀s∈l,Sm d s) (hn:l.length≤2000000000) (hc:(zrn d l).length*32≤140737488355328):zbt d l (zrn d l):=by
 refine zhq (P:=fun k out v=>zbt.l1 d l _ k out v) l.length (fun i out=>out=zrn d (l.take i)) ?_ ?_ _ (by simp [zrn])
 ·rintro i out hi rfl;have e:zrn d (l.take (i+1))=zrn d (l.take i)++clsA d l[i]:=by
   unfold zrn;rw [List.take_succ_eq_append_getElem hi,List.flatMap_append];simp
  refine .inr ⟨_,rfl,fun k hk=>⟨fun _=>⟨_,zf0 hi,_,(clsA_in (hl _ (List.getElem_mem hi))).1, ?_,zh (by omega) (by omega),by rw [← e];exact hk⟩,fun h=>absurd (by omega) (df h)⟩⟩;have h2:zrn d l=zrn d (l.take (i+1))++zrn d (l.drop (i+1)):=by unfold zrn;rw [← List.flatMap_append,List.take_append_drop]
  have h3:=congrArg List.length h2;rw [e,List.length_append,List.length_append] at h3;omega
 ·rintro out rfl k;refine ⟨fun h=>absurd (dt h) (by omega),fun _=>?_⟩;show zrn d l=_;rw [List.take_length]
theorem sets_Once_in {l:List Cl} (hn:l.length≤140737488351232) (ho:(zfu l).length≤2147483647):zcx l (zfu l):=by
 have hpre:∀i,(zfu (l.take i)).length≤(zfu l).length:=fun i=>by
  refine zj0 (znu _) fun x hx=>(zhh l).2 (List.mem_of_mem_take ((zhh _).1 hx))
 refine zhq (P:=fun k (s:List (Cl × Bool) × List Cl) v=>zcx.l1 l _ k s.1 s.2 v) l.length (fun i s=>s.2=zfu (l.take i)∧∀x,zd8 s.1 x false=decide (x∈l.take i)) ?_ ?_ ([],[]) ⟨by simp [zfu],fun x=>by simp [zd8]⟩
 ·rintro i ⟨met,out⟩ hi ⟨h1,h2⟩;simp only at h1 h2;subst h1;have htk:l.take (i+1)=l.take i++[l[i]]:=List.take_succ_eq_append_getElem hi;have hnext:∀x,zd8 (zf6 met l[i] true) x false=decide (x∈l.take (i+1)):=fun x=>by
   rw [zn2,h2,htk]
   by_cases hx:l[i]=x
   ·rw [if_pos hx];exact (decide_eq_true (List.mem_append.2 (.inr (by rw [← hx];exact List.mem_singleton.2 rfl)))).symm
   ·rw [if_neg hx];exact decide_eq_decide.2 ⟨fun h=>List.mem_append.2 (.inl h),fun h=>(List.mem_append.1 h).resolve_right fun e=>hx (List.mem_singleton.1 e).symm⟩
  have hp1:=hpre (i+1)
  by_cases hm:l[i]∈l.take i
  ·refine .inr ⟨(zf6 met l[i] true,zfu (l.take i)),⟨?_,hnext⟩,fun k hk=>⟨fun _=>⟨_,zf0 hi,fun h=>?_,fun _=>⟨zh (by omega) (by omega),hk⟩⟩,fun h=>absurd (by omega) (df h)⟩⟩
   ·rw [htk,zje,if_pos ((zhh _).2 hm)]
   ·rw [h2,decide_eq_true hm] at h;cases h
  ·have e:zfu (l.take (i+1))=zfu (l.take i)++[l[i]]:=by rw [htk,zje,if_neg fun h=>hm ((zhh _).1 h)]
   refine .inr ⟨(zf6 met l[i] true,zfu (l.take i)++[l[i]]),⟨e.symm,hnext⟩,fun k hk=>⟨fun _=>⟨_,zf0 hi,fun _=>⟨?_,zh (by omega) (by omega),hk⟩,fun h=>?_⟩,fun h=>absurd (by omega) (df h)⟩⟩
   ·rw [e] at hp1;simp only [List.length_append,List.length_cons,List.length_nil] at hp1 ⊢;omega
   ·rw [h2,decide_eq_false hm] at h;cases h
 ·rintro ⟨met,out⟩ ⟨h1,h2⟩ k;simp only at h1;subst h1;refine ⟨fun h=>absurd (dt h) (by omega),fun _=>?_⟩;show zfu l=_;rw [List.take_length]
theorem Sm.short {d:List SNode} {s:List SItem} (h:Sm d s):s.length≤1000:=by have:=h.slen;omega
structure Sch (T:Type) where
 start:T
 ways:T→List (Int × T)
 hit:T→Bool
abbrev Qb (T:Type):=T × Int × Int × List Int
section
variable {T : Type} [DecidableEq T]
def hasQ (acc:List (Qb T)) (x:T):Bool:=acc.any fun q=>decide (q.1=x)
def stB (i:Nat) (w:List Int) (acc:List (Qb T)) (e:Int × T):List (Qb T):=if hasQ acc e.2=true then acc else acc++[(e.2,(i:Int),e.1,w++[e.1])]
def rdB (S:Sch T) (i:Nat) (q:Qb T) (acc:List (Qb T)):List (Qb T):=(S.ways q.1).foldl (stB i q.2.2.2) acc
def zdq (S:Sch T):Nat→List (Qb T)
 | 0=>[(S.start, -1,0,[])]
 | i+1=>match (zdq S i)[i]? with
  | some q=>rdB S i q (zdq S i)
  | none=>zdq S i
theorem zmw {acc:List (Qb T)} {x:T}:hasQ acc x=true↔∃q∈acc,q.1=x:=by simp [hasQ]
theorem hasQ_app {acc:List (Qb T)} {q:Qb T} {x:T}:hasQ (acc++[q]) x=(hasQ acc x||decide (q.1=x)):=by simp [hasQ]
theorem ze7 {α:Type} {a b:List α} (h:a <+: b) {j:Nat} {q:α} (hq:a[j]?=some q):b[j]?=some q:=by
 obtain ⟨r,rfl⟩:=h;rw [List.getElem?_append_left (List.getElem?_eq_some_iff.1 hq).1];exact hq
theorem stB_pre (i:Nat) (w:List Int) (acc:List (Qb T)) (e:Int × T):acc <+: stB i w acc e:=by
 unfold stB;split
 ·exact List.prefix_refl _
 ·exact List.prefix_append _ _
theorem foldB_pre (i:Nat) (w:List Int) (es:List (Int × T)):∀acc:List (Qb T),acc <+: es.foldl (stB i w) acc:=by
 induction es with
 | nil=>intro acc;exact List.prefix_refl _
 | cons e es ih=>intro acc;exact (stB_pre i w acc e).trans (ih _)
theorem zho {S:Sch T} {i:Nat} {q:Qb T} (h:(zdq S i)[i]?=some q):zdq S (i+1)=rdB S i q (zdq S i):=by
 show (match (zdq S i)[i]? with | some q=>rdB S i q (zdq S i) | none=>zdq S i)=_;rw [h]
theorem zk3 {S:Sch T} {i:Nat} (h:(zdq S i)[i]?=none):zdq S (i+1)=zdq S i:=by
 show (match (zdq S i)[i]? with | some q=>rdB S i q (zdq S i) | none=>zdq S i)=_;rw [h]
theorem zhn (S:Sch T) (i:Nat):zdq S i <+: zdq S (i+1):=by
 cases h:(zdq S i)[i]? with
 | none=>rw [zk3 h];exact List.prefix_refl _
 | some q=>rw [zho h];exact foldB_pre _ _ _ _
theorem zrv (S:Sch T) {i j:Nat} (h:i≤j):zdq S i <+: zdq S j:=by
 obtain ⟨d,rfl⟩:∃d,j=i+d:=⟨j-i,by omega⟩;clear h
 induction d with
 | zero=>exact List.prefix_refl _
 | succ d ih=>exact ih.trans (zhn S (i+d))
theorem accB_stop {S:Sch T} {i:Nat} (h:(zdq S i)[i]?=none):∀d,zdq S (i+d)=zdq S i
 | 0=>rfl
 | d+1=>by
  have ih:=accB_stop h d;have:(zdq S (i+d))[i+d]?=none:=by
   rw [ih];rw [List.getElem?_eq_none_iff] at h ⊢;omega
  rw [← Nat.add_assoc,zk3 this,ih]
structure GoodB (S:Sch T) (acc:List (Qb T)):Prop where
 nd:(acc.map (·.1)).Nodup
 par:∀j q,acc[j]?=some q→(j=0∧q=(S.start, -1,0,[]))∨∃p q',q.2.1=((p:Nat):Int)∧p<j∧acc[p]?=some q'∧q.2.2.2=q'.2.2.2++[q.2.2.1]∧(q.2.2.1,q.1)∈S.ways q'.1
theorem stB_good {S:Sch T} {i:Nat} {q0:Qb T} {acc:List (Qb T)} {e:Int × T} (h:GoodB S acc) (hi:acc[i]?=some q0) (he:e∈S.ways q0.1):GoodB S (stB i q0.2.2.2 acc e):=by
 unfold stB;split
 ·exact h
 ·rename_i hno
  have hni:e.2 ∉ acc.map (·.1):=fun hm=>by
   obtain ⟨q,hq,he⟩:=List.mem_map.1 hm;exact hno (zmw.2 ⟨q,hq,he⟩)
  have hil:i<acc.length:=(List.getElem?_eq_some_iff.1 hi).1;refine ⟨?_, ?_⟩
  ·rw [List.map_append,List.nodup_append];exact ⟨h.nd,by simp,fun a ha b hb e=>by simp at hb;subst hb;subst e;exact hni ha⟩
  ·intro j q hj
   by_cases hjl:j<acc.length
   ·rw [List.getElem?_append_left hjl] at hj;rcases h.par j q hj with h1 | ⟨p,q',h1,h2,h3,h4⟩
    ·exact .inl h1
    ·exact .inr ⟨p,q',h1,h2,ze7 (List.prefix_append _ _) h3,h4⟩
   ·have hjl':=(List.getElem?_eq_some_iff.1 hj).1;simp at hjl';have:j=acc.length:=by omega
    subst this;rw [List.getElem?_append_right (Nat.le_refl _)] at hj;simp at hj;subst hj;exact .inr ⟨i,q0,rfl,hil,ze7 (List.prefix_append _ _) hi,rfl,he⟩
theorem foldB_good {S:Sch T} {i:Nat} {q0:Qb T} {es:List (Int × T)} (hes:∀e∈es,e∈S.ways q0.1):∀acc:List (Qb T),GoodB S acc→acc[i]?=some q0→GoodB S (es.foldl (stB i q0.2.2.2) acc):=by
 induction es with
 | nil=>intro acc h _;exact h
 | cons e es ih=>
  intro acc h hi;exact ih (fun e he=>hes e (by simp [he])) _ (stB_good h hi (hes e (by simp))) (ze7 (stB_pre _ _ _ _) hi)
theorem zi6 (S:Sch T):∀i,GoodB S (zdq S i)
 | 0=>⟨by simp [zdq],fun j q hj=>by
   cases j with
   | zero=>simp [zdq] at hj;subst hj;exact .inl ⟨rfl,rfl⟩
   | succ j=>simp [zdq] at hj⟩
 | i+1=>by
  have ih:=zi6 S i;cases hi:(zdq S i)[i]? with
  | none=>rw [zk3 hi];exact ih
  | some q=>rw [zho hi];exact foldB_good (fun e he=>he) _ ih hi
omit [DecidableEq T] in
theorem GoodB.wlen {S:Sch T} {acc:List (Qb T)} (h:GoodB S acc):∀(j:Nat) (q:Qb T),acc[j]?=some q→q.2.2.2.length≤j:=by
 intro j
 induction j using Nat.strongRecOn with
 | ind j ih=>
  intro q hq
  rcases h.par j q hq with ⟨_,rfl⟩ | ⟨p,q',_,h2,h3,h4,_⟩
  ·simp
  ·have:=ih p h2 q' h3
   rw [h4];simp;omega
theorem stB_len (i:Nat) (w:List Int) (acc:List (Qb T)) (e:Int × T):(stB i w acc e).length≤acc.length+1:=by
 unfold stB;split <;> simp
theorem zob (i:Nat) (w:List Int):∀(es:List (Int × T)) (acc:List (Qb T)),(es.foldl (stB i w) acc).length≤acc.length+es.length
 | [],acc=>Nat.le_refl _
 | e::es,acc=>by
  have h1:=zob i w es (stB i w acc e);have h2:=stB_len i w acc e;rw [List.foldl_cons,List.length_cons];omega
def verdB (S:Sch T) (b:Int):Nat→Nat→Int × List Int × Int × Option T
 | 0,i=>(1,[],((zdq S i).length:Int),none)
 | f+1,i=>match (zdq S i)[i]? with
  | none=>(1,[],((zdq S i).length:Int),none)
  | some q=>if b≤(i:Int) then (3,[],max b 0,none) else if S.hit q.1=true then (2,q.2.2.2,(i:Int)+1,some q.1) else verdB S b f (i+1)
def znb (S:Sch T) (b:Int):Int × List Int × Int × Option T:=verdB S b (b.toNat+1) 0
inductive OutB (S:Sch T) (b:Int):Int × List Int × Int × Option T→Prop
 | yes (i:Nat) (hb:(i:Int)≤b∨i=0∧b≤0) (h:(zdq S i)[i]?=none) (hno:∀j q,j<i→(zdq S i)[j]?=some q→S.hit q.1=false):OutB S b (1,[],((zdq S i).length:Int),none)
 | no (i:Nat) (q:Qb T) (hb:(i:Int)<b) (h:(zdq S i)[i]?=some q) (hh:S.hit q.1=true) (hno:∀j q,j<i→(zdq S i)[j]?=some q→S.hit q.1=false):OutB S b (2,q.2.2.2,(i:Int)+1,some q.1)
 | limit (hl:∃q,(zdq S b.toNat)[b.toNat]?=some q) (hno:∀j q,j<b.toNat→(zdq S b.toNat)[j]?=some q→S.hit q.1=false):OutB S b (3,[],max b 0,none)
theorem verdB_out (S:Sch T) (b:Int):∀(f i:Nat),f+i=b.toNat+1→i≤b.toNat→(∀j q,j<i→(zdq S i)[j]?=some q→S.hit q.1=false)→OutB S b (verdB S b f i)
 | 0,i,h1,h2,_=>by omega
 | f+1,i,h1,h2,hno=>by
  unfold verdB;cases hq:(zdq S i)[i]? with
  | none=>exact .yes i (by omega) hq hno
  | some q=>
   simp only
   by_cases hb:b≤(i:Int)
   ·rw [if_pos hb];have:i=b.toNat:=by omega
    subst this;exact .limit ⟨q,hq⟩ hno
   ·rw [if_neg hb]
    by_cases hh:S.hit q.1=true
    ·rw [if_pos hh];exact .no i q (by omega) hq hh hno
    ·rw [if_neg hh];refine verdB_out S b f (i+1) (by omega) (by omega) fun j q' hj hq'=>?_
     by_cases hji:j=i
     ·subst hji;rw [ze7 (zhn S j) hq] at hq';cases hq';simpa using hh
     ·have hlt:i<(zdq S i).length:=(List.getElem?_eq_some_iff.1 hq).1;obtain ⟨x,hx⟩:∃x,(zdq S i)[j]?=some x:=⟨_,List.getElem?_eq_getElem (show j<(zdq S i).length by omega)⟩;rw [ze7 (zhn S i) hx] at hq';cases hq';exact hno j _ (by omega) hx
theorem srchB_out (S:Sch T) (b:Int):OutB S b (znb S b):=verdB_out S b _ 0 (by omega) (by omega) fun j q h=>by omega
theorem accB_at {S:Sch T} {i j:Nat} (hij:i≤j):(zdq S j)[i]?=(zdq S i)[i]?:=by
 cases h:(zdq S i)[i]? with
 | some q=>exact ze7 (zrv S hij) h
 | none=>
  have:=accB_stop h (j-i);rw [show i+(j-i)=j by omega] at this;rw [this,h]
theorem OutB.made {S:Sch T} {b:Int} {v:Int × List Int × Int × Option T} (hb:0≤b) (h:OutB S b v):v.2.2.1≤b:=by
 cases h with
 | yes i hb' h hno=>
  have:=List.getElem?_eq_none_iff.1 h;simp only;omega
 | no i q hb' h hh hno=>simp only;omega
 | limit _ _=>simp only;omega
inductive Rn (step:T→Int→T→Prop) (s0:T):List Int→T→Prop
 | nil:Rn step s0 [] s0
 | snoc {w:List Int} {x:T} {c:Int} {y:T} (h:Rn step s0 w x) (hs:step x c y):Rn step s0 (w++[c]) y
theorem accB_rn {S:Sch T} {step:T→Int→T→Prop} (hs:∀x c y,(c,y)∈S.ways x→step x c y) (i:Nat):∀(j:Nat) (q:Qb T),(zdq S i)[j]?=some q→Rn step S.start q.2.2.2 q.1:=by
 intro j
 induction j using Nat.strongRecOn with
 | ind j ih=>
  intro q hq;rcases (zi6 S i).par j q hq with ⟨_,rfl⟩ | ⟨p,q',_,h2,h3,h4,h5⟩
  ·exact .nil
  ·rw [h4];exact .snoc (ih p h2 q' h3) (hs _ _ _ h5)
theorem stB_mem {i:Nat} {w:List Int} {acc:List (Qb T)} {e:Int × T}:∀q∈stB i w acc e,q∈acc∨q=(e.2,(i:Int),e.1,w++[e.1]):=fun q hq=>by
 unfold stB at hq;split at hq
 ·exact .inl hq
 ·exact (List.mem_append.1 hq).imp id fun h=>List.mem_singleton.1 h
theorem foldB_mem {i:Nat} {w:List Int}:∀(es:List (Int × T)) (acc:List (Qb T)),∀q∈es.foldl (stB i w) acc,q∈acc∨∃e∈es,q=(e.2,(i:Int),e.1,w++[e.1])
 | [],acc,q,hq=>.inl hq
 | e::es,acc,q,hq=>by
  rcases foldB_mem es _ q hq with h | ⟨e',h1,h2⟩
  ·rcases stB_mem q h with h | h
   ·exact .inl h
   ·exact .inr ⟨e,by simp,h⟩
  ·exact .inr ⟨e',by simp [h1],h2⟩
theorem stB_has {i:Nat} {w:List Int} {acc:List (Qb T)} {e:Int × T}:hasQ (stB i w acc e) e.2=true:=by
 unfold stB;split
 ·assumption
 ·rw [hasQ_app];simp
theorem hasQ_pre {a b:List (Qb T)} (h:a <+: b) {x:T} (hx:hasQ a x=true):hasQ b x=true:=by
 obtain ⟨q,h1,h2⟩:=zmw.1 hx;exact zmw.2 ⟨q,h.subset h1,h2⟩
theorem foldB_has {i:Nat} {w:List Int}:∀(es:List (Int × T)) (acc:List (Qb T)),∀e∈es,hasQ (es.foldl (stB i w) acc) e.2=true
 | [],_,e,h=>by cases h
 | e'::es,acc,e,h=>by
  rcases List.mem_cons.1 h with rfl | h
  ·exact hasQ_pre (foldB_pre i w es _) stB_has
  ·exact foldB_has es _ e h
theorem zk2 (S:Sch T):∀(i:Nat),∀q∈zdq S i,q=(S.start, -1,0,[])∨∃(p:Nat) (q':Qb T),p<i∧(zdq S i)[p]?=some q'∧q.2.2.2=q'.2.2.2++[q.2.2.1]∧(q.2.2.1,q.1)∈S.ways q'.1
 | 0,q,hq=>.inl (by simpa [zdq] using hq)
 | i+1,q,hq=>by
  have lift:(q=(S.start, -1,0,[])∨∃(p:Nat) (q':Qb T),p<i∧(zdq S i)[p]?=some q'∧q.2.2.2=q'.2.2.2++[q.2.2.1]∧(q.2.2.1,q.1)∈S.ways q'.1)→(q=(S.start, -1,0,[])∨∃(p:Nat) (q':Qb T),p<i+1∧(zdq S (i+1))[p]?=some q'∧q.2.2.2=q'.2.2.2++[q.2.2.1]∧(q.2.2.1,q.1)∈S.ways q'.1):=fun h=>h.imp id fun ⟨p,q',h1,h2,h3⟩=>⟨p,q',by omega,ze7 (zhn S i) h2,h3⟩;cases hi:(zdq S i)[i]? with
  | none=>
   rw [zk3 hi] at hq;exact lift (zk2 S i q hq)
  | some q0=>
   have hq':=hq;rw [zho hi] at hq';rcases foldB_mem _ _ q hq' with h | ⟨e,h1,h2⟩
   ·exact lift (zk2 S i q h)
   ·exact .inr ⟨i,q0,by omega,ze7 (zhn S i) hi,by rw [h2],by rw [h2];exact h1⟩
theorem zjl (S:Sch T):∀(i:Nat),(∀(j m:Nat) (q q':Qb T),j≤m→(zdq S i)[j]?=some q→(zdq S i)[m]?=some q'→q.2.2.2.length≤q'.2.2.2.length)∧(∀q0,(zdq S i)[i]?=some q0→∀q∈zdq S i,q.2.2.2.length≤q0.2.2.2.length+1)
 | 0=>by
  refine ⟨fun j m q q' hjm hq hq'=>?_,fun q0 h0 q hq=>?_⟩
  ·have h1:=List.mem_of_getElem? hq;simp [zdq] at h1;rw [h1];simp
  ·simp [zdq] at hq;rw [hq];simp
 | i+1=>by
  obtain ⟨ih1,ih2⟩:=zjl S i;have key:∀(j m:Nat) (q q':Qb T),j≤m→(zdq S (i+1))[j]?=some q→(zdq S (i+1))[m]?=some q'→q.2.2.2.length≤q'.2.2.2.length:=by
   cases hi:(zdq S i)[i]? with
   | none=>rw [zk3 hi];exact ih1
   | some q0=>
    have bd:=ih2 q0 hi;have gen:∀(es:List (Int × T)) (acc:List (Qb T)),(∀(j m:Nat) (q q':Qb T),j≤m→acc[j]?=some q→acc[m]?=some q'→q.2.2.2.length≤q'.2.2.2.length)→(∀q∈acc,q.2.2.2.length≤q0.2.2.2.length+1)→(∀(j m:Nat) (q q':Qb T),j≤m→(es.foldl (stB i q0.2.2.2) acc)[j]?=some q→(es.foldl (stB i q0.2.2.2) acc)[m]?=some q'→q.2.2.2.length≤q'.2.2.2.length):=by
     intro es
     induction es with
     | nil=>intro acc h _;exact h
     | cons e es ih=>
      intro acc h1 h2;refine ih _ (fun j m q q' hjm hq hq'=>?_) fun q hq=>?_
      ·unfold stB at hq hq';split at hq
       ·rename_i hh
        rw [if_pos hh] at hq';exact h1 j m q q' hjm hq hq'
       ·rename_i hh
        rw [if_neg hh] at hq'
        by_cases hm:m<acc.length
        ·rw [List.getElem?_append_left hm] at hq';rw [List.getElem?_append_left (by omega)] at hq;exact h1 j m q q' hjm hq hq'
        ·have hml:=(List.getElem?_eq_some_iff.1 hq').1;simp at hml;have em:m=acc.length:=by omega
         subst em;rw [List.getElem?_append_right (Nat.le_refl _)] at hq';simp at hq';subst hq';have:=stB_mem (i:=i) (w:=q0.2.2.2) (acc:=acc) (e:=e) q (by unfold stB;rw [if_neg hh];exact List.mem_of_getElem? hq);rcases this with h | h
         ·have:=h2 q h;simp;omega
         ·rw [h];simp
      ·rcases stB_mem q hq with h | h
       ·exact h2 q h
       ·rw [h];simp
    rw [zho hi];exact gen _ _ ih1 bd
  refine ⟨key,fun q0 h0 q hq=>?_⟩;rcases zk2 S (i+1) q hq with h | ⟨p,q',h1,h2,h3,_⟩
  ·rw [h];simp
  ·have:=key p (i+1) q' q0 (by omega) h2 h0;rw [h3];simp;omega
theorem accB_done (S:Sch T) {i j:Nat} {q:Qb T} (hj:j<i) (hq:(zdq S i)[j]?=some q) {e:Int × T} (he:e∈S.ways q.1):∃(m:Nat) (q':Qb T),(zdq S i)[m]?=some q'∧q'.1=e.2∧q'.2.2.2.length≤q.2.2.2.length+1:=by
 have hq0:(zdq S j)[j]?=some q:=by rw [← accB_at (Nat.le_of_lt hj)];exact hq
 have h1:hasQ (zdq S (j+1)) e.2=true:=by rw [zho hq0];exact foldB_has _ _ e he
 obtain ⟨q',h2,h3⟩:=zmw.1 h1;obtain ⟨m,hm⟩:=List.getElem?_of_mem h2;refine ⟨m,q',ze7 (zrv S hj) hm,h3, ?_⟩;rcases zk2 S (j+1) q' h2 with h | ⟨p,q2,k1,k2,k3,_⟩
 ·rw [h];simp
 ·have:=(zjl S (j+1)).1 p j q2 q (by omega) k2 (ze7 (zhn S j) hq0);rw [k3];simp;omega
theorem cov_short {S:Sch T} {step:T→Int→T→Prop} {B:Int→Prop} {i:Nat} (hc:∀q∈zdq S i,∀c y,B c→step q.1 c y→∃b,(b,y)∈S.ways q.1) {w:List Int} {y:T} (h:Rn step S.start w y) (hw:∀c∈w,B c):
  (∃(m:Nat) (q:Qb T),(zdq S i)[m]?=some q∧q.1=y∧q.2.2.2.length≤w.length)∨∃(k:Nat) (q:Qb T),i≤k∧(zdq S i)[k]?=some q∧q.2.2.2.length<w.length:=by
 induction h with
 | nil=>
  left;have:(zdq S 0)[0]?=some (S.start, -1,0,[]):=rfl;exact ⟨0,_,ze7 (zrv S (Nat.zero_le i)) this,rfl,Nat.le_refl _⟩
 | snoc h hs ih=>
  rename_i w x c y
  rcases ih fun c hc=>hw c (by simp [hc]) with ⟨m,q,h1,h2,h3⟩ | ⟨k,q,h1,h2,h3⟩
  ·by_cases hm:m<i
   ·rw [← h2] at hs;obtain ⟨b,hb⟩:=hc q (List.mem_of_getElem? h1) c y (hw c (by simp)) hs;obtain ⟨m',q',k1,k2,k3⟩:=accB_done S hm h1 hb;exact .inl ⟨m',q',k1,k2,by simp;omega⟩
   ·exact .inr ⟨m,q,by omega,h1,by simp;omega⟩
  ·exact .inr ⟨k,q,h1,h2,by simp;omega⟩
theorem OutB.tells {S:Sch T} {step:T→Int→T→Prop} {B:Int→Prop} {b:Int} {v:Int × List Int × Int × Option T} (h:OutB S b v) (hs:∀x c y,(c,y)∈S.ways x→step x c y)
  (hc:∀i:Nat,(i:Int)≤b∨i=0→∀q∈zdq S i,∀c y,B c→step q.1 c y→∃d,(d,y)∈S.ways q.1):
  (v.1=1→v.2.1=[]∧∀w y,(∀c∈w,B c)→Rn step S.start w y→S.hit y=false)∧(v.1=2→∃x,v.2.2.2=some x∧S.hit x=true∧Rn step S.start v.2.1 x∧∀w y,(∀c∈w,B c)→Rn step S.start w y→S.hit y=true→v.2.1.length≤w.length)∧(v.1=1∨v.1=2∨v.1=3):=by
 cases h with
 | limit _ _=>exact ⟨(fun h=>by simp at h),(fun h=>by simp at h),.inr (.inr rfl)⟩
 | yes i hb h hno=>
  refine ⟨fun _=>⟨rfl,fun w y hw hr=>?_⟩,(fun h=>by simp at h),.inl rfl⟩;have hl:=List.getElem?_eq_none_iff.1 h;rcases cov_short (hc i (by omega)) hr hw with ⟨m,q,h1,h2,_⟩ | ⟨k,q,h1,h2,_⟩
  ·have:=(List.getElem?_eq_some_iff.1 h1).1;rw [← h2];exact hno m q (by omega) h1
  ·have:=(List.getElem?_eq_some_iff.1 h2).1;omega
 | no i q hb h hh hno=>
  refine ⟨(fun h=>by simp at h),fun _=>⟨q.1,rfl,hh,accB_rn hs i i q h,fun w y hw hr hy=>?_⟩,.inr (.inl rfl)⟩;rcases cov_short (hc i (by omega)) hr hw with ⟨m,q',h1,h2,h3⟩ | ⟨k,q',h1,h2,h3⟩
  ·have hm:i≤m:=by
    rcases Nat.lt_or_ge m i with hm | hm
    ·have:=hno m q' hm h1;rw [h2,hy] at this;cases this
    ·exact hm
   have:=(zjl S i).1 i m q q' hm h h1;simp only;omega
  ·have:=(zjl S i).1 i k q q' h1 h h2;simp only;omega
end
end Go.Proofs.YtkbboemafklkkaaGreatDoor.V
namespace Go.Proofs.YtkbboemafklkkaaGreatDoor.V
open Go
set_option linter.unusedVariables false
abbrev TS:=List (List SItem)
theorem bytS_u8 {d:List SNode} {l:TS} {c:Int} (h:c∈bytS d l):InR .u8 c:=bytC_u8 h
def zfz (l:List Int) (x:Int):Int:=if 0≤x∧x<(l.length:Int) then (at? l x).getD 0 else 0
def zpc (e:SNode) (a b:Int):Int:=if e.1=7 then (1+max 0 (min e.2.2.2.2.1 1000))*a else if e.1=6∨e.1=8∨e.1=9 then a+1 else if e.1=4∨e.1=5 then a+b else if e.1=3 then 1+min (e.2.2.2.2.2.2.length:Int) 1000 else 1
def wl (d:List SNode):Nat→List Int
 | 0=>[]
 | i+1=>match d[i]? with
  | none=>wl d i
  | some e=>wl d i++[min (zpc e (zfz (wl d i) e.2.1) (zfz (wl d i) e.2.2.1)) 1000]
theorem zk7 {d:List SNode} {i:Nat} (hi:i<d.length):wl d (i+1)=wl d i++[min (zpc d[i] (zfz (wl d i) d[i].2.1) (zfz (wl d i) d[i].2.2.1)) 1000]:=by
 show (match d[i]? with | none=>wl d i | some e=>wl d i++[min (zpc e (zfz (wl d i) e.2.1) (zfz (wl d i) e.2.2.1)) 1000])=_;rw [List.getElem?_eq_getElem hi]
theorem zpb {d:List SNode}:∀{i:Nat},i≤d.length→(wl d i).length=i
 | 0,_=>rfl
 | i+1,h=>by rw [zk7 (by omega),List.length_append,zpb (by omega)];rfl
theorem mul_few {x a:Int} (hx:0≤x∧x≤1001) (ha:0≤a∧a≤1000):0≤x*a∧x*a≤1001000:=by
 refine ⟨Int.mul_nonneg hx.1 ha.1, ?_⟩;have:=Int.mul_le_mul hx.2 ha.2 ha.1 (by omega);omega
theorem wgt1_ok {e:SNode} {a b:Int} (ha:0≤a∧a≤1000) (hb:0≤b∧b≤1000):0≤zpc e a b:=by
 unfold zpc;split
 ·exact (mul_few (by omega) ha).1
 ·split
  ·omega
  ·split
   ·omega
   ·split <;> omega
theorem ziy {l:List Int} (h:∀x∈l,0≤x∧x≤1000) (x:Int):0≤zfz l x∧zfz l x≤1000:=by
 unfold zfz;split
 ·rename_i hx
  obtain ⟨y,hy,hm⟩:=zls hx.1 hx.2;rw [hy];exact h y hm
 ·omega
theorem wl_ok {d:List SNode}:∀{i:Nat},i≤d.length→∀x∈wl d i,0≤x∧x≤1000
 | 0,_,x,hx=>by cases hx
 | i+1,h,x,hx=>by
  have ih:=wl_ok (d:=d) (i:=i) (by omega);rw [zk7 (by omega)] at hx;rcases List.mem_append.1 hx with hx | hx
  ·exact ih x hx
  ·rw [List.mem_singleton.1 hx];have:=wgt1_ok (e:=d[i]) (ziy ih d[i].2.1) (ziy ih d[i].2.2.1);omega
theorem w7 {L1:List Int→Int→Prop} {l:List Int} {i:Int} {e:SNode} {a:Int} (hl:l.length≤1000) (hi:0≤i∧i≤1000) (ha:0≤a∧a≤1000) (hb:0≤zfz l e.2.2.1∧zfz l e.2.2.1≤1000) (h:L1 (l++[min (zpc e a (zfz l e.2.2.1)) 1000]) (i+1)):zj.j7 L1 l i e a:=by
 have e2:∀w,w=zpc e a (zfz l e.2.2.1)→zj.j2 L1 l i w:=fun w hw=>by
  subst hw;exact ⟨by simp;omega,zh (by omega) (by omega),h⟩
 have e3:∀w,e.1=7∨w=zpc e a (zfz l e.2.2.1)→zj.j3 L1 l i e a w:=fun w hw=>by
  refine ⟨fun h7=>?_,fun h7=>e2 w (hw.resolve_left (by simpa using h7))⟩;have h7:e.1=7:=by simpa using h7
  have:=mul_few (x:=1+max 0 (min e.2.2.2.2.1 1000)) (by omega) ha;exact ⟨zh (by omega) (by omega),zh (by omega) (by omega),e2 _ (by unfold zpc;rw [if_pos h7])⟩
 have e4:∀w,e.1=7∨(e.1=6∨e.1=8∨e.1=9)∨w=zpc e a (zfz l e.2.2.1)→zj.j4 L1 l i e a w:=fun w hw=>by
  refine ⟨fun h6=>⟨zh (by omega) (by omega),e3 _ ?_⟩,fun h6=>e3 w ?_⟩
  ·have h6:e.1=6∨e.1=8∨e.1=9:=by simpa [or_assoc] using h6
   refine .inr ?_;unfold zpc;rw [if_neg (by omega),if_pos h6]
  ·have h6:¬ (e.1=6∨e.1=8∨e.1=9):=by simpa [or_assoc,and_assoc] using h6
   exact hw.imp id fun h=>h.resolve_left h6
 have e5:∀w,e.1=7∨(e.1=6∨e.1=8∨e.1=9)∨(e.1=4∨e.1=5)∨w=zpc e a (zfz l e.2.2.1)→zj.j5 L1 l i e a (zfz l e.2.2.1) w:=fun w hw=>by
  refine ⟨fun h4=>⟨zh (by omega) (by omega),e4 _ ?_⟩,fun h4=>e4 w ?_⟩
  ·have h4:e.1=4∨e.1=5:=by simpa using h4
   refine .inr (.inr ?_);unfold zpc;rw [if_neg (by omega),if_neg (by omega),if_pos h4]
  ·have h4:¬ (e.1=4∨e.1=5):=by simpa using h4
   exact hw.imp id fun h=>h.imp id fun h=>h.resolve_left h4
 have e6:zj.j6 L1 l i e a (zfz l e.2.2.1):=by
  refine ⟨fun h3=>⟨zh (by omega) (by omega),e5 _ ?_⟩,fun h3=>e5 1 ?_⟩
  ·have h3:e.1=3:=by simpa using h3
   refine .inr (.inr (.inr ?_));unfold zpc;rw [if_neg (by omega),if_neg (by omega),if_neg (by omega),if_pos h3]
  ·have h3:¬ e.1=3:=by simpa using h3
   by_cases k7:e.1=7
   ·exact .inl k7
   by_cases k6:e.1=6∨e.1=8∨e.1=9
   ·exact .inr (.inl k6)
   by_cases k4:e.1=4∨e.1=5
   ·exact .inr (.inr (.inl k4))
   refine .inr (.inr (.inr ?_));unfold zpc;rw [if_neg k7,if_neg k6,if_neg k4,if_neg h3]
 refine ⟨_,rfl,fun hc=>?_,fun hc=>?_⟩
 ·simp only [Bool.and_eq_true,decide_eq_true_eq] at hc;obtain ⟨y,hy,_⟩:=zls hc.1 hc.2;have:zfz l e.2.2.1=y:=by unfold zfz;rw [if_pos hc,hy];rfl
  rw [this] at e6;exact ⟨y,hy,e6⟩
 ·have:zfz l e.2.2.1=0:=by
   unfold zfz;rw [if_neg];simp only [Bool.and_eq_false_iff,decide_eq_false_iff_not] at hc;omega
  rw [this] at e6;exact e6
theorem znn {d:List SNode} (hl:d.length≤100):zj d (if d.length=0 then 0 else zfz (wl d d.length) ((d.length:Int)-1)):=by
 refine zhq (P:=fun k l v=>zj.l1 d _ k l v) d.length (fun i l=>l=wl d i) ?_ ?_ [] rfl
 ·rintro i l hi rfl;have hlen:=zpb (d:=d) (i:=i) (by omega);have hok:=wl_ok (d:=d) (i:=i) (by omega);refine .inr ⟨_,(zk7 hi).symm,fun k hk=>⟨_,rfl,fun _=>⟨_,zf0 hi,_,rfl,fun hc=>?_,fun hc=>?_⟩,fun hc=>?_⟩⟩
  ·simp only [Bool.and_eq_true,decide_eq_true_eq] at hc;obtain ⟨y,hy,hm⟩:=zls hc.1 hc.2;have e:zfz (wl d i) d[i].2.1=y:=by unfold zfz;rw [if_pos hc,hy];rfl
   rw [e] at hk;exact ⟨y,hy,w7 (by omega) (by omega) (hok y hm) (ziy hok _) hk⟩
  ·have e:zfz (wl d i) d[i].2.1=0:=by
    unfold zfz;rw [if_neg];simp only [Bool.and_eq_false_iff,decide_eq_false_iff_not] at hc;omega
   rw [e] at hk;exact w7 (by omega) (by omega) (by omega) (ziy hok _) hk
  ·exfalso;simp only [Bool.and_eq_false_iff,decide_eq_false_iff_not] at hc;omega
 ·rintro l rfl k;have hlen:=zpb (d:=d) (i:=d.length) (Nat.le_refl _);refine ⟨_,rfl,fun hc=>?_,fun _=>⟨fun h=>?_,fun h=>?_⟩⟩
  ·exfalso;simp only [Bool.and_eq_true,decide_eq_true_eq] at hc;omega
  ·rw [hlen] at h;rw [if_pos (by have:=eq_of_beq h;omega)]
  ·rw [hlen] at h;have hp:d.length≠0:=by have:=beq_eq_false_iff_ne.1 h;omega
   obtain ⟨y,hy,_⟩:=zls (xs:=wl d d.length) (i:=(d.length:Int)-1) (by omega) (by omega);refine ⟨zh (by omega) (by omega),y,by rw [hlen];exact hy, ?_⟩;rw [if_neg hp];unfold zfz;rw [if_pos (by omega),hy];rfl
theorem wl_pre {d:List SNode} {i:Nat}:∀{j:Nat},i≤j→j≤d.length→wl d i <+: wl d j
 | 0,h,_=>by rw [Nat.le_zero.1 h];exact List.prefix_refl _
 | j+1,h,hj=>by
  rcases Nat.lt_or_eq_of_le h with h1 | h1
  ·rw [zk7 (by omega)];exact (wl_pre (Nat.le_of_lt_succ h1) (by omega)).trans (List.prefix_append _ _)
  ·rw [h1];exact List.prefix_refl _
theorem zmv {d:List SNode} {i:Nat} (hi:i≤d.length) {x:Int} (h0:0≤x) (h1:x<(i:Int)):zfz (wl d i) x=zfz (wl d d.length) x:=by
 have l1:=zpb (d:=d) hi;have l2:=zpb (d:=d) (i:=d.length) (Nat.le_refl _);obtain ⟨m,rfl⟩:∃m:Nat,x=m:=⟨x.toNat,by omega⟩;unfold zfz;rw [if_pos (by omega),if_pos (by omega),zbl,zbl];obtain ⟨r,hr⟩:=wl_pre (d:=d) hi (Nat.le_refl _);rw [← hr,List.getElem?_append_left (by omega)]
theorem look_at {d:List SNode} {i:Int} {e:SNode} (he:at? d i=some e):zfz (wl d d.length) i=min (zpc e (zfz (wl d i.toNat) e.2.1) (zfz (wl d i.toNat) e.2.2.1)) 1000:=by
 obtain ⟨h0,h1⟩:=zbj he;obtain ⟨m,rfl⟩:∃m:Nat,i=m:=⟨i.toNat,by omega⟩;have hm:m<d.length:=by omega
 have he':d[m]=e:=by
  rw [zbl,List.getElem?_eq_getElem hm] at he;exact Option.some.inj he
 rw [← zmv (d:=d) (i:=m+1) (by omega) (by omega) (by omega)];have l1:=zpb (d:=d) (i:=m) (by omega);unfold zfz;rw [if_pos (by rw [zk7 hm,List.length_append,l1];simp;omega),zbl,zk7 hm,List.getElem?_append_right (by omega),l1,Nat.sub_self,he'];simp [zfz]
theorem sz_wgt {d:List SNode} (hn:∀n∈d,n.1≠8∧n.1≠9) {f i:Int} (h:Tr d f i):∀k,zfz (wl d d.length) i<1000→((szN d k i:Nat):Int)≤zfz (wl d d.length) i:=by
 have hok:∀x,0≤zfz (wl d d.length) x∧zfz (wl d d.length) x≤1000:=fun x=>ziy (wl_ok (Nat.le_refl _)) x;have hs:∀{i:Int} {e:SNode} (k:Nat),at? d i=some e→szN d (k+1) i=if e.1=2 then 1 else if e.1=3 then e.2.2.2.2.2.2.length else if e.1=4∨e.1=5 then szN d k e.2.1+szN d k e.2.2.1 else if e.1=6 then szN d k e.2.1 else if e.1=7 then e.2.2.2.2.1.toNat*szN d k e.2.1 else 0:=fun {i e} k he=>by
  simp only [szN,he]
 induction h with
 | leaf he hk hx h0=>
  rename_i i e
  intro k hlt;have hl:=look_at he;rw [hl] at hlt ⊢;cases k with
  | zero=>have:=wgt1_ok (e:=e) (ziy (wl_ok (d:=d) (i:=i.toNat) (by have:=zbj he;omega)) e.2.1) (ziy (wl_ok (d:=d) (i:=i.toNat) (by have:=zbj he;omega)) e.2.2.1);show (0:Int)≤_;omega
  | succ k=>
   rw [hs k he];unfold zpc at hlt ⊢;rcases hk with k1 | k1 | k1
   ·simp only [k1] at hlt ⊢;simp;try omega
   ·simp only [k1] at hlt ⊢;simp;try omega
   ·simp only [k1] at hlt ⊢;simp at hlt ⊢;omega
 | one he hk ha hb hr h ih=>
  rename_i f i e
  intro k hlt;have hle:=h.le;have hbd:=zbj he;have hl:=look_at he;rw [ha,zmv (i:=i.toNat) (by omega) (by omega) (by omega)] at hl;have hA:=hok (i-1);have hw:=wgt1_ok (e:=e) (a:=zfz (wl d d.length) (i-1)) hA (ziy (wl_ok (d:=d) (i:=i.toNat) (by omega)) e.2.2.1);rw [hl] at hlt ⊢;cases k with
  | zero=>show (0:Int)≤_;omega
  | succ k=>
   rw [hs k he,ha];have ih:=ih k;unfold zpc at hlt ⊢;rcases hk with k1 | k1 | k1 | k1
   ·simp only [k1] at hlt ⊢;simp at hlt ⊢;have:=ih (by omega);omega
   ·have hr:=hr k1;simp only [k1] at hlt ⊢;simp only [show ¬ ((7:Int)=2) by decide,show ¬ ((7:Int)=3) by decide,show ¬ ((7:Int)=4∨(7:Int)=5) by decide,show ¬ ((7:Int)=6) by decide,if_false,if_true] at hlt ⊢;have hx:1+max 0 (min e.2.2.2.2.1 1000)=1+e.2.2.2.2.1:=by omega
    rw [hx] at hlt ⊢;have hA2:zfz (wl d d.length) (i-1)<1000:=by
     rcases Int.lt_or_le (zfz (wl d d.length) (i-1)) 1000 with h | h
     ·exact h
     ·have h2:zfz (wl d d.length) (i-1)≤(1+e.2.2.2.2.1)*zfz (wl d d.length) (i-1):=by
       have:=Int.mul_le_mul_of_nonneg_right (show (1:Int)≤1+e.2.2.2.2.1 by omega) hA.1;omega
      omega
    have ih:=ih hA2;have e1:(((e.2.2.2.2.1.toNat*szN d k (i-1):Nat)):Int)=e.2.2.2.2.1*(szN d k (i-1):Int):=by
     rw [Int.natCast_mul,Int.toNat_of_nonneg (by omega)]
    rw [e1];have h3:e.2.2.2.2.1*(szN d k (i-1):Int)≤(1+e.2.2.2.2.1)*zfz (wl d d.length) (i-1):=Int.mul_le_mul (by omega) ih (by omega) (by omega);omega
   ·exact absurd k1 (hn _ (at_mem he)).1
   ·exact absurd k1 (hn _ (at_mem he)).2
 | two he hk ha hb h1 h2 i1 i2=>
  rename_i f p i e
  intro k hlt;have l1:=h1.le;have l2:=h2.le;have hbd:=zbj he;have hl:=look_at he;rw [ha,hb,zmv (i:=i.toNat) (by omega) (by omega) (by omega),zmv (i:=i.toNat) (by omega) (by omega) (by omega)] at hl;have hA:=hok (p-1);have hB:=hok (i-1);rw [hl] at hlt ⊢;have hw:zpc e (zfz (wl d d.length) (p-1)) (zfz (wl d d.length) (i-1))=zfz (wl d d.length) (p-1)+zfz (wl d d.length) (i-1):=by
   unfold zpc;rw [if_neg (by omega),if_neg (by omega),if_pos hk]
  rw [hw] at hlt ⊢;cases k with
  | zero=>show (0:Int)≤_;omega
  | succ k=>
   rw [hs k he,ha,hb,if_neg (by omega),if_neg (by omega),if_pos hk];have j1:=i1 k (by omega);have j2:=i2 k (by omega);rw [Int.natCast_add];omega
theorem Heavy_ex {d:List SNode} (hl:d.length≤1000):∃r,zbw d r∧(r=false→∀n∈d,n.1≠8∧n.1≠9):=by
 rcases Classical.em (∀n∈d,n.1≠8∧n.1≠9) with hn | hn
 ·refine ⟨false, ?_,fun _=>hn⟩;refine zhq (P:=fun k (_:Unit) v=>zbw.l1 d false _ k v) d.length (fun _ _=>True) ?_ ?_ () trivial
  ·intro i _ hi _;have:=hn _ (List.getElem_mem hi);refine .inr ⟨(),trivial,fun k hk=>⟨fun _=>⟨_,zf0 hi,_,fun _=>zf0 hi,fun h=>?_,fun _=>⟨zh (by omega) (by omega),hk⟩⟩,fun h=>absurd (by omega) (df h)⟩⟩;simp [this.1,this.2] at h
  ·intro _ _ k;exact ⟨fun h=>absurd (dt h) (by omega),fun _=>rfl⟩
 ·refine ⟨true, ?_,(fun h=>by cases h)⟩;refine zhq (P:=fun k (_:Unit) v=>zbw.l1 d true _ k v) d.length (fun i _=>∀n∈d.take i,n.1≠8∧n.1≠9) ?_ ?_ () (by simp)
  ·intro i _ hi hI
   by_cases hb:d[i].1=8∨d[i].1=9
   ·exact .inl fun k=>⟨fun _=>⟨_,zf0 hi,_,fun _=>zf0 hi,fun _=>rfl,fun h=>by
     rcases hb with hb | hb <;> simp [hb] at h⟩,fun h=>absurd (by omega) (df h)⟩
   ·refine .inr ⟨(),fun n hnm=>?_,fun k hk=>⟨fun _=>⟨_,zf0 hi,_,fun _=>zf0 hi,fun _=>rfl,fun _=>⟨zh (by omega) (by omega),hk⟩⟩,fun h=>absurd (by omega) (df h)⟩⟩;rw [List.take_succ_eq_append_getElem hi,List.mem_append,List.mem_singleton] at hnm;rcases hnm with h | rfl
    ·exact hI n h
    ·omega
  ·intro _ hI k;rw [List.take_length] at hI;exact absurd hI hn
theorem Light_ex {d e:List SNode} (hl:d.length≤1000) (hm:e.length≤1000) (b:Int):∃r,zgh d e b r∧(r=true→b≤10∨(∀n∈d,n.1≠8∧n.1≠9)∧∀n∈e,n.1≠8∧n.1≠9):=by
 obtain ⟨r,h1,h2⟩:=Heavy_ex hl;obtain ⟨s,k1,k2⟩:=Heavy_ex hm;refine ⟨_,⟨r,fun _=>h1,s,fun _=>k1,rfl⟩,fun h=>?_⟩;simp only [Bool.or_eq_true,decide_eq_true_eq,Bool.and_eq_true,Bool.not_eq_true'] at h;exact h.imp id fun h=>⟨h2 h.1,k2 h.2⟩
structure FewD (d:List SNode):Prop where
 rt:Rt d
 len:d.length≤16
 sz:(∀n∈d,n.1≠8∧n.1≠9)→szN d d.length ((d.length:Int)-1)≤60
def FewB (d:List SNode) (r:Bool):Prop:=∃r1:Bool,zcy d r1∧∃r3:Int,((((r1&&(decide ((d.length:Int)≤16))))=true)→zj d r3)∧∃b5:Bool,b5=((r1&&(decide ((d.length:Int)≤16)))&&(decide (r3≤60)))∧∃r7:Bool,(((b5)=true)→zgg d r7)∧r=(b5&&r7)
theorem few_of {d:List SNode} (ht:Txt d):∃r,FewB d r∧(r=true→FewD d):=by
 obtain ⟨r3,h3,h3b⟩:=few_ex ht;cases r3
 ·exact ⟨false,⟨false,h3,0,(fun h=>by simp at h),_,rfl,false,(fun h=>by simp at h),by simp⟩,(fun h=>by cases h)⟩
 ·have hl:=h3b rfl;have hw:=znn hl;obtain ⟨r9,h9,h9b⟩:=right_ok (d:=d) (by omega) ht;refine ⟨_,⟨true,h3,_,fun _=>hw,_,rfl,r9,fun _=>h9,rfl⟩,fun h=>?_⟩;simp only [Bool.true_and,Bool.and_eq_true,decide_eq_true_eq] at h;obtain ⟨⟨g1,g2⟩,g3⟩:=h;have hR:=h9b g3;refine ⟨hR,by omega,fun hn=>?_⟩;have hp:=List.length_pos_iff.2 hR.ne;rw [if_neg (by omega)] at g2;have:=sz_wgt hn hR.tr d.length (by omega);omega
section
variable {T U : Type} [DecidableEq T] [DecidableEq U]
end
section
variable {T : Type} [DecidableEq T]
theorem OutB.len {S:Sch T} {b:Int} {v:Int × List Int × Int × Option T} (h:OutB S b v):v.2.1.length≤b.toNat∧(v.1=2→(v.2.1.length:Int)<b):=by
 cases h with
 | yes i hb h hno=>simp
 | no i q hb h hh hno=>
  have:=(zi6 S i).wlen i q h;simp only;omega
 | limit _ _=>simp
end
theorem zi3 {α β:Type} (f:α→List β) (m:Nat):∀l:List α,(∀s∈l,(f s).length≤m)→(l.flatMap f).length≤m*l.length
 | [],_=>by simp
 | s::l,h=>by
  have h1:=h s (by simp);have h2:=zi3 f m l fun u hu=>h u (by simp [hu]);rw [List.flatMap_cons,List.length_append,List.length_cons,Nat.mul_succ];omega
end Go.Proofs.YtkbboemafklkkaaGreatDoor.V
namespace Go.Proofs.YtkbboemafklkkaaGreatDoor.V
open Go
set_option linter.unusedVariables false
def wN (d:List SNode) (w:List Int):Nat:=zbr d ((d.length:Int)-1) w
theorem rt_root {a:List SNode} (h:Rt a):∃n,at? a ((a.length:Int)-1)=some n:=by
 have:=List.length_pos_iff.2 h.ne;obtain ⟨x,hx,_⟩:=zls (xs:=a) (i:=(a.length:Int)-1) (by omega) (by omega);exact ⟨x,hx⟩
theorem zns {k:Int} {a b:List SNode}:Emb a (zdc k a b) 0∧Emb b (zdc k a b) (a.length:Int):=⟨by unfold zdc;rw [List.append_assoc];exact zmx _,emb_mid⟩
section
variable {k : Int} {a b : List SNode} (ha : Rt a) (hb : Rt b) {w : List Int} (hw : ∀ c ∈ w,InR .u8 c)
include ha hb hw
theorem pair_left (hk:k=4∨k=5):zbr (zdc k a b) ((a.length:Int)-1) w=wN a w:=by
 obtain ⟨n,hn⟩:=rt_root ha;have:=zq2 (zns (k:=k) (a:=a) (b:=b)).1 ha.toROk (zit ha hb hk).toROk hn hw
 rwa [Int.add_zero] at this
theorem zpp (hk:k=4∨k=5):zbr (zdc k a b) ((a.length:Int)+(b.length:Int)-1) w=wN b w:=by
 obtain ⟨n,hn⟩:=rt_root hb;have:=zq2 (zns (k:=k) (a:=a) (b:=b)).2 hb.toROk (zit ha hb hk).toROk hn hw;rw [show (b.length:Int)-1+(a.length:Int)=(a.length:Int)+(b.length:Int)-1 by omega] at this;exact this
theorem wN_or:wN (zdc 5 a b) w=wN a w+wN b w:=by
 have hr:=zit ha hb (k:=5) (.inr rfl);unfold wN;rw [show (((zdc 5 a b).length:Int)-1)=(a.length:Int)+(b.length:Int) by rw [zh0];omega];rw [node_or hr.toROk (zkl 5 a b) rfl,pair_left ha hb hw (.inr rfl),zpp ha hb hw (.inr rfl)];rfl
theorem wN_seq:wN (zdc 4 a b) w=zec (fun u v=>wN a u*wN b v) w:=by
 have hr:=zit ha hb (k:=4) (.inl rfl);have e:wN (zdc 4 a b) w=zbr (zdc 4 a b) ((a.length:Int)+(b.length:Int)) w:=by
  unfold wN;rw [show (((zdc 4 a b).length:Int)-1)=(a.length:Int)+(b.length:Int) by rw [zh0];omega]
 rw [e,node_seq hr.toROk (zkl 4 a b) rfl];refine zd4 fun u v huv=>?_;rw [pair_left ha hb (fun c hc=>hw c (by rw [← huv];simp [hc])) (.inl rfl),zpp ha hb (fun c hc=>hw c (by rw [← huv];simp [hc])) (.inl rfl)]
end
theorem wrap_left {k:Int} {a:List SNode} (ha:Rt a) (hr:Rt (zgl k a)) {w:List Int} (hw:∀c∈w,InR .u8 c):zbr (zgl k a) ((a.length:Int)-1) w=wN a w:=by
 obtain ⟨n,hn⟩:=rt_root ha;have:=zq2 (zmx (a:=a) [(k,(a.length:Int)-1,0,0,0,(0#256),([]:Str))]) ha.toROk hr.toROk hn hw
 rwa [Int.add_zero] at this
theorem frame_rt {a:List SNode} (ha:Rt a):Rt (zgl 8 a):=wrap_rt ha (.inr (.inl rfl)) fun h=>by cases h
theorem wN_wrap {k:Int} (a:List SNode) (w:List Int):wN (zgl k a) w=zbr (zgl k a) (a.length:Int) w:=by
 unfold wN;rw [show (((zgl k a).length:Int)-1)=(a.length:Int) by rw [zp2];omega]
theorem wN_frame {a:List SNode} (ha:Rt a) {c:Int} {w:List Int} (hw:∀b∈c::w,InR .u8 b):wN (zgl 8 a) (c::w)=if (w.length:Int)=c then wN a w else 0:=by
 have hr:=frame_rt ha;rw [wN_wrap,zli hr.toROk (wrap_root 8 a) rfl (c::w) fun b hb=>(zen.1 (hw b hb)).1];simp only;rw [wrap_left ha hr fun b hb=>hw b (by simp [hb])]
def dDead:List SNode:=[(2,0,0,0,0,(0#256),([]:Str))]
theorem zh4:Rt dDead:=leaf_rt (.inr rfl) ⟨rfl,rfl⟩
theorem wN_dead (w:List Int):wN dDead w=0:=by
 have hn:at? dDead 0=some (2,0,0,0,0,(0#256),([]:Str)):=rfl;show zbr dDead 0 w=0;rw [zps zh4.toROk hn rfl w];cases w with
 | nil=>rfl
 | cons c w=>simp [Cl.has]
theorem wN_seq_dead {a:List SNode} (ha:Rt a) {w:List Int} (hw:∀c∈w,InR .u8 c):wN (zdc 4 a dDead) w=0:=by
 rw [wN_seq ha zh4 hw,zd4 (G:=fun _ _=>0) fun u v _=>by rw [wN_dead,Nat.mul_zero],zfa]
theorem dDead_txt:Txt dDead:=small_txt (by decide +kernel)
theorem pair_txt {k:Int} {a b:List SNode} (ha:Txt a) (hb:Txt b):Txt (zdc k a b):=fun n hn=>by
 unfold zdc at hn;rcases List.mem_append.1 hn with hn | hn
 ·rcases List.mem_append.1 hn with hn | hn
  ·exact ha n hn
  ·obtain ⟨m,hm,rfl⟩:=List.mem_map.1 hn;exact hb m hm
 ·rw [List.mem_singleton.1 hn];simp
theorem wrap_txt {k:Int} {a:List SNode} (ha:Txt a):Txt (zgl k a):=fun n hn=>by
 rcases List.mem_append.1 hn with hn | hn
 ·exact ha n hn
 ·rw [List.mem_singleton.1 hn];simp
theorem zqz {k:Int} {a b:List SNode} (hk:k≠8∧k≠9) (ha:∀n∈a,n.1≠8∧n.1≠9) (hb:∀n∈b,n.1≠8∧n.1≠9):∀n∈zdc k a b,n.1≠8∧n.1≠9:=fun n hn=>by
 unfold zdc at hn;rcases List.mem_append.1 hn with hn | hn
 ·rcases List.mem_append.1 hn with hn | hn
  ·exact ha n hn
  ·obtain ⟨m,hm,rfl⟩:=List.mem_map.1 hn;exact hb m hm
 ·rw [List.mem_singleton.1 hn];exact hk
theorem szN_emb {l l':List SNode} {c:Int} (h:Emb l l' c):∀(k:Nat) (i:Int),(∃f,Tr l f i)→szN l' k (i+c)=szN l k i
 | 0,_,_=>rfl
 | k+1,i,⟨f,ht⟩=>by
  have ih:=szN_emb h k;cases ht with
  | leaf he hk hx h0=>
   rename_i e
   have e2:=h.get he;have e3:=h.2 _ _ he;unfold szN;rw [he,e3];simp only [zlm];rcases hk with k1 | k1 | k1 <;> simp [k1]
  | one he hk ha hb hr h1=>
   rename_i e
   have e3:=h.2 _ _ he;unfold szN;rw [he,e3];simp only [zlm];have ih:=ih (i-1) ⟨_,h1⟩;simp only [if_pos (show 4≤e.1 by omega),ha,if_neg (show ¬ (e.1=4∨e.1=5) by omega)];rw [show i-1+c=i-1+c from rfl,ih]
  | two he hk ha hb h1 h2=>
   rename_i p e
   have e3:=h.2 _ _ he;unfold szN;rw [he,e3];simp only [zlm];have i1:=ih (p-1) ⟨_,h2⟩;have i2:=ih (i-1) ⟨_,h1⟩;simp only [if_pos (show 4≤e.1 by omega),if_pos hk,ha,hb,i1,i2]
theorem szN_fuel {l:List SNode} {f i:Int} (h:Tr l f i):∀{k m:Nat},(i-f+1).toNat≤k→(i-f+1).toNat≤m→szN l k i=szN l m i:=by
 have hs:∀{i:Int} {e:SNode} (k:Nat),at? l i=some e→szN l (k+1) i=if e.1=2 then 1 else if e.1=3 then e.2.2.2.2.2.2.length else if e.1=4∨e.1=5 then szN l k e.2.1+szN l k e.2.2.1 else if e.1=6 then szN l k e.2.1 else if e.1=7 then e.2.2.2.2.1.toNat*szN l k e.2.1 else 0:=fun {i e} k he=>by
  simp only [szN,he]
 induction h with
 | leaf he hk hx h0=>
  intro k m h1 h2;obtain ⟨k,rfl⟩:∃q,k=q+1:=⟨k-1,by omega⟩;obtain ⟨m,rfl⟩:∃q,m=q+1:=⟨m-1,by omega⟩;rw [hs k he,hs m he];rcases hk with k1 | k1 | k1 <;> simp [k1]
 | one he hk ha hb hr h ih=>
  intro k m h1 h2;have:=h.le;obtain ⟨k,rfl⟩:∃q,k=q+1:=⟨k-1,by omega⟩;obtain ⟨m,rfl⟩:∃q,m=q+1:=⟨m-1,by omega⟩
  rename_i f i e
  rw [hs k he,hs m he,ha];have e45:¬ (e.1=4∨e.1=5):=by omega
  simp only [if_neg e45];rw [ih (k:=k) (m:=m) (by omega) (by omega)]
 | two he hk ha hb h1 h2 i1 i2=>
  intro k m g1 g2;have:=h1.le;have:=h2.le;obtain ⟨k,rfl⟩:∃q,k=q+1:=⟨k-1,by omega⟩;obtain ⟨m,rfl⟩:∃q,m=q+1:=⟨m-1,by omega⟩;rw [hs k he,hs m he,ha,hb];rw [i1 (k:=k) (m:=m) (by omega) (by omega),i2 (k:=k) (m:=m) (by omega) (by omega)]
theorem zqb {k:Int} {a b:List SNode} (ha:Rt a) (hb:Rt b) (hk:k=4∨k=5):szN (zdc k a b) (zdc k a b).length (((zdc k a b).length:Int)-1)=szN a a.length ((a.length:Int)-1)+szN b b.length ((b.length:Int)-1):=by
 obtain ⟨ea,eb⟩:=zns (k:=k) (a:=a) (b:=b);have ta:=ha.tr.emb ea;have tb:=hb.tr.emb eb;have la:=ha.tr.le;have lb:=hb.tr.le;rw [show (((zdc k a b).length:Int)-1)=(a.length:Int)+(b.length:Int) by rw [zh0];omega];rw [zh0];simp only [szN,zkl];rw [if_neg (by omega),if_neg (by omega),if_pos hk];have e1:=szN_emb ea a.length ((a.length:Int)-1) ⟨_,ha.tr⟩;have e2:=szN_emb eb b.length ((b.length:Int)-1) ⟨_,hb.tr⟩;rw [← e1,← e2];rw [Int.add_zero,Int.add_zero] at ta;rw [Int.add_zero];rw [show (b.length:Int)-1+(a.length:Int)=(a.length:Int)+(b.length:Int)-1 by omega] at tb ⊢;rw [szN_fuel ta (k:=a.length+b.length) (m:=a.length) (by omega) (by omega),szN_fuel tb (k:=a.length+b.length) (m:=b.length) (by omega) (by omega)]
end Go.Proofs.YtkbboemafklkkaaGreatDoor.V
namespace Go.Proofs.YtkbboemafklkkaaGreatDoor.V
open Go
set_option linter.unusedVariables false
instance decTW:DecidableEq TW:=@instDecidableEqProd (List SItem) (List SItem × Bool) inferInstance (@instDecidableEqProd (List SItem) Bool inferInstance inferInstance)
def Two {α:Type} [BEq α] (L:List α) (p q:α):Prop:=p∈L∧q∈L∧(p=q→2≤L.count p)
theorem Two.symm {α:Type} [BEq α] {L:List α} {p q:α} (h:Two L p q):Two L q p:=⟨h.2.1,h.1,fun e=>by rw [e];exact h.2.2 e.symm⟩
theorem Two.cons {α:Type} [BEq α] {L:List α} {p q:α} (x:α) (h:Two L p q):Two (x::L) p q:=⟨by simp [h.1],by simp [h.2.1],fun e=>by
 have:=h.2.2 e;rw [List.count_cons];omega⟩
section
variable {α β : Type} [BEq α] [LawfulBEq α] [BEq β] [LawfulBEq β]
omit [LawfulBEq β] in
theorem zh5 (f:α→List β) (t:β) {p:α}:∀{L:List α},L.count p*(f p).count t≤(L.flatMap f).count t
 | []=>by simp
 | s::L=>by
  have ih:=zh5 f t (p:=p) (L:=L)
  rw [List.flatMap_cons,List.count_append,List.count_cons]
  by_cases h:s=p
  ·subst h
   simp only [beq_self_eq_true,if_true]
   rw [Nat.succ_mul,Nat.add_comm]
   exact Nat.add_le_add_left ih _
  ·rw [if_neg (by simpa using h),Nat.add_zero]
   exact Nat.le_trans ih (Nat.le_add_left _ _)
theorem two_flat {f:α→List β} {L:List α} {p q:α} {t u:β} (h:Two L p q) (ht:t∈f p) (hu:u∈f q):Two (L.flatMap f) t u:=by
 refine ⟨List.mem_flatMap.2 ⟨p,h.1,ht⟩,List.mem_flatMap.2 ⟨q,h.2.1,hu⟩,fun e=>?_⟩;subst e;have c1:=List.count_pos_iff.2 ht;have c2:=List.count_pos_iff.2 hu
 by_cases e:p=q
 ·have h2:=h.2.2 e;have:=zh5 f t (p:=p) (L:=L);have:=Nat.mul_le_mul h2 c1;omega
 ·clear c1 c2;obtain ⟨h1,h2,_⟩:=h
  induction L with
  | nil=>cases h1
  | cons s L ih=>
   rw [List.flatMap_cons,List.count_append];rcases List.mem_cons.1 h1 with rfl | h1'
   ·rcases List.mem_cons.1 h2 with h2 | h2
    ·exact absurd h2.symm e
    ·have a:=List.count_pos_iff.2 ht;have b:=List.count_pos_iff.2 (List.mem_flatMap.2 ⟨q,h2,hu⟩:t∈L.flatMap f);omega
   ·rcases List.mem_cons.1 h2 with rfl | h2'
    ·have a:=List.count_pos_iff.2 hu;have b:=List.count_pos_iff.2 (List.mem_flatMap.2 ⟨p,h1',ht⟩:t∈L.flatMap f);omega
    ·have:=ih h1' h2' (fun e'=>absurd e' e);omega
omit [LawfulBEq β] in
theorem two_in {f:α→List β} {L:List α} {p:α} {t u:β} (h:p∈L) (k:Two (f p) t u):Two (L.flatMap f) t u:=by
 refine ⟨List.mem_flatMap.2 ⟨p,h,k.1⟩,List.mem_flatMap.2 ⟨p,h,k.2.1⟩,fun e=>?_⟩
 have h2:=k.2.2 e
 have h3:=zh5 f t (p:=p) (L:=L)
 have h4:=List.count_pos_iff.2 h
 have h5:=Nat.mul_le_mul h4 h2
 omega
theorem zp7 {f:α→List β} {t:β}:∀{L:List α},2≤(L.flatMap f).count t→(∃p∈L,2≤(f p).count t)∨∃p q,Two L p q∧t∈f p∧t∈f q
 | [],h=>by simp at h
 | s::L,h=>by
  rw [List.flatMap_cons,List.count_append] at h;rcases Nat.lt_or_ge 1 ((f s).count t) with h1 | h1
  ·exact .inl ⟨s,by simp,h1⟩
  ·rcases Nat.eq_zero_or_pos ((f s).count t) with h0 | h0
   ·rcases zp7 (f:=f) (t:=t) (L:=L) (by omega) with ⟨p,hp,h2⟩ | ⟨p,q,h2,h3,h4⟩
    ·exact .inl ⟨p,by simp [hp],h2⟩
    ·exact .inr ⟨p,q,h2.cons s,h3,h4⟩
   ·have h2:0<(L.flatMap f).count t:=by omega
    obtain ⟨q,hq,hq2⟩:=List.mem_flatMap.1 (List.count_pos_iff.1 h2);refine .inr ⟨s,q,⟨by simp,by simp [hq],fun e=>?_⟩,List.count_pos_iff.1 h0,hq2⟩;subst e;have:=List.count_pos_iff.2 hq;rw [List.count_cons];simp;omega
theorem two_split {f:α→List β} {L:List α} {t u:β} (h:Two (L.flatMap f) t u):(∃p q,Two L p q∧t∈f p∧u∈f q)∨∃p∈L,Two (f p) t u:=by
 obtain ⟨h1,h2,h3⟩:=h
 by_cases e:t=u
 ·subst e;rcases zp7 (h3 rfl) with ⟨p,hp,h4⟩ | h4
  ·have:=List.count_pos_iff.1 (show 0<(f p).count t by omega);exact .inr ⟨p,hp,this,this,fun _=>h4⟩
  ·exact .inl h4
 ·obtain ⟨p,hp,hp2⟩:=List.mem_flatMap.1 h1;obtain ⟨q,hq,hq2⟩:=List.mem_flatMap.1 h2
  by_cases e2:p=q
  ·subst e2;exact .inr ⟨p,hp,hp2,hq2,fun e3=>absurd e3 e⟩
  ·exact .inl ⟨p,q,⟨hp,hq,fun e3=>absurd e3 e2⟩,hp2,hq2⟩
end
def ziu (a b:List SItem) (ap:Bool):TW:=if 0<zdp a b then (b,a,ap) else (a,b,ap)
theorem ordT_comm (a b:List SItem) (ap:Bool):ziu a b ap=ziu b a ap:=by
 unfold ziu;have h:=zfb a b
 by_cases h1:0<zdp a b
 ·rw [if_pos h1,if_neg (by omega)]
 ·by_cases h2:0<zdp b a
  ·rw [if_neg h1,if_pos h2]
  ·have:a=b:=zb5.1 (by omega);subst this;rfl
theorem znt (a b:List SItem) (ap:Bool):ziu a b ap=(a,b,ap)∨ziu a b ap=(b,a,ap):=by
 unfold ziu;split
 ·exact .inr rfl
 ·exact .inl rfl
theorem ordT_self (a:List SItem) (ap:Bool):ziu a a ap=(a,a,ap):=by
 rcases znt a a ap with h | h <;> exact h
def canOn (d:List SNode) (c:Int) (s:List SItem):List SBranch:=(zqg (zck d c s)).map fun t=>(t,sat ((zck d c s).count t))
theorem canOn_can (d:List SNode) (c:Int) (s:List SItem):Can (fun t=>(zck d c s).count t) (canOn d c s):=by
 refine ⟨List.pairwise_map.2 (zhe _),fun t m=>?_⟩;unfold canOn;simp only [List.mem_map,Prod.mk.injEq];constructor
 ·rintro ⟨u,h1,rfl,h2⟩;have:=List.count_pos_iff.2 (zcq.1 h1);exact ⟨by omega,h2.symm⟩
 ·rintro ⟨h1,h2⟩;exact ⟨t,zcq.2 (List.count_pos_iff.1 (by omega)),rfl,h2.symm⟩
theorem zi5 {d:List SNode} {c:Int} {s t:List SItem}:(∃m,(t,m)∈canOn d c s)↔t∈zck d c s:=by
 constructor
 ·rintro ⟨m,h⟩;obtain ⟨u,h1,h2⟩:=List.mem_map.1 h;cases h2;exact zcq.1 h1
 ·exact fun h=>⟨_,List.mem_map.2 ⟨t,zcq.2 h,rfl⟩⟩
def rawE (B:List SBranch):List TW:=(List.range B.length).flatMap fun i=>match B[i]? with
 | some p=>(p.1,p.1,decide (1<p.2))::(B.take i).map fun q=>ziu p.1 q.1 true
 | none=>[]
def rawT (d:List SNode) (t:TW) (c:Int):List TW:=if t.2.2=false then rawE (canOn d c t.1) else (canOn d c t.2.1).flatMap fun q=>(canOn d c t.1).map fun p=>ziu p.1 q.1 true
def byT (d:List SNode) (t:TW) (c:Int):List TW:=srtT (rawT d t c)
def zrp (d:List SNode) (t:TW):List Int:=bytS d [t.1,t.2.1]
def waysT (d:List SNode) (t:TW):List (Int × TW):=(zrp d t).flatMap fun c=>(byT d t c).map fun u=>(c,u)
def endN (d:List SNode) (s:List SItem):Nat:=(hds d s).count []
def hitT (d:List SNode) (t:TW):Bool:=if t.2.2=true then decide (0<sat (endN d t.1))&&decide (0<sat (endN d t.2.1)) else decide (1<sat (endN d t.1))
def twiS (d:List SNode):Sch TW:=⟨(stS d,stS d,false),waysT d,hitT d⟩
theorem byT_mem {d:List SNode} {t u:TW} {c:Int}:u∈byT d t c↔u∈rawT d t c:=(zin _).mem_iff
theorem rawE_mem {B:List SBranch} (hn:(B.map (·.1)).Nodup) {u:TW}:u∈rawE B↔(∃p∈B,u=(p.1,p.1,decide (1<p.2)))∨∃p∈B,∃q∈B,p.1≠q.1∧u=ziu p.1 q.1 true:=by
 unfold rawE;rw [List.mem_flatMap];constructor
 ·rintro ⟨i,hi,hu⟩;rw [List.mem_range] at hi;rw [List.getElem?_eq_getElem hi] at hu;simp only at hu;rcases List.mem_cons.1 hu with rfl | hu
  ·exact .inl ⟨_,List.getElem_mem hi,rfl⟩
  ·obtain ⟨q,hq,rfl⟩:=List.mem_map.1 hu;refine .inr ⟨_,List.getElem_mem hi,q,List.mem_of_mem_take hq, ?_,rfl⟩;obtain ⟨j,hj,rfl⟩:=List.mem_take_iff_getElem.1 hq;intro e;have hji:j<i:=by omega
   rw [List.nodup_iff_pairwise_ne] at hn;have:=(List.pairwise_iff_getElem.1 hn) j i (by simp;omega) (by simpa using hi) hji;simp at this;exact this e.symm
 ·rintro (⟨p,hp,rfl⟩ | ⟨p,hp,q,hq,hne,rfl⟩)
  ·obtain ⟨i,hi,rfl⟩:=List.mem_iff_getElem.1 hp;exact ⟨i,List.mem_range.2 hi,by rw [List.getElem?_eq_getElem hi];simp⟩
  ·obtain ⟨i,hi,rfl⟩:=List.mem_iff_getElem.1 hp;obtain ⟨j,hj,rfl⟩:=List.mem_iff_getElem.1 hq;rcases Nat.lt_trichotomy i j with h | h | h
   ·refine ⟨j,List.mem_range.2 hj, ?_⟩;rw [List.getElem?_eq_getElem hj];refine List.mem_cons.2 (.inr (List.mem_map.2 ⟨B[i], ?_,ordT_comm _ _ _⟩));exact List.mem_take_iff_getElem.2 ⟨i,by omega,rfl⟩
   ·subst h;exact absurd rfl hne
   ·refine ⟨i,List.mem_range.2 hi, ?_⟩;rw [List.getElem?_eq_getElem hi];refine List.mem_cons.2 (.inr (List.mem_map.2 ⟨B[j], ?_,rfl⟩));exact List.mem_take_iff_getElem.2 ⟨j,by omega,rfl⟩
theorem canOn_nodup (d:List SNode) (c:Int) (s:List SItem):((canOn d c s).map (·.1)).Nodup:=by
 unfold canOn;rw [List.map_map];have:((·.1) ∘ fun t:List SItem=>((t,sat ((zck d c s).count t)):SBranch))=id:=rfl;rw [this,List.map_id];exact zqi (zhe _)
theorem znp {d:List SNode} {c:Int} {s s':List SItem} {u:TW}:u∈rawT d (s,s',false) c↔(∃t∈zck d c s,u=(t,t,decide (2≤(zck d c s).count t)))∨∃t∈zck d c s,∃v∈zck d c s,t≠v∧u=ziu t v true:=by
 show u∈rawE (canOn d c s)↔_;rw [rawE_mem (canOn_nodup d c s)];have sat2:∀n:Nat,decide ((1:Int)<sat n)=decide (2≤n):=fun n=>by
  rw [Bool.eq_iff_iff,decide_eq_true_iff,decide_eq_true_iff];unfold sat;omega
 refine or_congr ⟨?_, ?_⟩ ⟨?_, ?_⟩
 ·rintro ⟨p,hp,rfl⟩;obtain ⟨t,h1,rfl⟩:=List.mem_map.1 hp;exact ⟨t,zcq.1 h1,by rw [← sat2]⟩
 ·rintro ⟨t,h1,rfl⟩;exact ⟨_,List.mem_map.2 ⟨t,zcq.2 h1,rfl⟩,by rw [← sat2]⟩
 ·rintro ⟨p,hp,q,hq,hne,rfl⟩;obtain ⟨t,h1,rfl⟩:=List.mem_map.1 hp;obtain ⟨v,h2,rfl⟩:=List.mem_map.1 hq;exact ⟨t,zcq.1 h1,v,zcq.1 h2,hne,rfl⟩
 ·rintro ⟨t,h1,v,h2,hne,rfl⟩;exact ⟨_,List.mem_map.2 ⟨t,zcq.2 h1,rfl⟩,_,List.mem_map.2 ⟨v,zcq.2 h2,rfl⟩,hne,rfl⟩
theorem zlf {d:List SNode} {c:Int} {s s':List SItem} {u:TW}:u∈rawT d (s,s',true) c↔∃t∈zck d c s,∃v∈zck d c s',u=ziu t v true:=by
 show u∈(canOn d c s').flatMap _↔_;rw [List.mem_flatMap];constructor
 ·rintro ⟨q,hq,hu⟩;obtain ⟨p,hp,rfl⟩:=List.mem_map.1 hu;exact ⟨p.1,zi5.1 ⟨p.2,hp⟩,q.1,zi5.1 ⟨q.2,hq⟩,rfl⟩
 ·rintro ⟨t,ht,v,hv,rfl⟩;obtain ⟨m,hm⟩:=zi5.2 ht;obtain ⟨n,hn⟩:=zi5.2 hv;exact ⟨_,hn,List.mem_map.2 ⟨_,hm,rfl⟩⟩
theorem zm7 (d:List SNode):∀(x:TW) (c:Int) (y:TW),(c,y)∈(twiS d).ways x→InR .u8 c∧y∈rawT d x c:=fun x c y h=>by
 obtain ⟨b,h1,h2⟩:=List.mem_flatMap.1 h;obtain ⟨z,h3,h4⟩:=List.mem_map.1 h2;cases h4;exact ⟨bytS_u8 h1,byT_mem.1 h3⟩
abbrev stpT (d:List SNode) (x:TW) (c:Int) (y:TW):Prop:=InR .u8 c∧y∈rawT d x c
abbrev endL (d:List SNode) (w:List Int):List (List SItem):=zcz d w (stS d)
theorem endL_snoc (d:List SNode) (w:List Int) (c:Int):endL d (w++[c])=(endL d w).flatMap (zck d c):=zlr d c w _
def AtT (d:List SNode) (w:List Int) (x:TW):Prop:=(x.2.2=false∧x.1=x.2.1∧x.1∈endL d w)∨(x.2.2=true∧Two (endL d w) x.1 x.2.1)
theorem two_ord {L:List (List SItem)} {t u:List SItem} (h:Two L t u):Two L (ziu t u true).1 (ziu t u true).2.1∧(ziu t u true).2.2=true:=by
 rcases znt t u true with e | e <;> rw [e]
 ·exact ⟨h,rfl⟩
 ·exact ⟨h.symm,rfl⟩
theorem rnT_at {d:List SNode} {w:List Int} {x:TW} (h:Rn (stpT d) (stS d,stS d,false) w x):AtT d w x∧∀c∈w,InR .u8 c:=by
 induction h with
 | nil=>exact ⟨.inl ⟨rfl,rfl,by simp [zcz]⟩,fun c hc=>by cases hc⟩
 | snoc h hs ih=>
  rename_i w x c y
  obtain ⟨h1,h2⟩:=hs;refine ⟨?_,fun b hb=>?_⟩
  ·obtain ⟨s,s',ap⟩:=x;unfold AtT;rw [endL_snoc];rcases ih.1 with ⟨a1,a2,a3⟩ | ⟨a1,a2⟩
   ·simp only at a1 a2 a3;subst a1;subst a2;rcases znp.1 h2 with ⟨t,ht,rfl⟩ | ⟨t,ht,v,hv,hne,rfl⟩
    ·by_cases hc:2≤(zck d c s).count t
     ·exact .inr ⟨by simp [hc],two_in a3 ⟨ht,ht,fun _=>hc⟩⟩
     ·exact .inl ⟨by simp only [hc,decide_false],rfl,List.mem_flatMap.2 ⟨s,a3,ht⟩⟩
    ·have:=two_ord (two_in a3 (⟨ht,hv,fun e=>absurd e hne⟩:Two (zck d c s) t v));exact .inr ⟨this.2,this.1⟩
   ·simp only at a1 a2;subst a1;obtain ⟨t,ht,v,hv,rfl⟩:=zlf.1 h2;have:=two_ord (two_flat a2 ht hv);exact .inr ⟨this.2,this.1⟩
  ·rcases List.mem_append.1 hb with hb | hb
   ·exact ih.2 b hb
   ·rw [List.mem_singleton.1 hb];exact h1
theorem at_rnT {d:List SNode} (w:List Int) (hw:∀c∈w,InR .u8 c):(∀p∈endL d w,Rn (stpT d) (stS d,stS d,false) w (p,p,false)∨Rn (stpT d) (stS d,stS d,false) w (p,p,true))∧∀p q,Two (endL d w) p q→Rn (stpT d) (stS d,stS d,false) w (ziu p q true):=by
 refine zp3 (p:=fun w=>(∀c∈w,InR .u8 c)→(∀p∈endL d w,Rn (stpT d) (stS d,stS d,false) w (p,p,false)∨Rn (stpT d) (stS d,stS d,false) w (p,p,true))∧∀p q,Two (endL d w) p q→Rn (stpT d) (stS d,stS d,false) w (ziu p q true)) (fun _=>⟨fun p hp=>?_,fun p q h=>?_⟩) (fun w c ih hw=>?_) w hw
 ·rw [show endL d []=[stS d] from rfl,List.mem_singleton] at hp;subst hp;exact .inl .nil
 ·obtain ⟨h1,h2,h3⟩:=h;rw [show endL d []=[stS d] from rfl,List.mem_singleton] at h1 h2;subst h1;have:=h3 h2.symm;rw [show endL d []=[stS d] from rfl] at this;simp at this
 ·obtain ⟨i1,i2⟩:=ih fun b hb=>hw b (by simp [hb]);have hc:=hw c (by simp);rw [endL_snoc];refine ⟨fun t ht=>?_,fun t u h=>?_⟩
  ·obtain ⟨p,hp,ht⟩:=List.mem_flatMap.1 ht;rcases i1 p hp with h | h
   ·have hs:stpT d (p,p,false) c (t,t,decide (2≤(zck d c p).count t)):=⟨hc,znp.2 (.inl ⟨t,ht,rfl⟩)⟩;have:=Rn.snoc h hs
    by_cases e:2≤(zck d c p).count t
    ·rw [decide_eq_true e] at this;exact .inr this
    ·rw [decide_eq_false e] at this;exact .inl this
   ·have hs:stpT d (p,p,true) c (ziu t t true):=⟨hc,zlf.2 ⟨t,ht,t,ht,rfl⟩⟩;have:=Rn.snoc h hs;rw [ordT_self] at this;exact .inr this
  ·rcases two_split h with ⟨p,q,h2,ht,hu⟩ | ⟨p,hp,h2⟩
   ·have hr:=i2 p q h2;have hs:stpT d (ziu p q true) c (ziu t u true):=by
     refine ⟨hc, ?_⟩;rcases znt p q true with e | e <;> rw [e]
     ·exact zlf.2 ⟨t,ht,u,hu,rfl⟩
     ·exact zlf.2 ⟨u,hu,t,ht,ordT_comm _ _ _⟩
    exact .snoc hr hs
   ·rcases i1 p hp with h3 | h3
    ·by_cases e:t=u
     ·subst e;have hs:stpT d (p,p,false) c (t,t,decide (2≤(zck d c p).count t)):=⟨hc,znp.2 (.inl ⟨t,h2.1,rfl⟩)⟩;rw [decide_eq_true (h2.2.2 rfl)] at hs;rw [ordT_self];exact .snoc h3 hs
     ·exact .snoc h3 ⟨hc,znp.2 (.inr ⟨t,h2.1,u,h2.2.1,e,rfl⟩)⟩
    ·exact .snoc h3 ⟨hc,zlf.2 ⟨t,h2.1,u,h2.2.1,rfl⟩⟩
theorem hitT_at {d:List SNode} {w:List Int} (hw:∀c∈w,InR .u8 c):(∃x,Rn (stpT d) (stS d,stS d,false) w x∧hitT d x=true)↔2≤wN d w:=by
 have e:wN d w=((endL d w).flatMap fun s=>List.replicate (endN d s) ()).count ():=by
  unfold wN zbr;rw [wyn_ends];show zb3 _ (endL d w)=_;generalize endL d w=L
  induction L with
  | nil=>rfl
  | cons s L ih=>
   rw [List.flatMap_cons,List.count_append,List.count_replicate_self,← ih];simp [zb3,endN]
 have sp:∀n:Nat,(0:Int)<sat n↔0<n:=fun n=>by unfold sat;omega
 have sp2:∀n:Nat,(1:Int)<sat n↔2≤n:=fun n=>by unfold sat;omega
 rw [e];constructor
 ·rintro ⟨x,hx,hh⟩;obtain ⟨s,s',ap⟩:=x;rcases (rnT_at hx).1 with ⟨a1,a2,a3⟩ | ⟨a1,a2⟩
  ·simp only at a1 a2 a3;subst a1;subst a2;simp only [hitT,Bool.false_eq_true,if_false,decide_eq_true_iff,sp2] at hh;exact (two_in (f:=fun s=>List.replicate (endN d s) ()) a3 (t:=()) (u:=()) ⟨List.mem_replicate.2 ⟨by omega,rfl⟩,List.mem_replicate.2 ⟨by omega,rfl⟩,fun _=>by rw [List.count_replicate_self];exact hh⟩).2.2 rfl
  ·simp only at a1 a2;subst a1;simp only [hitT,if_true,Bool.and_eq_true,decide_eq_true_iff,sp] at hh;exact (two_flat (f:=fun s=>List.replicate (endN d s) ()) a2 (t:=()) (u:=()) (List.mem_replicate.2 ⟨by omega,rfl⟩) (List.mem_replicate.2 ⟨by omega,rfl⟩)).2.2 rfl
 ·intro h;obtain ⟨i1,i2⟩:=at_rnT (d:=d) w hw;rcases zp7 h with ⟨p,hp,h2⟩ | ⟨p,q,h2,h3,h4⟩
  ·rw [List.count_replicate_self] at h2;rcases i1 p hp with h3 | h3
   ·exact ⟨_,h3,by simp [hitT,sp2,h2]⟩
   ·exact ⟨_,h3,by simp [hitT];omega⟩
  ·have k3:=(List.mem_replicate.1 h3).1;have k4:=(List.mem_replicate.1 h4).1;refine ⟨_,i2 p q h2, ?_⟩;rcases znt p q true with e | e <;> rw [e] <;> simp [hitT] <;> omega
theorem accT_at {d:List SNode} {i j:Nat} {q:Qb TW} (h:(zdq (twiS d) i)[j]?=some q):AtT d q.2.2.2 q.1∧(∀c∈q.2.2.2,InR .u8 c)∧q.2.2.2.length≤j:=by
 obtain ⟨h1,h2⟩:=rnT_at (accB_rn (S:=twiS d) (zm7 d) i j q h);exact ⟨h1,h2,(zi6 _ _).wlen j q h⟩
theorem AtT.mem {d:List SNode} {w:List Int} {x:TW} (h:AtT d w x):x.1∈aftS d w∧x.2.1∈aftS d w:=by
 rw [zm1,zm1];rcases h with ⟨_,h2,h3⟩ | ⟨_,h2⟩
 ·exact ⟨h3,by rw [← h2];exact h3⟩
 ·exact ⟨h2.1,h2.2.1⟩
theorem twi_tells {d:List SNode} (h:Rt d) (hl:d.length≤24) (ht:Txt d) {b:Int} {v:Int × List Int × Int × Option TW} (ho:OutB (twiS d) b v):
  (v.1=1→v.2.1=[]∧∀w,(∀c∈w,InR .u8 c)→wN d w<2)∧(v.1=2→(∀c∈v.2.1,InR .u8 c)∧2≤wN d v.2.1∧∀w,(∀c∈w,InR .u8 c)→2≤wN d w→v.2.1.length≤w.length)∧(v.1=1∨v.1=2∨v.1=3):=by
 obtain ⟨h1,h2,h3⟩:=ho.tells (B:=fun c=>InR .u8 c) (zm7 d) fun i _ q hq c y hc hs=>by
  obtain ⟨j,hj⟩:=List.getElem?_of_mem hq;obtain ⟨q1,q2,_⟩:=accT_at hj;obtain ⟨m1,m2⟩:=q1.mem;have s1:=(zj7 h hl ht q2 m1).1;have s2:=(zj7 h hl ht q2 m2).1;obtain ⟨x,x1,x2,x3⟩:=bytC_of (zrn d [q.1.1,q.1.2.1]) hc;have hx8:=bytC_u8 x1;have e1:zck d x q.1.1=zck d c q.1.1:=step_like s1 hx8 hc fun z hz=>x3 z (List.mem_flatMap.2 ⟨q.1.1,by simp,hz⟩);have e2:zck d x q.1.2.1=zck d c q.1.2.1:=step_like s2 hx8 hc fun z hz=>x3 z (List.mem_flatMap.2 ⟨q.1.2.1,by simp,hz⟩);refine ⟨x,List.mem_flatMap.2 ⟨x,x1,List.mem_map.2 ⟨y,byT_mem.2 ?_,rfl⟩⟩⟩;have e:rawT d q.1 x=rawT d q.1 c:=by unfold rawT canOn;rw [e1,e2]
  rw [e];exact hs.2
 refine ⟨fun k=>⟨(h1 k).1,fun w hw=>?_⟩,fun k=>?_,h3⟩
 ·rcases Nat.lt_or_ge (wN d w) 2 with hlt | hge
  ·exact hlt
  ·obtain ⟨x,hx,hh⟩:=(hitT_at hw).2 hge;have:=(h1 k).2 w x hw hx;rw [show (twiS d).hit x=hitT d x from rfl,hh] at this;cases this
 ·obtain ⟨x,x1,x2,x3,x4⟩:=h2 k;obtain ⟨_,y2⟩:=rnT_at x3;refine ⟨y2,(hitT_at y2).1 ⟨x,x3,x2⟩,fun w hw hge=>?_⟩;obtain ⟨z,hz,hh⟩:=(hitT_at hw).2 hge;exact x4 w z hw hz hh
end Go.Proofs.YtkbboemafklkkaaGreatDoor.V
namespace Go.Proofs.YtkbboemafklkkaaGreatDoor.V
open Go
set_option linter.unusedVariables false
theorem zol {α:Type} {xs:List α} {i:Nat} {x:α} (h:xs[i]?=some x):at? xs (i:Int)=some x:=by rw [zbl];exact h
theorem rev_in {l:List Int} (hl:l.length≤1000):zq l l.reverse:=by
 refine ⟨zh (by omega) (by omega), ?_⟩;have key:=zhq (P:=fun k (s:List Int) v=>zq.l1 (zq.j1 l.reverse) k s v ((l.length:Int)-1-v)) l.length
  (fun i s=>s.length=l.length∧∀k,k<l.length→s[k]?=if k<i∨l.length≤k+i then l[l.length-1-k]? else l[k]?) ?_ ?_ l ⟨rfl,fun k hk=>by rw [if_neg (by omega)]⟩
 ·simpa using key
 ·rintro i s hi ⟨h1,h2⟩
  by_cases hij:i<l.length-1-i
  ·have hj:(l.length:Int)-1-(i:Int)=((l.length-1-i:Nat):Int):=by omega
   have e1:s[i]?=some l[i]:=by rw [h2 i hi,if_neg (by omega)];exact List.getElem?_eq_getElem hi
   have hjl:l.length-1-i<l.length:=by omega
   have e2:s[l.length-1-i]?=some l[l.length-1-i]:=by rw [h2 _ hjl,if_neg (by omega)];exact List.getElem?_eq_getElem hjl
   refine .inr ⟨(s.set i l[l.length-1-i]).set (l.length-1-i) l[i],⟨by simp [h1],fun k hk=>?_⟩,fun k hk=>⟨fun _=>⟨_,by rw [hj];exact zol e2,_,zol e1,_,zol e1,l[l.length-1-i], ?_,zh (by omega) (by omega),zh (by omega) (by omega), ?_⟩,fun h=>absurd (by omega) (df h)⟩⟩
   ·rw [List.getElem?_set]
    by_cases hk1:l.length-1-i=k
    ·subst hk1;rw [if_pos rfl,if_pos (by simp [h1];omega),if_pos (by omega)];rw [show l.length-1-(l.length-1-i)=i by omega];exact (List.getElem?_eq_getElem hi).symm
    ·rw [if_neg hk1,List.getElem?_set]
     by_cases hk2:i=k
     ·subst hk2;rw [if_pos rfl,if_pos (by rw [h1];exact hi),if_pos (by omega)];exact (List.getElem?_eq_getElem hjl).symm
     ·rw [if_neg hk2,h2 k hk]
      by_cases hk3:k<i∨l.length≤k+i
      ·rw [if_pos hk3,if_pos (by omega)]
      ·rw [if_neg hk3,if_neg (by omega)]
   ·rw [hj];rw [Int.toNat_natCast,zbl,List.getElem?_set,if_neg (by omega)];exact e2
   ·rw [show (l.length:Int)-1-((i:Int)+1)=(l.length:Int)-1-(i:Int)-1 by omega] at hk;rw [hj] at hk ⊢;rw [Int.toNat_natCast,Int.toNat_natCast];exact hk
  ·refine .inl fun k=>⟨fun h=>absurd (dt h) (by omega),fun _=>?_⟩;show l.reverse=s;refine List.ext_getElem? fun k=>?_
   by_cases hk:k<l.length
   ·rw [List.getElem?_reverse hk,h2 k hk];split
    ·rfl
    ·rw [show l.length-1-k=k by omega]
   ·rw [List.getElem?_eq_none (by simp;omega),List.getElem?_eq_none (by omega)]
 ·rintro s ⟨h1,h2⟩ k;refine ⟨fun h=>absurd (dt h) (by omega),fun _=>?_⟩;show l.reverse=s;refine List.ext_getElem? fun k=>?_
  by_cases hk:k<l.length
  ·rw [List.getElem?_reverse hk,h2 k hk,if_pos (by omega)]
  ·rw [List.getElem?_eq_none (by simp;omega),List.getElem?_eq_none (by omega)]
def mdT (q:Qb TW):Smade_scantling_twice_two_search:=(q.1,q.2.1,q.2.2.1)
theorem wordT_in {S:Sch TW} {acc:List (Qb TW)} (h:GoodB S acc) {i:Nat} {q:Qb TW} (hi:acc[i]?=some q) (hl:q.2.2.2.length≤1000):zy (acc.map mdT) (i:Int) q.2.2.2:=by
 have hM:∀(j:Nat) (x:Qb TW),acc[j]?=some x→at? (acc.map mdT) (j:Int)=some (mdT x):=fun j x hx=>zol (by rw [List.getElem?_map,hx];rfl);have:=run (P:=fun k (s:Int × List Int)=>zy.l1 (acc.map mdT) (zy.j1 q.2.2.2) k s.1 s.2) (fun s=>∃(j:Nat) (x:Qb TW),s.1=(j:Int)∧acc[j]?=some x∧x.2.2.2++s.2.reverse=q.2.2.2) (fun s=>s.1.toNat) ?_ ((i:Int),[]) ⟨i,q,rfl,hi,by simp⟩
 ·exact this
 ·rintro ⟨v,out⟩ ⟨j,x,h1,hx,hwo⟩;simp only at h1 hwo;subst h1;have hlen:out.length≤1000:=by
   have:=congrArg List.length hwo;simp at this;omega
  rcases h.par j x hx with ⟨h0,hx0⟩ | ⟨p,q',h2,h3,h4,h5,_⟩
  ·subst h0;subst hx0;refine .inl fun k=>⟨_,hM 0 _ hx,fun h=>absurd (dt h) (by simp [mdT]),fun _=>?_⟩;refine ⟨out.reverse,rev_in hlen, ?_⟩;simpa using hwo.symm
  ·refine .inr ⟨((p:Int),out++[x.2.2.1]),⟨p,q',rfl,h4, ?_⟩,by simp only;omega,fun k hk=>⟨_,hM j x hx,fun _=>⟨_,hM j x hx,by simp;omega,_,hM j x hx, ?_⟩,fun h=>absurd (by simp [mdT,h2]) (df h)⟩⟩
   ·rw [← hwo,h5];simp
   ·simp only [mdT];rw [h2];exact hk
def SnT (kf:TW→Str) (seen:List (Str × Bool)) (acc:List (Qb TW)):Prop:=∀z,zd8 seen (kf z) false=hasQ acc z
theorem snT_put {kf:TW→Str} (hinj:∀a b,kf a=kf b→a=b) {seen:List (Str × Bool)} {acc:List (Qb TW)} (h:SnT kf seen acc) (x:TW) (q:Int × Int × List Int):SnT kf (zf6 seen (kf x) true) (acc++[(x,q)]):=fun z=>by
 rw [zn2,h z,hasQ_app]
 by_cases hz:x=z
 ·subst hz;simp
 ·rw [if_neg (fun e=>hz (hinj _ _ e))];simp [hz]
theorem roundT {S:Sch TW} {s_:SSpace_scantling_twice_two_search} {kf:TW→Str} (hinj:∀a b,kf a=kf b→a=b) {i:Nat} {q0:Qb TW} {acc:List (Qb TW)} {seen:List (Str × Bool)} (hs:SnT kf seen acc)
  (hkey:∀e∈S.ways q0.1,s_.2.1 (e.2,kf e.2)) (hlen:acc.length+(S.ways q0.1).length≤2000000000) (X:List Smade_scantling_twice_two_search→List (Str × Bool)→Prop)
  (hX:∀seen',SnT kf seen' (rdB S i q0 acc)→X ((rdB S i q0 acc).map mdT) seen'):∃k,zf.l2 s_ (i:Int) (S.ways q0.1) X k (acc.map mdT) seen 0:=by
 have hlj:∀j,(((S.ways q0.1).take j).foldl (stB i q0.2.2.2) acc).length≤2000000000:=fun j=>by
  have h1:=zob i q0.2.2.2 ((S.ways q0.1).take j) acc;have h2:((S.ways q0.1).take j).length≤(S.ways q0.1).length:=by rw [List.length_take];omega
  omega
 refine zhq (P:=fun k (s:List Smade_scantling_twice_two_search × List (Str × Bool)) v=>zf.l2 s_ (i:Int) (S.ways q0.1) X k s.1 s.2 v) (S.ways q0.1).length
  (fun j s=>s.1=(((S.ways q0.1).take j).foldl (stB i q0.2.2.2) acc).map mdT∧SnT kf s.2 (((S.ways q0.1).take j).foldl (stB i q0.2.2.2) acc)) ?_ ?_ (acc.map mdT,seen) ⟨rfl,hs⟩
 ·rintro j ⟨ls,sn⟩ hj ⟨h1,h2⟩;simp only at h1 h2;subst h1;have hk:=hkey _ (List.getElem_mem hj);have hnext:((S.ways q0.1).take (j+1)).foldl (stB i q0.2.2.2) acc=stB i q0.2.2.2 (((S.ways q0.1).take j).foldl (stB i q0.2.2.2) acc) (S.ways q0.1)[j]:=by
   rw [List.take_succ_eq_append_getElem hj,List.foldl_append];rfl
  rw [hnext];have hlen2:=hlj j;have hll:(S.ways q0.1).length≤2000000000:=by omega
  generalize ((S.ways q0.1).take j).foldl (stB i q0.2.2.2) acc=A at *;cases hin:hasQ A (S.ways q0.1)[j].2
  ·refine .inr ⟨(A.map mdT++[((S.ways q0.1)[j].2,(i:Int),(S.ways q0.1)[j].1)],zf6 sn (kf (S.ways q0.1)[j].2) true),⟨?_, ?_⟩,fun k h=>⟨fun _=>⟨_,zol (List.getElem?_eq_getElem hj),kf (S.ways q0.1)[j].2,hk,fun _=>⟨by simp;omega,zh (by omega) (by omega),h⟩,fun hc=>?_⟩,fun h=>absurd (by omega) (df h)⟩⟩
   ·simp only [stB,hin,Bool.false_eq_true,if_false,List.map_append];rfl
   ·simp only [stB,hin,Bool.false_eq_true,if_false];exact snT_put hinj h2 _ _
   ·rw [h2,hin] at hc;cases hc
  ·refine .inr ⟨(A.map mdT,sn),⟨?_, ?_⟩,fun k h=>⟨fun _=>⟨_,zol (List.getElem?_eq_getElem hj),kf (S.ways q0.1)[j].2,hk,fun hc=>?_,fun _=>⟨zh (by omega) (by omega),h⟩⟩,fun h=>absurd (by omega) (df h)⟩⟩
   ·simp only [stB,hin,if_true]
   ·simp only [stB,hin,if_true];exact h2
   ·rw [h2,hin] at hc;cases hc
 ·rintro ⟨ls,sn⟩ ⟨h1,h2⟩ k;simp only at h1 h2;rw [List.take_length] at h1 h2;subst h1;exact ⟨fun h=>absurd (dt h) (by omega),fun _=>hX sn h2⟩
def zoa (v:Int × List Int × Int × Option TW):SFound_scantling_twice_two_search:=((v.1,v.2.1,[],0,0,0,v.2.2.1),v.2.2.2.getD ([],[],false))
theorem walkT_in {S:Sch TW} {kf:TW→Str} (hinj:∀a b,kf a=kf b→a=b) {KP:TW × Str→Prop} {WP:TW × List SOn_scantling_twice_two_search→Prop} {HP:TW × Bool→Prop} {b:Int} (hb:b≤1000) {M:Nat} (hM:1+M*b.toNat≤2000000000) (h0:KP (S.start,kf S.start))
  (hh:∀(i:Nat) q,(i:Int)<b→(zdq S i)[i]?=some q→HP (q.1,S.hit q.1))
  (hw:∀(i:Nat) q,(i:Int)<b→(zdq S i)[i]?=some q→S.hit q.1=false→WP (q.1,S.ways q.1)∧(S.ways q.1).length≤M∧∀e∈S.ways q.1,KP (e.2,kf e.2)):
  zf (S.start,KP,WP,HP) b (zoa (znb S b)):=by
 refine ⟨_,h0, ?_⟩;refine uptoK (P:=fun k (s:List Smade_scantling_twice_two_search × List (Str × Bool)) v=>zf.l1 (S.start,KP,WP,HP) b (zoa (znb S b)) _ k ((0,[],[],0,0,0,0),([],[],false)) s.1 s.2 v) b.toNat
  (fun i s=>s.1=(zdq S i).map mdT∧SnT kf s.2 (zdq S i)∧znb S b=verdB S b (b.toNat+1-i) i∧(zdq S i).length≤1+M*i) ?_ ?_ ([(S.start, -1,0)],_) ⟨rfl,fun z=>?_,rfl,by simp [zdq]⟩
 ·rintro i ⟨ls,sn⟩ k hi ⟨h1,h2,h3,h4⟩ hk;simp only at h1 h2 h3 h4;subst h1;have hib:(i:Int)<b:=by omega
  obtain ⟨f,hf⟩:∃f,b.toNat+1-i=f+1:=⟨b.toNat-i,by omega⟩;rw [hf] at h3;unfold verdB at h3;cases hq:(zdq S i)[i]? with
  | none=>
   rw [hq] at h3;simp only at h3;have hl:=List.getElem?_eq_none_iff.1 hq;refine ⟨fun h=>absurd (dt h) (by simp;omega),fun _=>?_⟩;show zoa _=_;rw [h3];simp [zoa]
  | some q=>
   rw [hq] at h3;simp only at h3;have hl:=(List.getElem?_eq_some_iff.1 hq).1;rw [if_neg (by omega)] at h3;have hMi:M*(i+1)≤M*b.toNat:=Nat.mul_le_mul_left _ (by omega);rw [Nat.mul_succ] at hMi;refine ⟨fun _=>⟨fun h=>absurd (dt h) (by omega),fun _=>⟨mdT q,zol (by rw [List.getElem?_map,hq];rfl),_,hh i q hib hq,fun hhit=>?_,fun hno=>?_⟩⟩,fun h=>absurd (by simp;omega) (df h)⟩
   ·have hhit':S.hit q.1=true:=hhit;rw [if_pos hhit'] at h3;have hg:=zi6 S i;have hwl:=hg.wlen i q hq;refine ⟨q.2.2.2,wordT_in hg hq (by omega),zh (by omega) (by omega), ?_⟩;rw [h3];rfl
   ·have hno':S.hit q.1=false:=hno;rw [if_neg (by rw [hno'];simp)] at h3;obtain ⟨w1,w2,w3⟩:=hw i q hib hq hno';refine ⟨_,w1,roundT (S:=S) (q0:=q) (kf:=kf) hinj h2 w3 (by omega) _ fun seen' hs'=>?_⟩;have hn:=zho hq;refine ⟨zh (by omega) (by omega),hk (_,seen') ⟨by rw [hn],by rw [hn];exact hs', ?_, ?_⟩⟩
    ·rw [h3,show b.toNat+1-(i+1)=f by omega]
    ·rw [hn];have:=zob i q.2.2.2 (S.ways q.1) (zdq S i);unfold rdB;rw [Nat.mul_succ];omega
 ·rintro ⟨ls,sn⟩ ⟨h1,h2,h3,h4⟩ k;simp only at h1 h2 h3 h4;subst h1;rw [show b.toNat+1-b.toNat=0+1 by omega] at h3;unfold verdB at h3;cases hq:(zdq S b.toNat)[b.toNat]? with
  | none=>
   rw [hq] at h3;simp only at h3;have hl:=List.getElem?_eq_none_iff.1 hq;refine ⟨fun h=>absurd (dt h) (by simp;omega),fun _=>?_⟩;show zoa _=_;rw [h3];simp [zoa]
  | some q=>
   rw [hq] at h3;simp only at h3;have hl:=(List.getElem?_eq_some_iff.1 hq).1;rw [if_pos (by omega)] at h3;refine ⟨fun _=>⟨fun _=>?_,fun h=>absurd (by omega) (df h)⟩,fun h=>absurd (by simp;omega) (df h)⟩;rw [h3];rfl
 ·show zd8 (zf6 [] (kf S.start) true) (kf z) false=_;rw [zn2,zq5]
  by_cases hz:S.start=z
  ·subst hz;simp [zdq,hasQ]
  ·rw [if_neg (fun e=>hz (hinj _ _ e))];simp [zdq,hasQ,hz]
theorem keyN_low (l:List Int):∀c∈zkq l,32≤c.toNat∧c.toNat≤57∧c≠33∧c≠47:=by
 induction l with
 | nil=>intro c hc;simp [zkq] at hc
 | cons z l ih=>
  intro c hc;rw [zi1,List.mem_append,List.mem_cons] at hc;rcases hc with h | rfl | h
  ·have one:∀(n:Nat),∀c∈Lib.decDigits n,32≤c.toNat∧c.toNat≤57∧c≠33∧c≠47:=fun n c hc=>by
    have:=dec_ge _ c hc;exact ⟨by omega,this.2,(fun e=>by subst e;exact absurd this.1 (by decide)),fun e=>by subst e;exact absurd this.1 (by decide)⟩
   unfold Lib.itoa at h;split at h
   ·rcases List.mem_cons.1 h with h | h
    ·subst h;decide
    ·exact one _ c h
   ·exact one _ c h
  ·decide
  ·exact ih c h
theorem cutC {k:UInt8} {a b:List UInt8} (ha:∀c∈a,c≠k) (hb:∀c∈b,c≠k) {u v:List UInt8} (h:a++k::u=b++k::v):a=b∧u=v:=by
 induction a generalizing b with
 | nil=>
  cases b with
  | nil=>exact ⟨rfl,(List.cons.inj h).2⟩
  | cons y b=>exact absurd (List.cons.inj h).1.symm (hb y (by simp))
 | cons x a ih=>
  cases b with
  | nil=>exact absurd (List.cons.inj h).1 (ha x (by simp))
  | cons y b=>
   obtain ⟨h1,h2⟩:=List.cons.inj h;obtain ⟨h3,h4⟩:=ih (fun c hc=>ha c (by simp [hc])) (fun c hc=>hb c (by simp [hc])) h2;exact ⟨by rw [h1,h3],h4⟩
theorem sm_nums {d:List SNode} {s:List SItem} (h2:Sm d s):∀x∈s,∀z∈zdj x,InR .i64 z:=fun x hx z hz=>by
 obtain ⟨a,b,c,e⟩:=itR_all h2.rt.toROk (by have:=h2.len;omega) h2.txt h2.form x hx;simp only [zdj,List.mem_cons,List.not_mem_nil,or_false] at hz;rcases hz with rfl | rfl | rfl | rfl
 ·exact a
 ·exact b
 ·exact c
 ·exact e
def stepK (d:List SNode) (c:Int) (s:List SItem):List (List SItem):=(zqg (hds d s)).filterMap fun t=>if (zx d t c).2=true then some (zx d t c).1 else none
theorem stepK_mem {d:List SNode} {c:Int} {s t:List SItem} (h:t∈zck d c s):t∈stepK d c s:=by
 unfold zck at h;obtain ⟨u,h1,h2⟩:=List.mem_filterMap.1 h;exact List.mem_filterMap.2 ⟨u,zcq.2 h1,h2⟩
theorem canOn_len {d:List SNode} (c:Int) {s:List SItem} {U:List (List SItem)} (h:∀t∈zck d c s,t∈U):(canOn d c s).length≤U.length:=by
 unfold canOn;rw [List.length_map];exact setOf_len h
theorem canOn_few {d:List SNode} (h:Rt d) (c:Int) (s:List SItem):(canOn d c s).length≤s.length*(d.length+1)+1:=by
 refine Nat.le_trans (canOn_len c (U:=stepK d c s) fun t ht=>stepK_mem ht) ?_;have h1:=canB_len h s;unfold canB at h1;rw [List.length_map] at h1;exact Nat.le_trans (List.length_filterMap_le ..) h1
structure Tw (d:List SNode) (b:Int):Prop where
 rt:Rt d
 len:d.length≤24
 txt:Txt d
 few:∃N:Nat,N≤2800∧1+N*N*256*b.toNat≤2000000000∧∀w,(∀c∈w,InR .u8 c)→∀p∈aftS d w,∀c,InR .u8 c→(canOn d c p).length≤N
theorem zmn {d:List SNode} (h:Rt d) (hl:d.length≤17) (ht:Txt d) {b:Int} (hb:b≤10):Tw d b:=by
 refine ⟨h,by omega,ht,433,by omega,by omega,fun w hw p hp c _=>?_⟩;have h1:=canOn_few h c p;have h2:=(zj7 h (by omega) ht hw hp).2;have h3:p.length*(d.length+1)≤24*18:=Nat.mul_le_mul h2 (by omega);omega
theorem zmm {d:List SNode} (h:Rt d) (hl:d.length≤24) (ht:Txt d) (hn:NoFr d) {S:Nat} (hs:szN d d.length ((d.length:Int)-1)≤S) (hS:S≤2000) {b:Int} (hb:1+(S+1)*(S+1)*256*b.toNat≤2000000000):Tw d b:=by
 refine ⟨h,hl,ht,S+1,by omega,hb,fun w hw p hp c hc=>?_⟩;have h1:=canOn_len (d:=d) c (s:=p) (U:=aftS d (w++[c])) fun t ht2=>by rw [zk0,onS_mem];exact ⟨p,hp,ht2⟩
 have h2:=aftS_few h hn (w++[c]);omega
theorem zjo {a b:List SItem} {ap:Bool} (ha:a.length≤1000):zf8 a b ap (ziu a b ap):=by
 refine ⟨_,zea ha,fun h=>?_,fun h=>?_⟩
 ·unfold ziu;rw [if_pos (dt h)]
 ·unfold ziu;rw [if_neg (df h)]
theorem znz {d:List SNode} {s:List SItem} (h:Sm d s) {c:Int} (hc:InR .u8 c):zbi d s c (canOn d c s):=by
 obtain ⟨o,o1,_,o3⟩:=on_step h hc;rw [o3.uniq (canOn_can d c s)] at o1;exact o1
def rowE (B:List SBranch) (i:Nat):List TW:=match B[i]? with
 | some p=>(p.1,p.1,decide (1<p.2))::(B.take i).map fun q=>ziu p.1 q.1 true
 | none=>[]
theorem rawE_eq (B:List SBranch):rawE B=(List.range B.length).flatMap (rowE B):=rfl
theorem rowE_len {B:List SBranch} {i:Nat} (hi:i<B.length):(rowE B i).length≤B.length:=by
 unfold rowE;rw [List.getElem?_eq_getElem hi];simp only [List.length_cons,List.length_map,List.length_take];omega
theorem rowE_sum {B:List SBranch} {i:Nat} (hi:i≤B.length):((List.range i).flatMap (rowE B)).length≤B.length*i:=by
 have:=zi3 (rowE B) B.length (List.range i) fun j hj=>rowE_len (by have:=List.mem_range.1 hj;omega)
 rwa [List.length_range] at this
theorem zmr {n N:Nat} (hn:n≤N) {m:Nat} (hm:m≤N) (hN:N≤2800):n*m≤7840000:=by
 have:=Nat.mul_le_mul hn hm;have:=Nat.mul_le_mul hN hN;omega
theorem can_short {d:List SNode} {s:List SItem} (h:Sm d s) {c:Int} (hc:InR .u8 c):∀p∈canOn d c s,p.1.length≤1000:=fun p hp=>zhd h hc (zi5.1 ⟨p.2,hp⟩)
theorem ordT_mem (a b:List SItem) (ap:Bool):((ziu a b ap).1=a∨(ziu a b ap).1=b)∧((ziu a b ap).2.1=a∨(ziu a b ap).2.1=b):=by
 rcases znt a b ap with e | e <;> rw [e] <;> simp
theorem raw_mem {d:List SNode} {t u:TW} {c:Int} (h:u∈rawT d t c):(u.1∈zck d c t.1∨u.1∈zck d c t.2.1)∧(u.2.1∈zck d c t.1∨u.2.1∈zck d c t.2.1):=by
 obtain ⟨p,q,ap⟩:=t;cases ap
 ·rcases znp.1 h with ⟨t,ht,rfl⟩ | ⟨t,ht,v,hv,_,rfl⟩
  ·exact ⟨.inl ht,.inl ht⟩
  ·obtain ⟨h1,h2⟩:=ordT_mem t v true;exact ⟨.inl (by rcases h1 with e | e <;> rw [e] <;> assumption),.inl (by rcases h2 with e | e <;> rw [e] <;> assumption)⟩
 ·obtain ⟨t,ht,v,hv,rfl⟩:=zlf.1 h;obtain ⟨h1,h2⟩:=ordT_mem t v true;refine ⟨?_, ?_⟩
  ·rcases h1 with e | e <;> rw [e]
   ·exact .inl ht
   ·exact .inr hv
  ·rcases h2 with e | e <;> rw [e]
   ·exact .inl ht
   ·exact .inr hv
theorem zqw {d:List SNode} {t:TW} {c:Int} {N:Nat} (n1:(canOn d c t.1).length≤N) (n2:(canOn d c t.2.1).length≤N):(rawT d t c).length≤N*N:=by
 unfold rawT;split
 ·rw [rawE_eq];exact Nat.le_trans (rowE_sum (Nat.le_refl _)) (Nat.mul_le_mul n1 n1)
 ·refine Nat.le_trans (zi3 _ N _ fun q _=>?_) (Nat.mul_le_mul_left _ n2);rw [List.length_map];exact n1
theorem by_in {d:List SNode} {t:TW} {c:Int} {N:Nat} (hN:N≤2800) (h1:Sm d t.1) (h2:Sm d t.2.1) (hc:InR .u8 c) (n1:(canOn d c t.1).length≤N) (n2:(canOn d c t.2.1).length≤N):zo d t c (byT d t c):=by
 have hsrt:zd6 (rawT d t c) (byT d t c):=by
  refine ⟨fun b hb=>?_, ?_,rfl⟩
  ·obtain ⟨k1,k2⟩:=raw_mem hb;exact ⟨k1.elim (fun k=>zhd h1 hc k) fun k=>zhd h2 hc k,k2.elim (fun k=>zhd h1 hc k) fun k=>zhd h2 hc k⟩
  ·have:=zqw n1 n2;have:=zmr (Nat.le_refl N) (Nat.le_refl N) hN;omega
 have s1:=can_short h1 hc;have s2:=can_short h2 hc;refine ⟨_,znz h1 hc,fun hap=>?_,fun hap=>⟨_,znz h2 hc, ?_⟩⟩
 ·have hraw:rawT d t c=rawE (canOn d c t.1):=by
   unfold rawT;rw [if_pos (by simpa using hap)]
  rw [hraw,rawE_eq] at hsrt;generalize canOn d c t.1=B at *;have hlen:∀i,i≤B.length→((List.range i).flatMap (rowE B)).length≤7840000:=fun i hi=>Nat.le_trans (rowE_sum hi) (zmr n1 (by omega) hN);refine uptoK (P:=fun k out v=>zo.l1 B _ k out v) B.length (fun i out=>out=(List.range i).flatMap (rowE B)) ?_ ?_ _ (by simp)
  ·rintro i out k hi rfl hk;have hl:=hlen i (by omega);have hrow:rowE B i=(B[i].1,B[i].1,decide (1<B[i].2))::(B.take i).map fun q=>ziu B[i].1 q.1 true:=by unfold rowE;rw [List.getElem?_eq_getElem hi]
   refine ⟨fun _=>⟨_,zf0 hi,by simp only [List.length_singleton];omega,⟨by omega,by omega⟩, ?_⟩,fun h=>absurd (by omega) (df h)⟩;have htl:(B.take i).length=i:=by rw [List.length_take];omega
   refine uptoK (P:=fun k2 out v=>zo.l2 B (i:Int) B[i] _ k2 out v) i (fun j out=>out=((List.range i).flatMap (rowE B)++[(B[i].1,B[i].1,decide (1<B[i].2))])++((B.take i).take j).map fun q=>ziu B[i].1 q.1 true) ?_ ?_ _ (by simp)
   ·rintro j out k2 hj rfl hk2;have hj2:j<(B.take i).length:=by omega
    refine ⟨_,rfl,fun _=>⟨(B.take i)[j], ?_,_,zjo (s1 _ (List.getElem_mem hi)), ?_,zh (by omega) (by omega),hk2 _ ?_⟩,fun h=>?_⟩
    ·rw [Int.toNat_natCast];exact zf0 hj2
    ·simp only [List.length_append,List.length_singleton,List.length_map,List.length_take];have:=Nat.le_trans n1 hN;omega
    ·rw [List.take_succ_eq_append_getElem hj2,List.map_append,← List.append_assoc];rfl
    ·rw [Int.toNat_natCast,htl] at h;exact absurd (by omega) (df h)
   ·rintro out rfl k2;refine ⟨_,rfl,fun h=>?_,fun _=>⟨zh (by omega) (by omega),hk _ ?_⟩⟩
    ·rw [Int.toNat_natCast,htl] at h;exact absurd (dt h) (by omega)
    ·rw [List.range_succ,List.flatMap_append,List.flatMap_cons,List.flatMap_nil,List.append_nil,hrow,List.take_of_length_le (by omega),List.append_assoc];rfl
  ·rintro out rfl k;exact ⟨fun h=>absurd (dt h) (by omega),fun _=>⟨_,hsrt,rfl⟩⟩
 ·have hraw:rawT d t c=(canOn d c t.2.1).flatMap fun q=>(canOn d c t.1).map fun p=>ziu p.1 q.1 true:=by
   unfold rawT;rw [if_neg (by simpa using hap)]
  rw [hraw] at hsrt;generalize canOn d c t.1=A at *;generalize canOn d c t.2.1=B at *;have hlen:∀i,((B.take i).flatMap fun q=>A.map fun p=>ziu p.1 q.1 true).length≤7840000:=fun i=>by
   refine Nat.le_trans (zi3 _ A.length _ fun q _=>by rw [List.length_map];exact Nat.le_refl _) ?_;exact zmr n1 (by rw [List.length_take];omega) hN
  refine uptoK (P:=fun k out v=>zo.l3 A B _ k out v) B.length (fun i out=>out=(B.take i).flatMap fun q=>A.map fun p=>ziu p.1 q.1 true) ?_ ?_ _ (by simp)
  ·rintro i out k hi rfl hk;have hl:=hlen i;refine ⟨fun _=>⟨_,zf0 hi, ?_⟩,fun h=>absurd (by omega) (df h)⟩;refine uptoK (P:=fun k2 out v=>zo.l4 A B[i] _ k2 out v) A.length (fun j out=>out=((B.take i).flatMap fun q=>A.map fun p=>ziu p.1 q.1 true)++(A.take j).map fun p=>ziu p.1 B[i].1 true) ?_ ?_ _ (by simp)
   ·rintro j out k2 hj rfl hk2;refine ⟨fun _=>⟨_,zf0 hj,_,zjo (s1 _ (List.getElem_mem hj)), ?_,zh (by omega) (by omega),hk2 _ ?_⟩,fun h=>absurd (by omega) (df h)⟩
    ·simp only [List.length_append,List.length_singleton,List.length_map,List.length_take];omega
    ·rw [List.take_succ_eq_append_getElem hj,List.map_append,← List.append_assoc];rfl
   ·rintro out rfl k2;refine ⟨fun h=>absurd (dt h) (by omega),fun _=>⟨zh (by omega) (by omega),hk _ ?_⟩⟩;rw [List.take_succ_eq_append_getElem hi,List.flatMap_append,List.flatMap_cons,List.flatMap_nil,List.append_nil,List.take_length]
  ·rintro out rfl k;refine ⟨fun h=>absurd (dt h) (by omega),fun _=>⟨_, ?_,rfl⟩⟩;rw [List.take_length];exact hsrt
theorem bytes2_in {d:List SNode} {p q:List SItem} (h1:Sm d p) (h2:Sm d q):zi9 d [p,q] (bytS d [p,q]):=by
 have hs:∀s∈[p,q],Sm d s:=fun s hs=>by
  rcases List.mem_cons.1 hs with rfl | hs
  ·exact h1
  ·rw [List.mem_singleton.1 hs];exact h2
 have a1:=(clsA_in h1).2.2;have a2:=(clsA_in h2).2.2;have hl:=h1.len;have e:(zrn d [p,q]).length=(clsA d p).length+(clsA d q).length:=by simp [zrn]
 have ho:=once_few d [p,q];exact ⟨_,znj hs (by simp) (by omega),_,sets_Once_in (by omega) (by omega),_,zov (by omega),rfl⟩
theorem waysT_len {d:List SNode} {t:TW} {N:Nat} (n1:∀c,InR .u8 c→(canOn d c t.1).length≤N) (n2:∀c,InR .u8 c→(canOn d c t.2.1).length≤N) (i:Nat):(((zrp d t).take i).flatMap fun c=>(byT d t c).map fun u=>(c,u)).length≤N*N*256:=by
 refine Nat.le_trans (zi3 _ (N*N) _ fun c hc=>?_) (Nat.mul_le_mul_left _ ?_)
 ·have hu:InR .u8 c:=bytS_u8 (List.mem_of_mem_take hc);rw [List.length_map];unfold byT;rw [(zin _).length_eq];exact zqw (n1 c hu) (n2 c hu)
 ·rw [List.length_take];have:(zrp d t).length≤256:=bytC_len _;omega
theorem waysT_in {d:List SNode} {t:TW} {N:Nat} (hN:N≤2800) (h1:Sm d t.1) (h2:Sm d t.2.1) (n1:∀c,InR .u8 c→(canOn d c t.1).length≤N) (n2:∀c,InR .u8 c→(canOn d c t.2.1).length≤N):zu d t (waysT d t):=by
 have hNN:=zmr (Nat.le_refl N) (Nat.le_refl N) hN;have hlen:=waysT_len n1 n2;have hbl:(zrp d t).length≤256:=bytC_len _;refine ⟨_,bytes2_in h1 h2, ?_⟩;refine uptoK (P:=fun k out v=>zu.l1 d t (bytS d [t.1,t.2.1]) _ k out v) (zrp d t).length (fun i out=>out=((zrp d t).take i).flatMap fun c=>(byT d t c).map fun u=>(c,u)) ?_ ?_ _ (by simp)
 ·rintro i out k hi rfl hk;have hu:InR .u8 (zrp d t)[i]:=bytS_u8 (List.getElem_mem hi);have hl:=hlen i;have hbN:(byT d t (zrp d t)[i]).length≤N*N:=by
   unfold byT;rw [(zin _).length_eq];exact zqw (n1 _ hu) (n2 _ hu)
  refine ⟨fun _=>⟨_,zf0 hi,_,by_in hN h1 h2 hu (n1 _ hu) (n2 _ hu), ?_⟩,fun h=>absurd (by show (i:Int)<((zrp d t).length:Int);omega) (df h)⟩;refine uptoK (P:=fun k2 out v=>zu.l2 (zrp d t)[i] (byT d t (zrp d t)[i]) _ k2 out v) (byT d t (zrp d t)[i]).length (fun j out=>out=(((zrp d t).take i).flatMap fun c=>(byT d t c).map fun u=>(c,u))++((byT d t (zrp d t)[i]).take j).map fun u=>((zrp d t)[i],u)) ?_ ?_ _ (by simp)
  ·rintro j out k2 hj rfl hk2;refine ⟨fun _=>⟨_,zf0 hj, ?_,zh (by omega) (by omega),hk2 _ ?_⟩,fun h=>absurd (by omega) (df h)⟩
   ·simp only [List.length_append,List.length_singleton,List.length_map,List.length_take];omega
   ·rw [List.take_succ_eq_append_getElem hj,List.map_append,← List.append_assoc];rfl
  ·rintro out rfl k2;refine ⟨fun h=>absurd (dt h) (by omega),fun _=>⟨zh (by omega) (by omega),hk _ ?_⟩⟩;rw [List.take_succ_eq_append_getElem hi,List.flatMap_append,List.flatMap_cons,List.flatMap_nil,List.append_nil,List.take_length]
 ·rintro out rfl k;refine ⟨fun h=>absurd (dt h) (by show ¬ ((zrp d t).length:Int)<((zrp d t).length:Int);omega),fun _=>?_⟩;show waysT d t=_;rw [List.take_length];rfl
theorem hitT_in {d:List SNode} {t:TW} (h1:Sm d t.1) (h2:Sm d t.2.1):zd7 d t (hitT d t):=by
 refine ⟨fun h=>⟨_,(zoe h1).1,_,fun _=>(zoe h2).1, ?_⟩,fun h=>⟨_,(zoe h1).1, ?_⟩⟩
 ·unfold hitT;rw [if_pos h];rfl
 ·unfold hitT;rw [if_neg (by simp [h])];rfl
def keyT (t:TW):Str:=if t.2.2=true then ((keyS t.1++[124])++keyS t.2.1)++[33] else (keyS t.1++[124])++keyS t.2.1
theorem zlo (s:List SItem):∀c∈keyS s,c≠124∧c≠33:=fun c hc=>by
 have:=keyN_low _ c hc;exact ⟨fun e=>by subst e;exact absurd this.2.1 (by decide),this.2.2.1⟩
theorem keyT_inj (x y:TW) (h:keyT x=keyT y):x=y:=by
 obtain ⟨a,b,p⟩:=x;obtain ⟨a',b',q⟩:=y;have e:∀(a b:List SItem) (p:Bool),keyT (a,b,p)=keyS a++124::(keyS b++if p=true then [33] else []):=fun a b p=>by
  cases p <;> simp [keyT]
 rw [e,e] at h;obtain ⟨h1,h2⟩:=cutC (fun c hc=>(zlo a c hc).1) (fun c hc=>(zlo a' c hc).1) h;have ea:=zf3.1 h1;subst ea;cases p <;> cases q
 ·simp only [Bool.false_eq_true,if_false,List.append_nil] at h2;rw [zf3.1 h2]
 ·exfalso;simp only [Bool.false_eq_true,if_false,if_true,List.append_nil] at h2;exact (zlo b 33 (by rw [h2];simp)).2 rfl
 ·exfalso;simp only [Bool.false_eq_true,if_false,if_true,List.append_nil] at h2;exact (zlo b' 33 (by rw [← h2];simp)).2 rfl
 ·simp only [if_true] at h2;obtain ⟨h3,_⟩:=cutC (fun c hc=>(zlo b c hc).2) (fun c hc=>(zlo b' c hc).2) h2;rw [zf3.1 h3]
theorem zlv {d:List SNode} {t:TW} (h1:Sm d t.1) (h2:Sm d t.2.1):zf9 t (keyT t):=by
 have k1:=zra (sm_nums h1);have k2:=zra (sm_nums h2);have s1:=h1.short;have s2:=h2.short;refine ⟨_,zj1 s1,by simp;omega,_,zj1 s2,by simp;omega,fun h=>⟨by simp;omega, ?_⟩,fun h=>?_⟩
 ·unfold keyT;rw [if_pos h]
 ·unfold keyT;rw [if_neg (by simp [h])]
theorem accT_sm {d:List SNode} {b:Int} (h:Tw d b) {i j:Nat} {q:Qb TW} (hq:(zdq (twiS d) i)[j]?=some q):Sm d q.1.1∧Sm d q.1.2.1:=by
 obtain ⟨q1,q2,_⟩:=accT_at hq;obtain ⟨m1,m2⟩:=q1.mem;exact ⟨(zj7 h.rt h.len h.txt q2 m1).1,(zj7 h.rt h.len h.txt q2 m2).1⟩
theorem walk_twi {d:List SNode} {b:Int} (h:Tw d b) (hb:b≤1000):
  zf ((stS d,stS d,false),(fun q_=>zf9 q_.1 q_.2),(fun q_=>zu d q_.1 q_.2),(fun q_=>zd7 d q_.1 q_.2)) b (zoa (znb (twiS d) b)):=by
 obtain ⟨N,n1,n2,n3⟩:=h.few;have hst:=(zj7 h.rt h.len h.txt (w:=[]) (fun c hc=>by cases hc) (u:=stS d) (by rw [zru];simp)).1;refine walkT_in (S:=twiS d) (kf:=keyT) keyT_inj hb (M:=N*N*256) n2 (zlv (t:=(stS d,stS d,false)) hst hst) (fun i q hi hq=>?_) fun i q hi hq _=>?_
 ·obtain ⟨s1,s2⟩:=accT_sm h hq;exact hitT_in s1 s2
 ·obtain ⟨s1,s2⟩:=accT_sm h hq;obtain ⟨q1,q2,q3⟩:=accT_at hq;obtain ⟨m1,m2⟩:=q1.mem;have a1:=n3 _ q2 _ m1;have a2:=n3 _ q2 _ m2;refine ⟨waysT_in n1 s1 s2 a1 a2, ?_,fun x hx=>?_⟩
  ·have:=waysT_len a1 a2 (zrp d q.1).length;rw [List.take_length] at this;exact this
  ·obtain ⟨e1,e2⟩:=zm7 d q.1 x.1 x.2 hx;have hu:∀c∈q.2.2.2++[x.1],InR .u8 c:=fun c hc=>(List.mem_append.1 hc).elim (q2 c) fun h=>by rw [List.mem_singleton.1 h];exact e1
   obtain ⟨r1,r2⟩:=raw_mem e2;have hin:∀u,(u∈zck d x.1 q.1.1∨u∈zck d x.1 q.1.2.1)→Sm d u:=fun u hu2=>by
    refine (zj7 h.rt h.len h.txt hu (u:=u) ?_).1;rw [zk0,onS_mem];exact hu2.elim (fun k=>⟨_,m1,k⟩) fun k=>⟨_,m2,k⟩
   exact zlv (hin _ r1) (hin _ r2)
def verT (d:List SNode) (b:Int):SVerdict:=((znb (twiS d) b).1,(znb (twiS d) b).2.1,[],0,0,0,(znb (twiS d) b).2.2.1)
theorem zc4 {d:List SNode} {b:Int} (h:Tw d b) (hb:b≤1000):zb0 d b (verT d b):=by
 have:=h.len;exact ⟨_,item_StartS h.rt.ne (by omega),_,walk_twi h hb,rfl⟩
theorem text_rt {n:SNode} (hk:n.1=3) (h0:n.2.1=0∧n.2.2.1=0) (hx:n.2.2.2.2.2.2≠[]):Rt [n]:=by
 have tr:Tr [n] 0 ((([n]:List SNode).length:Int)-1):=.leaf (e:=n) rfl (by omega) (fun _=>hx) h0;have nk:=tr.nok;refine ⟨⟨nk.two,nk.one,nk.rep,nk.kind,nk.ntx,fun i m hm h67=>?_⟩,tr⟩;obtain ⟨_,rfl⟩:=at_one hm;omega
def fDot:List SNode:=[(2,0,0,0,0,Cl.row 0 255,([]:Str))]
def fA:List SNode:=[(3,0,0,0,0,(0#256),([97]:Str))]
def fOr:List SNode:=zdc 5 fDot fA
def fSeq:List SNode:=zdc 4 fOr dDead
theorem fDot_rt:Rt fDot:=leaf_rt (.inr rfl) ⟨rfl,rfl⟩
theorem fA_rt:Rt fA:=text_rt rfl ⟨rfl,rfl⟩ (by decide)
theorem fOr_rt:Rt fOr:=zit fDot_rt fA_rt (.inr rfl)
theorem fSeq_rt:Rt fSeq:=zit fOr_rt zh4 (.inl rfl)
theorem few_txt {d:List SNode} (h:∀n∈d,n.2.2.2.2.2.2.length≤1):Txt d:=fun n hn=>by have:=h n hn;omega
def twiH (d:List SNode):Sch TW:=⟨(stS d,stS d,false),fun t=>((zf4 (zrn d [t.1,t.2.1])).map fun n:Nat=>(n:Int)).flatMap fun c=>(byT d t c).map fun u=>(c,u),hitT d⟩
theorem twi_H (d:List SNode):twiS d=twiH d:=by
 unfold twiS twiH waysT zrp bytS
 congr 1
 funext t;rw [zrq]
def zm5 (d:List SNode) (b:Int):SVerdict:=((znb (twiH d) b).1,(znb (twiH d) b).2.1,[],0,0,0,(znb (twiH d) b).2.2.1)
theorem verT_H (d:List SNode) (b:Int):verT d b=zm5 d b:=by unfold verT zm5;rw [twi_H]
theorem nf_small {d:List SNode} (h:∀n∈d,n.1≠8∧n.1≠9):NoFr d:=nf_of h _ _
theorem awake20:zgj true:=by
 have u8:∀c:Int,0≤c∧c≤255→InR .u8 c:=fun c h=>zen.2 h;have tOr:Tw fOr 20:=zmm fOr_rt (by decide +kernel) (few_txt (by decide +kernel)) (nf_small (by decide +kernel)) (S:=10) (by decide +kernel) (by decide) (by decide);have tSeq:Tw fSeq 20:=zmm fSeq_rt (by decide +kernel) (few_txt (by decide +kernel)) (nf_small (by decide +kernel)) (S:=10) (by decide +kernel) (by decide) (by decide);have tDot:∀b:Int,b≤10→Tw fDot b:=fun b hb=>zmn fDot_rt (by decide +kernel) (few_txt (by decide +kernel)) hb;obtain ⟨m,w1⟩:∃m,zb0 fOr 20 (2,[97],[],0,0,0,m):=by
  have:=zc4 tOr (by decide);exact ⟨(zm5 fOr 20).2.2.2.2.2.2,by rwa [verT_H,show zm5 fOr 20=(2,[97],[],0,0,0,(zm5 fOr 20).2.2.2.2.2.2) by decide +kernel] at this⟩
 obtain ⟨m2,w2⟩:∃m,zb0 fSeq 20 (1,[],[],0,0,0,m):=by
  have:=zc4 tSeq (by decide);exact ⟨(zm5 fSeq 20).2.2.2.2.2.2,by rwa [verT_H,show zm5 fSeq 20=(1,[],[],0,0,0,(zm5 fSeq 20).2.2.2.2.2.2) by decide +kernel] at this⟩
 have w3:zb0 fDot 2 (1,[],[],0,0,0,2):=by
  have:=zc4 (tDot 2 (by decide)) (by decide)
  rwa [verT_H,show zm5 fDot 2=(1,[],[],0,0,0,2) by decide +kernel] at this
 have w4:zb0 fDot 1 (3,[],[],0,0,0,1):=by
  have:=zc4 (tDot 1 (by decide)) (by decide)
  rwa [verT_H,show zm5 fDot 1=(3,[],[],0,0,0,1) by decide +kernel] at this
 have w5:zb0 fDot (-1) (3,[],[],0,0,0,0):=by
  have:=zc4 (tDot (-1) (by decide)) (by decide)
  rwa [verT_H,show zm5 fDot (-1)=(3,[],[],0,0,0,0) by decide +kernel] at this
 refine ⟨Cl.row 0 255,ziq (u8 0 (by decide)) (u8 255 (by decide)),fOr,zrw fDot_rt.tr fA_rt.tr (by decide) (by decide),_,w1,fSeq,zrw fOr_rt.tr zh4.tr (by decide +kernel) (by decide),_,w2,_,w3,_,fun _=>zo2 (show (1:Nat)<_ by decide),_,rfl,_,fun _=>w4,_,fun _=>w5,_,rfl, ?_⟩;simp
theorem few20 {d:List SNode} (ht:Txt d):∃r,zi0 d r∧(r=true→FewD d):=few_of ht
theorem guard20 {d:List SNode} (ht:Txt d) (b:Int):∃r4 r8:Bool,zi0 d r4∧(r4=true→zgh d d b r8)∧(r4=true→r8=true→FewD d∧(b≤10∨∀n∈d,n.1≠8∧n.1≠9)):=by
 obtain ⟨r4,h4,k4⟩:=few20 ht;cases r4
 ·exact ⟨false,false,h4,(fun h=>by cases h),fun h=>by cases h⟩
 ·have f4:=k4 rfl;obtain ⟨r,h1,h2⟩:=Light_ex (d:=d) (e:=d) (by have:=f4.len;omega) (by have:=f4.len;omega) b;exact ⟨true,r,h4,fun _=>h1,fun _ hr=>⟨f4,(h2 hr).imp id And.left⟩⟩
structure ToldT (d:List SNode) (b:Int):Prop where
 yes:(verT d b).1=1→(verT d b).2.1=[]∧∀w,(∀c∈w,InR .u8 c)→wN d w<2
 no:(verT d b).1=2→(∀c∈(verT d b).2.1,InR .u8 c)∧2≤wN d (verT d b).2.1∧∀w,(∀c∈w,InR .u8 c)→2≤wN d w→(verT d b).2.1.length≤w.length
 any:(verT d b).1=1∨(verT d b).1=2∨(verT d b).1=3
 made:0≤b→(verT d b).2.2.2.2.2.2≤b
 len:(verT d b).2.1.length≤b.toNat
theorem toldT {d:List SNode} {b:Int} (h:Tw d b):ToldT d b:=by
 have ho:=srchB_out (twiS d) b;obtain ⟨p1,p2,p3⟩:=twi_tells h.rt h.len h.txt ho;exact ⟨p1,p2,p3,fun hb=>ho.made hb,ho.len.1⟩
theorem law20_TwiceBuilt_true {d:List SNode} {w:List Int} {b:Int} (ht:Txt d) (hw:∀c∈w,InR .u8 c) (hb:InR .u8 b):zfv d w b true:=by
 have hb':=zen.1 hb;obtain ⟨r4,r8,h4,h8,hG⟩:=guard20 ht b;refine ⟨true,awake20,r4,fun _=>h4,_,rfl,_,rfl,r8,fun h=>h8 (by cases r4 <;> simp_all),fun _=>⟨true,awake20,rfl⟩,fun hc=>?_⟩;simp only [Bool.not_true,Bool.false_or,Bool.or_eq_false_iff,Bool.not_eq_false',decide_eq_false_iff_not] at hc;obtain ⟨⟨⟨⟨g1,g2⟩,g3⟩,g5⟩,g4⟩:=hc;obtain ⟨f,hlt⟩:=hG g1 g4;have l1:d.length≤7:=by omega
 have hdd:Rt (zdc 5 d d):=zit f.rt f.rt (.inr rfl);have hdead:Rt (zdc 4 (zdc 5 d d) dDead):=zit hdd zh4 (.inl rfl);have tdd:Txt (zdc 5 d d):=pair_txt ht ht;have tde:Txt (zdc 4 (zdc 5 d d) dDead):=pair_txt tdd dDead_txt;have ldd:(zdc 5 d d).length≤15:=by rw [zh0];omega
 have lde:(zdc 4 (zdc 5 d d) dDead).length≤17:=by rw [zh0];show _+1+1≤17;omega
 have szd:szN dDead dDead.length ((dDead.length:Int)-1)=1:=by decide +kernel
 have h1:Tw (zdc 5 d d) b:=by
  rcases hlt with h | h
  ·exact zmn hdd (by omega) tdd h
  ·exact zmm hdd (by omega) tdd (nf_of (zqz (by decide) h h) _ _) (S:=120) (by rw [zqb f.rt f.rt (.inr rfl)];have:=f.sz h;omega) (by omega) (by omega)
 have h2:Tw (zdc 4 (zdc 5 d d) dDead) b:=by
  rcases hlt with h | h
  ·exact zmn hdead lde tde h
  ·have n1:=zqz (k:=5) (by decide) h h;have n2:∀n∈dDead,n.1≠8∧n.1≠9:=by decide +kernel
   exact zmm hdead (by omega) tde (nf_of (zqz (by decide) n1 n2) _ _) (S:=121) (by rw [zqb hdd zh4 (.inl rfl),zqb f.rt f.rt (.inr rfl),szd];have:=f.sz h;omega) (by omega) (by omega)
 have h3:Tw (zgl 8 d) (min b 10):=zmn (frame_rt f.rt) (by rw [zp2];omega) (wrap_txt ht) (by omega);have t1:=toldT h1;have t2:=toldT h2;have t3:=toldT h3;have hway:∀w:List Int,decide ((0:Int)<sat (zbr d ((d.length:Int)-1) w))=decide (wN d w≠0):=fun w=>sat_pos _;refine ⟨_,zrw f.rt.tr f.rt.tr (by omega) (by omega),_,zrw hdd.tr zh4.tr (by omega) (by decide),_,zkh f.rt (by omega) ht (by omega) hw,_,fun _=>zc4 h1 (by omega),_,fun _=>zc4 h2 (by omega),false, ?_,(fun h=>by cases h),fun _=>⟨_,Wrap_in f.rt.tr (by omega),_,zc4 h3 (by omega),_,fun _=>zkh f.rt (by omega) ht (by omega) hw, ?_⟩⟩
 ·symm
  rw [Bool.or_eq_false_iff];refine ⟨?_, ?_⟩
  ·rw [hway,Bool.and_eq_false_iff]
   by_cases h0:wN d w=0
   ·exact .inl (by simp [h0])
   ·right;refine Bool.eq_false_iff.2 fun h=>?_;have:=(t1.yes (by simpa using h)).2 w hw;rw [wN_or f.rt f.rt hw] at this;omega
  ·refine Bool.eq_false_iff.2 fun h=>?_;obtain ⟨u1,u2,_⟩:=t2.no (eq_of_beq h);rw [wN_seq_dead hdd u1] at u2;omega
 ·symm
  rw [Bool.or_eq_true,bne_iff_ne,decide_eq_true_iff]
  by_cases h:(verT (zgl 8 d) (min b 10)).1=1
  ·right;have hl:InR .u8 (w.length:Int):=zen.2 ⟨by omega,by omega⟩;have:=(t3.yes h).2 ((w.length:Int)::w) fun c hc=>(List.mem_cons.1 hc).elim (fun e=>by rw [e];exact hl) (hw c);rw [wN_frame f.rt (fun c hc=>(List.mem_cons.1 hc).elim (fun e=>by rw [e];exact hl) (hw c)),if_pos rfl] at this;unfold wN at this;unfold sat;omega
  ·exact .inl h
open Go.ChangeShapes Go.WideShapes Go.RowKit
structure Rd (P:Program) (t:TypeId) {α:Type} (E:En α) (G:α→Prop):Prop where
 sz:P.cellsOf t=E.sz
 rd:∀{H:Type} (enc:TypeId × Value→H) (w:World) (fuel:Nat) (cs:List Value) (x:DataW H × List MemPlace),
  DataW.trod enc P w 0 (fun _=>true) true fuel t cs=some x→(∀n∈x.1.weights P t,n≤reachBytes)→∃y,E.R w (fun b=>b<w.heap.size) cs y∧G y
 vl:∀(w:World) (v:Value),Value.okWide P w .any 0 t v→(∃y,E.R w (fun b=>b<w.heap.size) v.cells.toList y)→v=E.val v.cells.toList
theorem Rd.int {P:Program} {t:TypeId} {k:IntKind} (ht:P.underlying t=some (.int k)) (hc:P.cellsOf t=1):Rd P t (En.int k) (InR k):=by
 refine ⟨hc, ?_, ?_⟩
 ·intro H enc w fuel cs x h _;obtain ⟨n,rfl,_,hw⟩:=DataW.trod_int ht h;have:InR k n:=by simpa [Lit.wf,InR] using hw
  exact ⟨n,⟨rfl,this⟩,this⟩
 ·intro w v hv _;obtain ⟨n,rfl⟩:=okWide_int ht hv;rfl
theorem Rd.str {P:Program} {t:TypeId} (ht:P.underlying t=some .string) (hc:P.cellsOf t=1):Rd P t En.str (fun y=>y.length≤140737488351232):=by
 refine ⟨hc, ?_, ?_⟩
 ·intro H enc w fuel cs x h hwt;obtain ⟨s,rfl,hx,hs⟩:=DataW.trod_string ht h;have hl:s.data.toList.length≤9223372036854775807:=by simpa [maxLen] using hs
  have h2:s.data.toList.length≤140737488351232:=hwt _ (by rw [hx];simp [DataW.weights]);exact ⟨s.data.toList,⟨rfl,hl⟩,h2⟩
 ·intro w v hv _;simp only [Value.okWide,ht,Cell.okWide,Cell.ok] at hv;cases v <;> simp at hv;rfl
theorem zm4 {H:Type} {P:Program} {e:TypeId}:∀{l:List (DataW H)} {d:DataW H},d∈l→∀n∈d.weights P e,n∈DataW.weightsAll P e l
 | [],_,h,_,_=>by cases h
 | d'::l,d,h,n,hn=>by
  simp only [DataW.weightsAll,List.mem_append];rcases List.mem_cons.1 h with rfl | h
  ·exact .inl hn
  ·exact .inr (zm4 h n hn)
theorem Rd.slice {P:Program} {t e:TypeId} {α:Type} {E:En α} {G:α→Prop} (ht:P.underlying t=some (.slice e)) (hc:P.cellsOf t=1) (hby:Nat.blt 0 (P.bytesOf e)=true) (he:Rd P e E G):
  Rd P t (En.slice E) (fun xs=>xs.length≤140737488351232∧∀y∈xs,G y):=by
 refine ⟨hc, ?_, ?_⟩
 ·intro H enc w fuel cs x h hwt;rcases Deep.open_slice ht h with ⟨rfl,_⟩ | ⟨a,len,cap,m,n,D,Pl,rfl,hb,hl,hm,hmm,hxe,hx⟩
  ·exact ⟨[],⟨_,rfl,zdf E _ _⟩,Nat.zero_le _,by simp⟩
  ·simp only [if_true] at hmm;subst hmm;have hall:∀i,i<len→∃p:α × List Value,w.cells? 0 (a.add (i*P.cellsOf e)) (P.cellsOf e)=some p.2∧E.R w (fun b=>b<w.heap.size) p.2 p.1∧G p.1:=fun i hi=>by
    obtain ⟨cs',h1,h2⟩:=hx i (by omega);obtain ⟨y,h3,h4⟩:=he.rd enc w n cs' _ h2 fun q hq=>hwt q (by
     rw [hxe];simp only [DataW.weights,ht,List.mem_cons,List.mem_append];exact .inr (.inl (zm4 (List.mem_map.2 ⟨i,by simpa using hi,rfl⟩) q hq)))
    exact ⟨(y,cs'),h1,h3,h4⟩
   have hmax2:len≤140737488351232:=by
    have h1:=hwt ((len+(m-len))*P.bytesOf e) (by rw [hxe];simp [DataW.weights,ht]);have h2:0<P.bytesOf e:=Nat.le_of_ble_eq_true hby;have h3:(len+(m-len))*1≤(len+(m-len))*P.bytesOf e:=Nat.mul_le_mul_left _ h2;have h4:reachBytes=140737488351232:=rfl;omega
   have hmax:len≤lim:=by have:maxLen≤lim:=by decide
                         omega
   by_cases h0:len=0
   ·subst h0;exact ⟨[],⟨_,rfl,some a,m,rfl,Nat.zero_le _,(fun h=>by cases h),Nat.zero_le _,fun h=>absurd rfl h⟩,Nat.zero_le _,by simp⟩
   have hinh:Inhabited (α × List Value):=⟨(hall 0 (by omega)).choose⟩;obtain ⟨f,hf⟩:=Deep.choose_lt hall;have hsz:=E.pos;rw [← he.sz] at hsz;obtain ⟨hcell0,hblk⟩:a.spot=none∧a.block<w.heap.size:=by
    obtain ⟨_,hl2,hcl⟩:=World.cells?_some (hf 0 (by omega)).1;have h2:=hcl 0 hsz;rw [List.getElem?_eq_getElem (by omega)] at h2;simp only [Nat.zero_mul,Addr.add,if_true,World.cell?] at h2;cases hb2:w.heap[a.block]? with
    | none=>simp [hb2] at h2
    | some o=>
     refine ⟨?_,(Array.getElem?_eq_some_iff.1 hb2).1⟩;cases o <;> simp [hb2] at h2;exact h2.1
   refine ⟨(List.range len).map (fun i=>(f i).1),⟨_,rfl,some a,m, ?_,by simpa using hl,(fun h=>by cases h),by simpa using hmax,fun _=>⟨a.block,a.off,(List.range len).map (fun i=>(f i).2), ?_,hblk,⟨by simp, ?_⟩, ?_⟩⟩,by simpa using hmax2, ?_⟩
   ·simp
   ·cases a;simp at hcell0;subst hcell0;rfl
   ·intro i c y hc1 hy1;have hi:i<len:=by have:=(List.getElem?_eq_some_iff.1 hc1).1;simpa using this
    simp [hi] at hc1 hy1;subst hc1;subst hy1;exact (hf i hi).2.1
   ·have hlens:∀c∈(List.range len).map (fun i=>(f i).2),c.length=E.sz:=by
     intro c hc;simp only [List.mem_map,List.mem_range] at hc;obtain ⟨i,hi,rfl⟩:=hc;rw [(World.cells?_some (hf i hi).1).2.1,he.sz]
    intro j u hj;have hjl:j<len*E.sz:=by
     have:=(List.getElem?_eq_some_iff.1 hj).1;rw [zgx hlens] at this;simpa using this
    have hp:0<E.sz:=E.pos;have hi:j / E.sz<len:=Nat.div_lt_of_lt_mul (by rw [Nat.mul_comm];exact hjl);have hk:j % E.sz<E.sz:=Nat.mod_lt _ hp;obtain ⟨_,hl2,hcl⟩:=World.cells?_some (hf _ hi).1;have hcell:=hcl (j % E.sz) (by rw [he.sz];exact hk);rw [he.sz] at hl2;have hg:=zkt hlens (i:=j / E.sz) (cs:=(f (j / E.sz)).2) (j:=j % E.sz) (u:=(f (j / E.sz)).2[j % E.sz]'(by omega)) (by simp [hi]) (by simp);rw [Nat.mul_comm,Nat.div_add_mod] at hg;rw [hg] at hj;rw [List.getElem?_eq_getElem (by omega),hj,Deep.add_add,he.sz,Nat.mul_comm,Nat.div_add_mod] at hcell;rw [← hcell];cases a;simp at hcell0;subst hcell0;rw [zfi]
   ·intro y hy;simp only [List.mem_map,List.mem_range] at hy;obtain ⟨i,hi,rfl⟩:=hy;exact (hf i hi).2.2
 ·intro w v hv _;simp only [Value.okWide,ht,Cell.okWide,Cell.ok] at hv;cases v <;> simp at hv;rfl
theorem u64_word {n:Int} (h:InR .u64 n):∃m:Nat,m<2 ^ 64∧n=m:=by
 simp [InR,IntKind.min,IntKind.max,IntKind.signed,IntKind.bits] at h;exact ⟨n.toNat,by omega,by omega⟩
theorem Rd.cls {P:Program} {t e:TypeId} (ht:P.underlying t=some (.array 4 e)) (hc:P.cellsOf t=4) (he:P.underlying e=some (.int .u64)) (hce:P.cellsOf e=1):Rd P t En.cls (fun _=>True):=by
 refine ⟨hc, ?_, ?_⟩
 ·intro H enc w fuel cs x h _;obtain ⟨xs,m,rfl,rfl,hlen,hn,hx⟩:=DataW.trod_array ht h;rw [hc] at hlen
  match cs,hlen with
  | [u0,u1,u2,u3],_=>
   have hx':∀i (hi:i<4) u,[u0,u1,u2,u3][i]?=some u→∃q:Nat,q<2 ^ 64∧u = .int .u64 q:=by
    intro i hi u hu;have h1:=hx i hi;rw [hce,Nat.mul_one,List.getElem?_eq_getElem (by omega)] at h1;have h2:List.take 1 (List.drop i [u0,u1,u2,u3])=[u]:=by
     match i,hi with
     | 0,_ | 1,_ | 2,_ | 3,_=>simp at hu;subst hu;rfl
    rw [h2] at h1;obtain ⟨n,h3,_,h4⟩:=DataW.trod_int he h1;obtain ⟨q,hq,rfl⟩:=u64_word (n:=n) (by simpa [Lit.wf,InR] using h4);simp at h3;exact ⟨q,hq,h3⟩
   obtain ⟨q0,h0,rfl⟩:=hx' 0 (by omega) u0 rfl;obtain ⟨q1,h1,rfl⟩:=hx' 1 (by omega) u1 rfl;obtain ⟨q2,h2,rfl⟩:=hx' 2 (by omega) u2 rfl;obtain ⟨q3,h3,rfl⟩:=hx' 3 (by omega) u3 rfl;refine ⟨Cl.ofWords q0 q1 q2 q3, ?_,trivial⟩;obtain ⟨e0,e1,e2,e3⟩:=Cl.ofWords_word h0 h1 h2 h3;show _=zbs _;unfold zbs;rw [e0,e1,e2,e3]
 ·intro w v hv _;simp only [Value.okWide,ht] at hv;obtain ⟨cs,rfl,_⟩:=hv;simp [En.val,En.cls,Value.cells]
structure RdF (P:Program) (fs:List Field) (o:Nat) {α:Type} (E:En α) (G:α→Prop):Prop where
 rd:∀{H:Type} (enc:TypeId × Value→H) (w:World) (fuel:Nat) (cs:List Value) (xs:List (DataW H × List MemPlace)),xs.length=fs.length →
  (∀(i:Nat) (f:Field),fs[i]?=some f→DataW.trod enc P w 0 (fun _=>true) true fuel f.type ((cs.drop f.offset).take (P.cellsOf f.type))=xs[i]?) →
  (∀n∈DataW.weightsEach P (fs.map (·.type)) (xs.map (·.1)),n≤reachBytes)→∃y,E.R w (fun b=>b<w.heap.size) ((cs.drop o).take E.sz) y∧G y
theorem RdF.last {P:Program} {f:Field} {o:Nat} {α:Type} {E:En α} {G:α→Prop} (h:Rd P f.type E G) (ho:f.offset=o):RdF P [f] o E G:=⟨by
 intro H enc w fuel cs xs hl hx hw;obtain ⟨x,rfl⟩:∃x,xs=[x]:=List.length_eq_one_iff.1 hl;have h1:=hx 0 f rfl;rw [ho,h.sz] at h1;exact h.rd enc w fuel _ x h1 fun n hn=>hw n (by simp [DataW.weightsEach,hn])⟩
theorem RdF.solo {P:Program} {fs:List Field} {o:Nat} {α:Type} {E:En α} {G:α→Prop} (h:RdF P fs o E G):RdF P fs o E.solo G:=⟨h.rd⟩
theorem zoq {xs:List Value} {o m n:Nat}:(xs.drop o).take (m+n)=(xs.drop o).take m++(xs.drop (o+m)).take n:=by
 rw [List.take_add,List.drop_drop]
theorem RdF.cons {P:Program} {f:Field} {fs:List Field} {o:Nat} {α β:Type} {E:En α} {F:En β} {G:α→Prop} {K:β→Prop} (h:Rd P f.type E G) (ho:f.offset=o) (hr:RdF P fs (o+E.sz) F K):RdF P (f::fs) o (E.cat F) (fun x=>G x.1∧K x.2):=⟨by
 intro H enc w fuel cs xs hl hx hw;obtain ⟨x,xs',rfl⟩:∃x xs',xs=x::xs':=by
  cases xs with
  | nil=>simp at hl
  | cons x xs'=>exact ⟨x,xs',rfl⟩
 have h1:=hx 0 f rfl;rw [ho,h.sz] at h1;obtain ⟨y,hy1,hy2⟩:=h.rd enc w fuel _ x h1 fun n hn=>hw n (by simp [DataW.weightsEach,hn]);obtain ⟨z,hz1,hz2⟩:=hr.rd enc w fuel cs xs' (by simpa using hl) (fun i g hg=>by have:=hx (i+1) g (by simpa using hg);simpa using this) fun n hn=>hw n (by
  simp only [List.map_cons,DataW.weightsEach,List.mem_append];exact .inr hn)
 exact ⟨(y,z),⟨_,_,zoq,hy1,hz1⟩,hy2,hz2⟩⟩
theorem Rd.struct {P:Program} {t:TypeId} {fs:Array Field} {α:Type} {E:En α} {G:α→Prop} (ht:P.underlying t=some (.struct fs)) (ha:E.agg=true) (hc:P.cellsOf t=E.sz) (h:RdF P fs.toList 0 E G):Rd P t E G:=by
 refine ⟨hc, ?_, ?_⟩
 ·intro H enc w fuel cs x hx hw;obtain ⟨xs,n,rfl,rfl,hlen,hxl,hf⟩:=DataW.trod_struct ht hx;obtain ⟨y,hy1,hy2⟩:=h.rd enc w n cs xs (by simpa using hxl) (fun i f hi=>hf i f (by simpa using hi)) fun q hq=>hw q (by
   simp only [DataW.weights,ht];exact hq)
  rw [List.drop_zero,List.take_of_length_le (by rw [hlen,hc];exact Nat.le_refl _)] at hy1;exact ⟨y,hy1,hy2⟩
 ·intro w v hv _;obtain ⟨cs,rfl,_⟩:=okWide_struct ht hv;unfold En.val;rw [ha];simp [Value.cells]
theorem Rd.open {P:Program} {t:TypeId} {α:Type} {E:En α} {G:α→Prop} (hr:Rd P t E G) {H:Type} {enc:TypeId × Value→H} {W:World} {v:Value} {d:DataW H} {p:List MemPlace}
  (hv:Value.okWide P W .any 0 t v) (hd:DataW.Trod enc P W 0 (fun _=>true) true t v d p) (hw:∀n∈d.weights P t,n≤reachBytes):∃y,(Pd.rep E y).p ⟨W,fun _=>False,fun _ h=>h.elim⟩ v∧G y:=by
 obtain ⟨fuel,h⟩:=hd;obtain ⟨y,hy,hg⟩:=hr.rd enc W fuel _ _ h hw;refine ⟨y,⟨v.cells.toList,hr.vl W v hv ⟨y,hy⟩, ?_⟩,hg⟩;exact E.mono (fun b hb=>⟨hb,fun h=>h⟩) hy
theorem Ex.below {s s':St} (h:Ex s s'):Below s.w.heap.size s.w s'.w:=⟨h.mv.os,h.mv.tape,h.mv.output,h.mv.size,fun k hk=>h.mv.blk k hk (fun h=>h)⟩
theorem okWide_any {P:Program} {W:World} {b:Nat} {t:TypeId} {v:Value} (h:Value.okWide P W .any b t v):Value.okWide P W .any 0 t v:=by
 unfold Value.okWide Row.okWide Cell.okWide Cell.ok World.has at *;exact h
section
variable {H : Type} {enc : TypeId × Value → H} {P : Program}
theorem stays {W W':World} (hl:laidOutB P=true) (hb:Below W.heap.size W W') {sp:Nat→Bool}:∀{ts:List TypeId} {vs:List Value} {ds:List (DataW H)} {ps:List MemPlace},
  (ts.all fun t=>P.readableRec t&&decide (t<P.types.size))=true→DataW.TrodAll enc P W 0 (fun _=>true) true ts vs ds ps→(∀p∈ps,p.block<W.heap.size)→(∀p∈ps,sp p.block=true) →
  DataW.TrodAll enc P W' 0 sp true ts vs ds ps
 | [],vs,ds,ps,_,h,_,_=>by
  obtain ⟨rfl,rfl,rfl⟩:=trodAll_nil h;exact trodAll_mk0
 | t::ts,vs,ds,ps,ha,h,hlt,hsp=>by
  obtain ⟨v,vs',d,ds',p,q,rfl,rfl,rfl,h1,h2⟩:=trodAll_cons h;simp only [List.all_cons,Bool.and_eq_true,decide_eq_true_eq] at ha;refine trodAll_cons_mk (WideElems.Trod_stays hl ha.1.1 ha.1.2 h1 (fun x hx=>hb.same (hlt x (List.mem_append_left _ hx))) fun x hx=>hsp x (List.mem_append_left _ hx)) ?_;exact stays hl hb (by simpa using ha.2) h2 (fun x hx=>hlt x (List.mem_append_right _ hx)) fun x hx=>hsp x (List.mem_append_right _ hx)
theorem post_law {f:Func} {s:ChangeSpec} {apart fresh handsOn again:Bool} {W W':World} {args:Array Value} {v:Value} {ds gs:List (DataW H)} {before:List MemPlace} {tb:TypeId}
  (hW:DataW.Whole enc P f.params.toList s.vars apart W args.toList ds gs before) (hb:Below W.heap.size W W') (hl:laidOutB P=true)
  (hrd:(f.params.toList.all fun t=>P.readableRec t&&decide (t<P.types.size))=true) (hs:s.vars=[]) (hrt:f.resultTypes = #[tb]) (hub:P.underlying tb=some .bool) (hv:v = .bool true)
  (hres:(s.fn H (ds++gs)).results=[.lit (.bool true)]) (hargs:(s.fn H (ds++gs)).args=ds) (hvars:(s.fn H (ds++gs)).vars=[]):s.post enc P f apart fresh handsOn again W args v W':=by
 subst hv;have hlt:=hW.lt;have hW':=hW;obtain ⟨p,q,hA,hV,rfl,hz,hn⟩:=hW;rw [hs] at hV;obtain ⟨rfl,rfl⟩:=trodVars_none hV;have hsub:∀x∈p,x∈p++([]:List MemPlace):=fun x hx=>by simpa using hx
 have harg:∀sp:Nat→Bool,(∀x∈p++([]:List MemPlace),sp x.block=true)→DataW.TrodAll enc P W' 0 sp true f.params.toList args.toList (s.fn H (ds++[])).args p:=fun sp hsp=>by
  rw [hargs];exact stays hl hb hrd hA (fun x hx=>hlt x (hsub x hx)) fun x hx=>hsp x (hsub x hx)
 have hvar:∀sp:Nat→Bool,DataW.TrodVars enc P W' sp s.vars (s.fn H (ds++[])).vars []:=fun sp=>by rw [hs,hvars];exact rfl
 have hr:∀(b:Nat) (sp:Nat→Bool) (hd:Bool),DataW.TrodAll enc P W' b sp hd f.resultTypes.toList ((Value.bool true).resultList f.resultTypes.size) (s.fn H (ds++[])).results []:=fun b sp hd=>by
  rw [hres,hrt];exact trodAll_cons_mk (shut_bool hub _) trodAll_mk0
 have hold:∀x∈p++([]:List MemPlace),(fun b=>decide (b<W.heap.size)) x.block=true:=fun x hx=>by simpa using hlt x hx
 refine ⟨ds,[],p++[],[],p,[],hW',hr _ _ _,harg _ hold,hvar _,World.keptBut_mono (fun x hx=>⟨hx, ?_⟩) (hb.frame (·∈p++[])),fun _=>?_⟩
 ·simpa using hx
 ·refine ⟨ok_one hrt rfl (okWide_bool_mk hub _),_,_,([]++p)++[],⟨[]++p,[],trodAll_append (harg _ (fun _ _=>rfl)) (hr _ _ _),hvar _,rfl, ?_, ?_⟩, ?_⟩
  ·intro b off hp;have hp':MemPlace.cell b off∈p++([]:List MemPlace):=by simpa using hp
   rw [hb.frozen (p:=⟨b,off,none⟩) (hlt _ hp')];exact hz b off hp'
  ·intro ha;simpa using hn ha
  ·intro x hx _;simpa using hx
end
end Go.Proofs.YtkbboemafklkkaaGreatDoor.V
namespace Go.Proofs.YtkbboemafklkkaaGreatDoor.V
open Go Go.ChangeShapes Go.WideShapes Go.RowKit
set_option linter.unusedVariables false
def lst4:List (String × DataW Unit):=[("math/bits.deBruijn32tab",Rows.laid_math_bits_deBruijn32tab),("math/bits.deBruijn64tab",Rows.laid_math_bits_deBruijn64tab),("internal/strconv.uint64pow10",Rows.laid_internal_strconv_uint64pow10),("scantling/heads.readies",Rows.laid_scantling_heads_readies)]
def lst:List (String × DataW Unit):=[("math/bits.deBruijn32tab",Rows.laid_math_bits_deBruijn32tab),("math/bits.deBruijn64tab",Rows.laid_math_bits_deBruijn64tab),("internal/strconv.uint64pow10",Rows.laid_internal_strconv_uint64pow10),("scantling/heads.readies",Rows.laid_scantling_heads_readies),("scantling/next.steps",Rows.laid_scantling_next_steps)]
theorem zo9 {H:Type} {enc:TypeId × Value→H} {P:Program} {w:World} {base:Nat} {sp:Nat→Bool} {held:Bool} {fuel:Nat} {t e:TypeId} {n:Nat} {cs:List Value} {bs:List Bool} {p:List MemPlace}
  (ht:P.underlying t=some (.array n e)) (he:P.underlying e=some .bool) (hce:P.cellsOf e=1) (hct:P.cellsOf t=n)
  (h:DataW.trod enc P w base sp held fuel t cs=some (.agg (bs.map fun b=>.lit (.bool b)),p)):cs=bs.map Value.bool:=by
 obtain ⟨xs,m,rfl,hx,hl,hn,hf⟩:=DataW.trod_array ht h;have hx1:=congrArg Prod.fst hx;simp only [DataW.agg.injEq] at hx1;have hbl:bs.length=n:=by
  have:=congrArg List.length hx1;simp at this;omega
 apply List.ext_getElem?;intro i
 by_cases hi:i<n
 ·have h1:=hf i hi;rw [hce,Nat.mul_one,List.getElem?_eq_getElem (by omega)] at h1;obtain ⟨b,hc,hb⟩:=DataW.trod_bool he h1;have h2:cs[i]?=some (.bool b):=by
   have:=congrArg (·[0]?) hc;simpa [List.getElem?_take,List.getElem?_drop] using this
  have h3:(bs.map fun b=>(DataW.lit (.bool b):DataW H))[i]?=some (.lit (.bool b)):=by
   rw [hx1,List.getElem?_map,List.getElem?_eq_getElem (by omega),hb];rfl
  rw [List.getElem?_map,Option.map_eq_some_iff] at h3;obtain ⟨b',hb',e⟩:=h3;cases e;rw [h2,List.getElem?_map,hb'];rfl
 ·rw [List.getElem?_eq_none (by omega),List.getElem?_eq_none (by simp;omega)]
def nameB1:List UInt8:=[40,115,99,97,110,116,108,105,110,103,47,110,101,120,116,46,115,116,101,112,41,46,110,111,100,101]
def nameB3:List UInt8:=[40,115,99,97,110,116,108,105,110,103,47,110,101,120,116,46,115,116,101,112,41,46,116,101,120,116]
def nameB4:List UInt8:=[40,115,99,97,110,116,108,105,110,103,47,110,101,120,116,46,115,116,101,112,41,46,104,97,108,102]
def stepsD:DataW Unit:=.map [(.int .i64 1,.iface "func" (.lit (.string nameB1))),(.int .i64 3,.iface "func" (.lit (.string nameB3))),(.int .i64 4,.iface "func" (.lit (.string nameB4)))]
def stepsL:List (Lit × DataW (List UInt8)):=[(.int .i64 1,.held nameB1),(.int .i64 3,.held nameB3),(.int .i64 4,.held nameB4)]
theorem key_int {P:Program} {k:TypeId} (hk:P.underlying k=some (.int .i64)) {v:Value} {l:Lit} (h:keyOf P k v=some l):∃n:Int,v = .int .i64 n∧l = .int .i64 n∧InR .i64 n:=by
 rw [keyOf_int hk] at h;unfold mapKey at h;rw [hk] at h;cases v <;> simp at h;obtain ⟨⟨rfl,h2⟩,rfl⟩:=h;exact ⟨_,rfl,rfl,by simpa [Lit.wf,InR] using h2⟩
theorem zq0 {P:Program} {t:TypeId} {ps rs:Array TypeId} {va:Bool} {v:Value} (ht:P.underlying t=some (.func ps rs va)) (h:v.formed P t=true):v.cells.toList=[v]:=by
 cases v <;> simp [Value.formed,ht] at h <;> rfl
def entY (e:MapEntry):Int × Option Nat:=match e.key with | .int _ n=>(n,zd8 gfmS n none) | _=>(0,none)
def entL (q:Lit × DataW (List UInt8)):Int × Option Nat:=match q.1 with | .int _ n=>(n,zd8 gfmS n none) | _=>(0,none)
def Steps (W:World):Prop:=∃m t fr es clock ys,W.heap[0]?=some (.cells #[.map (some m)] t fr)∧W.heap[m]?=some (.map es clock)∧Fmst es clock ys∧ys.Perm gfmS
theorem zor {W:World} (h:funcsAt Tryz.prog W "scantling/next.steps" stepsD):Steps W:=by
 obtain ⟨g,t,cs,fuel,p,hg,ht,hv,hd⟩:=h;have hg':Tryz.prog.globalNamed "scantling/next.steps"=some 0:=by kernel_rfl
 have hty:(Tryz.prog.globals[0]?).map (·.type)=some 220:=by kernel_rfl
 obtain rfl:=Option.some.inj (hg'.symm.trans hg);obtain rfl:=Option.some.inj (hty.symm.trans ht);have e:DataW.funcsOut stepsD = .map stepsL:=by kernel_rfl
 rw [e] at hd;have hkt:Tryz.prog.underlying 3=some (.int .i64):=Tryz.underlying3;rcases WideElems.open_map Tryz.underlying220 hd with ⟨_,hx⟩ | ⟨m,es,clock,n,rfl,hcs,hb,_,F,hx⟩
 ·simp at hx
 ·simp only [Prod.mk.injEq,DataW.map.injEq] at hx;have hp:stepsL.Perm (es.toList.map (WideElems.rg Tryz.prog 3 (WideElems.elemAt (funcToken Tryz.prog) Tryz.prog W 0 (fun _=>true) true n 218))):=by
   rw [hx.1];exact sorted_perm _
  have ent:∀x∈es.toList,∃i:Int,x.key = .int .i64 i∧InR .i64 i∧entL (WideElems.rg Tryz.prog 3 (WideElems.elemAt (funcToken Tryz.prog) Tryz.prog W 0 (fun _=>true) true n 218) x)=(i,zd8 gfmS i none)∧x.val=fidV (zd8 gfmS i none):=by
   intro x hx';obtain ⟨y,hy⟩:=F.reads x hx';have hrg:=WideElems.rg_of hy;have hm:y∈stepsL:=hp.mem_iff.2 (List.mem_map.2 ⟨x,hx',hrg⟩);obtain ⟨i,hk1,hk2,hk3⟩:=key_int hkt (WideElems.rd_key hy);obtain ⟨z,hz1,hz2⟩:=WideElems.rd_val hy;unfold WideElems.elemAt at hz1;split at hz1
   case isFalse=>cases hz1
   rename_i hf
   rw [zq0 Tryz.underlying218 hf] at hz1;refine ⟨i,hk1,hk3,by rw [hrg];simp only [entL,hk2], ?_⟩;unfold stepsL at hm;simp only [List.mem_cons,List.not_mem_nil,or_false] at hm;rcases hm with rfl | rfl | rfl
   ·simp only [Lit.int.injEq,true_and] at hk2;subst hk2;obtain ⟨z1,z2⟩:=z;simp only at hz2;subst hz2;exact func_of_trod (f0:=238) Tryz.underlying218 (by kernel_rfl) hz1
   ·simp only [Lit.int.injEq,true_and] at hk2;subst hk2;obtain ⟨z1,z2⟩:=z;simp only at hz2;subst hz2;exact func_of_trod (f0:=239) Tryz.underlying218 (by kernel_rfl) hz1
   ·simp only [Lit.int.injEq,true_and] at hk2;subst hk2;obtain ⟨z1,z2⟩:=z;simp only at hz2;subst hz2;exact func_of_trod (f0:=236) Tryz.underlying218 (by kernel_rfl) hz1
  obtain ⟨o,ho,hcell⟩:∃t fr,W.heap[0]?=some (.cells #[.map (some m)] t fr):=by
   unfold World.var? at hv;rw [hg'] at hv;simp only [Option.bind_some] at hv;split at hv
   ·rename_i cs' t' fr' hc
    refine ⟨t',fr', ?_⟩;rw [hc];simp only [Option.some.injEq] at hv;rw [hv,← Array.toArray_toList (xs:=cs),hcs]
   ·cases hv
  refine ⟨m,o,ho,es,clock,es.toList.map entY,hcell,hb,⟨F.stamped,by simp,fun i e q h1 h2=>?_⟩, ?_⟩
  ·have hm:=List.mem_of_getElem? h1;obtain ⟨j,hk1,hk3,_,hval⟩:=ent e hm;rw [List.getElem?_map,h1] at h2;simp only [Option.map_some,Option.some.injEq] at h2;subst h2;have hr:=zi2.1 hk3;simp only [entY,hk1];exact ⟨trivial,hr,hval⟩
  ·have h3:=(hp.map entL).symm;have e1:stepsL.map entL=gfmS:=by kernel_rfl
   rw [e1,List.map_map] at h3;refine List.Perm.trans (List.Perm.of_eq (List.map_congr_left fun x hx'=>?_)) h3;obtain ⟨j,hk1,_,hL,_⟩:=ent x hx';simp only [Function.comp,entY,hk1];exact hL.symm
def Tabs (W:World):Prop:=(Lib.TabIs Tryz.prog W "internal/strconv.uint64pow10" .u64 Lib.pow10Tab∧W.var? Tryz.prog "scantling/heads.readies"=some (gdat1.map Value.bool).toArray)∧Steps W
theorem tab_of_laid {W:World} (h:laidMetH Tryz.prog lst W):Tabs W:=by
 have hs:("scantling/next.steps",(DataW.iface "func table" stepsD:DataW Unit))∈lst:=by
  have e:(Rows.laid_scantling_next_steps:DataW Unit)=DataW.iface "func table" stepsD:=by kernel_rfl
  unfold lst;rw [e];simp
 have h3:=zor (h.funcs hs);have e0:laidMetH Tryz.prog lst W=(laidMet Tryz.prog lst4 W∧handlesMet Tryz.prog [("scantling/next.steps",Rows.laid_scantling_next_steps)] W):=by kernel_rfl
 rw [e0] at h;have h':=h.1;unfold lst4 at h';refine ⟨⟨?_, ?_⟩,h3⟩
 ·have e:(Rows.laid_internal_strconv_uint64pow10:DataW Unit)=Lib.tabData .u64 Lib.pow10Tab:=by kernel_rfl
  have h2:=h'.tail.tail;rw [e] at h2;exact Lib.tabIs_of_head (g:=2) (t:=296) (e:=36) (n:=20) (by kernel_rfl) (by kernel_rfl) Tryz.underlying296 Tryz.underlying36 (by kernel_rfl) (by kernel_rfl) h2
 ·have e:(Rows.laid_scantling_heads_readies:DataW Unit) = .agg (gdat1.map fun b=>.lit (.bool b)):=by kernel_rfl
  have h2:=h'.tail.tail.tail;rw [e] at h2;obtain ⟨ps,⟨g',t',cs,fuel,p,q,hg',ht',hvar,hd,_,_⟩,_⟩:=h2;have hg:Tryz.prog.globalNamed "scantling/heads.readies"=some 1:=by kernel_rfl
  have hty:(Tryz.prog.globals[1]?).map (·.type)=some 285:=by kernel_rfl
  obtain rfl:=Option.some.inj (hg.symm.trans hg');obtain rfl:=Option.some.inj (hty.symm.trans ht');rw [hvar,← zo9 Tryz.underlying285 (e:=4) Tryz.underlying4 (by kernel_rfl) (by kernel_rfl) hd]
theorem gl_of_tab {W:World} (h:Tabs W):Gl ⟨W,fun _=>False,fun _ h=>h.elim⟩:=by
 obtain ⟨⟨h1,h2⟩,h3⟩:=h;refine ⟨fun p hp=>?_,fun p hp=>?_⟩
 ·unfold gtab at hp;rcases List.mem_cons.1 hp with rfl | hp
  ·refine ⟨fun h=>h, ?_⟩;unfold Lib.TabIs World.var? at h1;have hg:Tryz.prog.globalNamed "internal/strconv.uint64pow10"=some 2:=by kernel_rfl
   rw [hg] at h1;simp only [Option.bind_some] at h1;split at h1
   ·rename_i cs t fr hc
    refine ⟨t,fr, ?_⟩;show W.heap[2]?=_;rw [hc];simp only [Option.some.injEq] at h1;rw [h1];simp [Lib.pow10Tab]
   ·cases h1
  ·obtain rfl:=List.mem_singleton.1 hp;refine ⟨fun h=>h, ?_⟩;unfold World.var? at h2;have hg:Tryz.prog.globalNamed "scantling/heads.readies"=some 1:=by kernel_rfl
   rw [hg] at h2;simp only [Option.bind_some] at h2;split at h2
   ·rename_i cs t fr hc
    refine ⟨t,fr, ?_⟩;show W.heap[1]?=_;rw [hc];simp only [Option.some.injEq] at h2;rw [h2]
   ·cases h2
 ·unfold gmap at hp;obtain rfl:=List.mem_singleton.1 hp;obtain ⟨m,t,fr,es,clock,ys,k1,k2,k3,k4⟩:=h3;exact ⟨fun h=>h,m,t,fr,es,clock,ys,k1,fun h=>h,k2,k3,k4⟩
noncomputable def laidWorld (os:Os):World:=World.doorLaid Tryz.prog 400 os
theorem laid_met (os:Os) (args:Array Value):laidMetH Tryz.prog lst ((laidWorld os).forCall (fun _ _=>0) ⟨#[],args,[]⟩).memory:=
 laidMetH_of_parts3 (fuel:=8) (laidMet_of_run' 8 (by kernel_rfl) (by kernel_rfl)) (by kernel_rfl) (by kernel_rfl)
theorem weigh {H:Type} {P:Program} {ts:List TypeId} {ds:List (DataW H)} (h:(DataW.weightsEach P ts ds).all (·≤reachBytes)=true) (j:Nat) {t:TypeId} {d:DataW H} (ht:ts[j]?=some t) (hd:ds[j]?=some d):∀n∈d.weights P t,n≤reachBytes:=fun n hn=>by
 have:=List.all_eq_true.1 h n (DataW.weights_mem_each ht hd n hn);simpa using this
end Go.Proofs.YtkbboemafklkkaaGreatDoor.V
