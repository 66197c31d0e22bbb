/-
  The texts that the law's proof needs, part 6.
-/
import Derived.Carry
import Derived.ChangeSame
import Derived.Deep.Slices
import Derived.Handed
import Derived.KernelRfl
import Derived.LaidHandle
import Derived.LaidLaws
import Derived.LaidMore
import Derived.Lib.LaidTab
import Derived.OpenShut
import Derived.ProofKit
import Derived.RowKit
import Derived.SizedLaws
import Derived.Stop.LaidErr
import Derived.Test.YtahgmdbioafmbaaGreatDoorRows
import Derived.WalkKit
import Derived.WideKeyElems2
import Derived.Test.YtahgmdbioafmbaaGreatDoorSetsAfterP5

namespace Go.Proofs.YtahgmdbioafmbaaGreatDoor.V
open Go
set_option linter.unusedVariables false
def lk0 (p:Cl):Int:=p.least.1
def pieces (a p:Cl):List Cl:=[p &&& a,p &&& ~~~ a].filter fun q=>decide (0<q.count)
def splitR (ps:List Cl) (a:Cl):List Cl:=srt lk0 (ps.flatMap (pieces a))
def splitP (l:List Cl):List Cl:=l.foldl splitR [~~~ (0#256)]
def splitH (l:List Cl):List Int:=(splitP l).map lk0
def like (l:List Cl) (c d:Nat):Bool:=l.all fun a=>a.has c==a.has d
def part (l:List Cl) (c:Nat):Cl:=Cl.of (like l c)
def heads (l:List Cl):List Nat:=(List.range 256).filter fun c=>(List.range c).all fun d=>!like l d c
def parts (l:List Cl):List Cl:=(heads l).map (part l)
theorem like_refl (l:List Cl) (c:Nat):like l c c=true:=by simp [like]
theorem like_symm {l:List Cl} {c d:Nat} (h:like l c d=true):like l d c=true:=by
 unfold like at *
 rw [List.all_eq_true] at *
 intro a ha
 have:=h a ha
 rw [beq_iff_eq] at *
 exact this.symm
theorem like_trans {l:List Cl} {c d e:Nat} (h:like l c d=true) (k:like l d e=true):like l c e=true:=by
 unfold like at *
 rw [List.all_eq_true] at *
 intro a ha
 have h1:=h a ha
 have h2:=k a ha
 rw [beq_iff_eq] at *
 exact h1.trans h2
theorem zdy {l:List Cl} {c d:Nat} (h:d<256):(part l c).has d=like l c d:=Cl.of_has _ h
theorem mem_heads {l:List Cl} {c:Nat}:c∈heads l↔c<256∧∀d,d<c→like l d c=false:=by
 simp [heads]
theorem part_eq {l:List Cl} {c d:Nat} (h:like l c d=true):part l c=part l d:=by
 apply Cl.ext
 intro e he
 rw [zdy he,zdy he]
 cases h1:like l d e
 ·cases h2:like l c e
  ·rfl
  ·rw [like_trans (like_symm h) h2] at h1;cases h1
 ·exact like_trans h h1
theorem lk_spec {p:Cl} (h:0<p.count):∃n:Nat,n<256∧p.least=((n:Int),true)∧p.has n=true∧∀m,m<n→p.has m=false:=by
 cases hl:p.least.2
 ·have h0:=least_none hl
  have:p.count=0:=by
   unfold Cl.count
   rw [List.countP_eq_zero]
   intro m hm
   rw [h0 m (by simpa using hm)];simp
  omega
 ·obtain ⟨n,hn⟩:∃n:Nat,p.least=((n:Int),true):=by
   unfold Cl.least at hl ⊢
   split
   ·exact ⟨_,rfl⟩
   ·rename_i hn;rw [hn] at hl;simp at hl
  obtain ⟨h1,h2,h3⟩:=least_some hn
  exact ⟨n,h1,hn,h2,h3⟩
theorem count_pos {p:Cl} {n:Nat} (hn:n<256) (h:p.has n=true):0<p.count:=by
 unfold Cl.count
 rw [List.countP_pos_iff]
 exact ⟨n,by simpa using hn,h⟩
theorem head_of {l:List Cl} {c:Nat} (hc:c<256):∃h,h∈heads l∧h≤c∧like l h c=true:=by
 obtain ⟨h,⟨h1,h2⟩,h3⟩:=exists_least (p:=fun d=>d≤c∧like l d c=true) ⟨c,Nat.le_refl _,like_refl l c⟩
 refine ⟨h,mem_heads.2 ⟨by omega,fun d hd=>?_⟩,h1,h2⟩
 cases hl:like l d h
 ·rfl
 ·have:=h3 d ⟨by omega,like_trans hl h2⟩
  omega
theorem least_part {l:List Cl} {h:Nat} (hh:h∈heads l):(part l h).least=((h:Int),true):=by
 obtain ⟨h1,h2⟩:=mem_heads.1 hh
 refine least_of h1 (by rw [zdy h1];exact like_refl l h) fun m hm=>?_
 rw [zdy (by omega)]
 cases hl:like l h m
 ·rfl
 ·have:=h2 m hm
  rw [like_symm hl] at this;cases this
theorem lk_part {l:List Cl} {h:Nat} (hh:h∈heads l):lk0 (part l h)=(h:Int):=by rw [lk0,least_part hh]
theorem heads_sorted (l:List Cl):(heads l).Pairwise (· < ·):=(List.pairwise_lt_range).filter _
theorem parts_lk (l:List Cl):(parts l).map lk0=(heads l).map (fun n:Nat=>(n:Int)):=by
 unfold parts
 rw [List.map_map]
 exact List.map_congr_left fun h hh=>lk_part hh
theorem parts_srt (l:List Cl):Srt lk0 (parts l):=by
 have h1:(heads l).Pairwise fun a b=>lk0 (part l a)≤lk0 (part l b):=by
  refine (List.pairwise_iff_getElem.2 fun i j hi hj hij=>?_)
  rw [lk_part (List.getElem_mem hi),lk_part (List.getElem_mem hj)]
  have:=List.pairwise_iff_getElem.1 (heads_sorted l) i j hi hj hij
  omega
 exact List.pairwise_map.2 h1
theorem seq_of_mem {α:Type} {key:α→Int} {X Y:List α} (hX:(X.map key).Nodup) (hY:(Y.map key).Nodup) (h:∀x,x∈X↔x∈Y):SEq key X Y:=fun c=>by
 have one:∀{Z:List α},(Z.map key).Nodup→∀x∈Z,key x=c→Z.filter (fun z=>key z==c)=[x]:=by
  intro Z
  induction Z with
  | nil=>intro _ x hx;cases hx
  | cons z Z ih=>
   intro hn x hx hk
   rw [List.map_cons,List.nodup_cons] at hn
   rcases List.mem_cons.1 hx with rfl | hx
   ·rw [List.filter_cons_of_pos (by simp [hk])]
    congr 1
    rw [List.filter_eq_nil_iff]
    intro y hy hyc
    exact hn.1 (List.mem_map.2 ⟨y,hy,by rw [hk];simpa using hyc⟩)
   ·rw [List.filter_cons_of_neg,ih hn.2 x hx hk]
    intro hz
    exact hn.1 (List.mem_map.2 ⟨x,hx,by rw [hk];simpa using (eq_of_beq hz).symm⟩)
 by_cases hex:∃x,x∈X∧key x=c
 ·obtain ⟨x,hx,hk⟩:=hex
  rw [one hX x hx hk,one hY x ((h x).1 hx) hk]
 ·have e1:X.filter (fun z=>key z==c)=[]:=by
   rw [List.filter_eq_nil_iff];intro y hy hyc;exact hex ⟨y,hy,by simpa using hyc⟩
  have e2:Y.filter (fun z=>key z==c)=[]:=by
   rw [List.filter_eq_nil_iff];intro y hy hyc;exact hex ⟨y,(h y).2 hy,by simpa using hyc⟩
  rw [e1,e2]
def Disj (p q:Cl):Prop:=∀n,n<256→p.has n=true→q.has n=false
theorem lk_ne {p q:Cl} (hp:0<p.count) (hq:0<q.count) (h:Disj p q):lk0 p≠lk0 q:=by
 obtain ⟨n,n1,n2,n3,n4⟩:=lk_spec hp
 obtain ⟨m,m1,m2,m3,m4⟩:=lk_spec hq
 unfold lk0
 rw [n2,m2]
 intro he
 have:n=m:=by simp at he;omega
 subst this
 rw [h n n1 n3] at m3;cases m3
theorem nodup_lk {X:List Cl} (hd:X.Pairwise Disj) (hc:∀x∈X,0<x.count):(X.map lk0).Nodup:=by
 refine List.pairwise_map.2 ?_
 refine hd.imp_of_mem fun {a b} ha hb h=>lk_ne (hc a ha) (hc b hb) h
theorem mem_pieces {a p x:Cl}:x∈pieces a p↔(x=p &&& a∨x=p &&& ~~~ a)∧0<x.count:=by
 simp [pieces]
theorem pieces_le {a p x:Cl} (h:x∈pieces a p) {n:Nat} (hx:x.has n=true):p.has n=true:=by
 rcases (mem_pieces.1 h).1 with rfl | rfl <;> rw [has_and] at hx <;> simp at hx <;> exact hx.1
theorem pieces_disj (a p:Cl):(pieces a p).Pairwise Disj:=by
 unfold pieces
 refine List.Pairwise.filter _ ?_
 simp only [List.pairwise_cons,List.mem_singleton,forall_eq,List.not_mem_nil,false_implies,implies_true,List.Pairwise.nil,and_true]
 intro n hn h
 rw [has_and] at h ⊢
 rw [has_not hn]
 simp at h ⊢
 simp [h.2]
theorem parts_disj (l:List Cl):(parts l).Pairwise Disj:=by
 unfold parts
 refine List.pairwise_map.2 ?_
 refine List.pairwise_iff_getElem.2 fun i j hi hj hij n hn h=>?_
 have hlt:=List.pairwise_iff_getElem.1 (heads_sorted l) i j hi hj hij
 obtain ⟨_,h2⟩:=mem_heads.1 (List.getElem_mem hj)
 rw [zdy hn] at h ⊢
 cases h3:like l (heads l)[j] n
 ·rfl
 ·have:=h2 _ hlt
  rw [like_trans h (like_symm h3)] at this;cases this
theorem parts_pos {l:List Cl} {p:Cl} (h:p∈parts l):0<p.count:=by
 obtain ⟨c,hc,rfl⟩:=List.mem_map.1 h
 have h1:=(mem_heads.1 hc).1
 exact count_pos h1 (by rw [zdy h1];exact like_refl l c)
theorem flat_disj {ps:List Cl} (h:ps.Pairwise Disj) (a:Cl):(ps.flatMap (pieces a)).Pairwise Disj:=by
 rw [List.pairwise_flatMap]
 refine ⟨fun p _=>pieces_disj a p,h.imp fun {p q} hpq x hx y hy n hn hxn=>?_⟩
 cases hy':y.has n
 ·rfl
 ·have:=hpq n hn (pieces_le hx hxn)
  rw [pieces_le hy hy'] at this;cases this
theorem like_snoc (l:List Cl) (a:Cl) (c d:Nat):like (l++[a]) c d=(like l c d&&(a.has c==a.has d)):=by simp [like]
theorem mem_split (l:List Cl) (a x:Cl):x∈(parts l).flatMap (pieces a)↔x∈parts (l++[a]):=by
 have key:∀h h':Nat,like l h h'=true→h' < 256→∀x:Cl,(a.has h'=true∧x=part l h &&& a∨a.has h'=false∧x=part l h &&& ~~~ a)→x=part (l++[a]) h':=by
  intro h h' hh h1 x hx
  apply Cl.ext
  intro d hd
  rw [zdy hd,like_snoc]
  have e:like l h' d=like l h d:=by
   have:=congrArg (fun p:Cl=>p.has d) (part_eq hh)
   simp only [zdy hd] at this
   exact this.symm
  rw [e]
  rcases hx with ⟨h2,rfl⟩ | ⟨h2,rfl⟩
  ·rw [has_and,zdy hd,h2];cases a.has d <;> simp
  ·rw [has_and,has_not hd,zdy hd,h2];cases a.has d <;> simp
 constructor
 ·intro hx
  obtain ⟨p,hp,hxp⟩:=List.mem_flatMap.1 hx
  obtain ⟨h,hh,rfl⟩:=List.mem_map.1 hp
  obtain ⟨hx1,hx2⟩:=mem_pieces.1 hxp
  obtain ⟨n,n1,n2,n3,n4⟩:=lk_spec hx2
  have hn:=pieces_le hxp n3
  rw [zdy n1] at hn
  have hxe:x=part (l++[a]) n:=key h n hn n1 x (by
   rcases hx1 with rfl | rfl
   ·rw [has_and] at n3;simp at n3;exact .inl ⟨n3.2,rfl⟩
   ·rw [has_and,has_not n1] at n3;simp at n3;exact .inr ⟨n3.2,rfl⟩)
  refine List.mem_map.2 ⟨n,mem_heads.2 ⟨n1,fun d hd=>?_⟩,hxe.symm⟩
  cases hl:like (l++[a]) d n
  ·rfl
  ·have:=n4 d hd
   rw [hxe,zdy (by omega),like_symm hl] at this;cases this
 ·intro hx
  obtain ⟨n,hn,rfl⟩:=List.mem_map.1 hx
  have n1:=(mem_heads.1 hn).1
  obtain ⟨h,hh,_,h3⟩:=head_of (l:=l) n1
  have hpos:=parts_pos hx
  cases ha:a.has n
  ·have e:=key h n h3 n1 _ (.inr ⟨ha,rfl⟩)
   exact List.mem_flatMap.2 ⟨_,List.mem_map.2 ⟨h,hh,rfl⟩,mem_pieces.2 ⟨.inr e.symm,hpos⟩⟩
  ·have e:=key h n h3 n1 _ (.inl ⟨ha,rfl⟩)
   exact List.mem_flatMap.2 ⟨_,List.mem_map.2 ⟨h,hh,rfl⟩,mem_pieces.2 ⟨.inl e.symm,hpos⟩⟩
theorem splitR_parts (l:List Cl) (a:Cl):splitR (parts l) a=parts (l++[a]):=by
 unfold splitR
 refine (srt_of (parts_srt _) (seq_of_mem ?_ ?_ (mem_split l a))).symm
 ·exact nodup_lk (flat_disj (parts_disj l) a) fun x hx=>by
   obtain ⟨p,_,hxp⟩:=List.mem_flatMap.1 hx
   exact (mem_pieces.1 hxp).2
 ·exact nodup_lk (parts_disj _) fun x hx=>parts_pos hx
theorem parts_nil:parts []=[~~~ (0#256)]:=by
 have h:heads []=[0]:=by decide +kernel
 unfold parts
 rw [h]
 simp only [List.map_cons,List.map_nil,List.cons.injEq,and_true]
 apply Cl.ext
 intro c hc
 rw [zdy hc,has_not hc,has_zero]
 rfl
theorem splitP_eq (l:List Cl):splitP l=parts l:=by
 have:∀(l pre:List Cl),l.foldl splitR (parts pre)=parts (pre++l):=by
  intro l
  induction l with
  | nil=>intro pre;simp
  | cons a l ih=>intro pre;rw [List.foldl_cons,splitR_parts,ih];simp
 have:=this l []
 rw [parts_nil] at this
 simpa [splitP] using this
theorem heads_len (l:List Cl):(heads l).length≤256:=by
 have:=List.length_filter_le (fun c=>(List.range c).all fun d=>!like l d c) (List.range 256)
 simpa [heads] using this
theorem splitH_eq (l:List Cl):splitH l=(heads l).map (fun n:Nat=>(n:Int)):=by rw [splitH,splitP_eq,parts_lk]
abbrev Rs (l:List (List SItem)):Prop:=l.Pairwise (fun a b=>cmpS a b<0)
def insS (t:List SItem):List (List SItem)→List (List SItem)
 | []=>[t]
 | c::l=>if cmpS t c<0 then t::c::l else if cmpS t c=0 then c::l else c::insS t l
def setOf (L:List (List SItem)):List (List SItem):=L.foldr insS []
theorem insS_mem {t u:List SItem}:∀{l:List (List SItem)},u∈insS t l↔u=t∨u∈l
 | []=>by simp [insS]
 | c::l=>by
  unfold insS
  split
  ·simp
  ·split
   ·rename_i h
    rw [zdl.1 h];simp
   ·rw [List.mem_cons,insS_mem,List.mem_cons]
    constructor
    ·rintro (h | h | h)
     ·exact .inr (.inl h)
     ·exact .inl h
     ·exact .inr (.inr h)
    ·rintro (h | h | h)
     ·exact .inr (.inl h)
     ·exact .inl h
     ·exact .inr (.inr h)
theorem insS_srt {t:List SItem}:∀{l:List (List SItem)},Rs l→Rs (insS t l)
 | [],_=>by simp [insS]
 | c::l,h=>by
  unfold insS
  have h':=List.pairwise_cons.1 h
  split
  ·rename_i h1
   exact List.pairwise_cons.2 ⟨fun x hx=>(List.mem_cons.1 hx).elim (fun e=>by rw [e];exact h1) fun hx=>cmpS_trans h1 (h'.1 x hx),h⟩
  ·split
   ·exact h
   ·rename_i h1 h2
    have h3:cmpS c t<0:=by
     have:=cmpS_anti t c
     omega
    refine List.pairwise_cons.2 ⟨fun x hx=>?_,insS_srt h'.2⟩
    rcases insS_mem.1 hx with rfl | hx
    ·exact h3
    ·exact h'.1 x hx
theorem zdr {u:List SItem}:∀{L:List (List SItem)},u∈setOf L↔u∈L
 | []=>by simp [setOf]
 | t::L=>by
  show u∈insS t (setOf L)↔_
  rw [insS_mem,zdr,List.mem_cons]
theorem setOf_srt:∀L:List (List SItem),Rs (setOf L)
 | []=>List.Pairwise.nil
 | t::L=>insS_srt (setOf_srt L)
theorem rs_nodup {l:List (List SItem)} (h:Rs l):l.Nodup:=h.imp fun {a b} h e=>by subst e;exact cmpS_irr h
theorem rs_uniq {a b:List (List SItem)} (ha:Rs a) (hb:Rs b) (h:∀x,x∈a↔x∈b):a=b:=by
 have:=srt_uniq (B:=a.map fun t=>((t,0):SBranch)) (C:=b.map fun t=>((t,0):SBranch)) (List.pairwise_map.2 ha) (List.pairwise_map.2 hb) fun x=>by
  simp only [List.mem_map]
  constructor
  ·rintro ⟨t,ht,rfl⟩;exact ⟨t,(h t).1 ht,rfl⟩
  ·rintro ⟨t,ht,rfl⟩;exact ⟨t,(h t).2 ht,rfl⟩
 have h2:=congrArg (List.map (·.1)) this
 simpa [List.map_map,Function.comp_def] using h2
theorem setOf_len {A K:List (List SItem)} (h:∀x∈A,x∈K):(setOf A).length≤K.length:=len_sub (rs_nodup (setOf_srt A)) fun t ht=>h t (zdr.1 ht)
theorem can_set {f:List SItem→Nat} {B:List SBranch} (h:Can f B) {A:List (List SItem)} (e:∀t,f t≠0↔t∈A):B.map (·.1)=setOf A:=by
 refine rs_uniq ?_ (setOf_srt A) fun t=>by rw [h.keys,e,zdr]
 exact List.pairwise_map.2 h.srt
def onS (d:List SNode) (c:Int) (l:List (List SItem)):List (List SItem):=setOf (l.flatMap (stepL d c))
def endS (d:List SNode) (l:List (List SItem)):Bool:=l.any fun s=>decide ((hds d s).count []≠0)
abbrev stS (d:List SNode):List SItem:=[(1,(d.length:Int)-1,0,0)]
def aftS (d:List SNode) (w:List Int):List (List SItem):=w.foldl (fun l c=>onS d c l) [stS d]
theorem aftS_nil (d:List SNode):aftS d []=[stS d]:=rfl
theorem aftS_snoc (d:List SNode) (w:List Int) (c:Int):aftS d (w++[c])=onS d c (aftS d w):=by unfold aftS;rw [List.foldl_append];rfl
theorem onS_mem {d:List SNode} {c:Int} {l:List (List SItem)} {t:List SItem}:t∈onS d c l↔∃s∈l,t∈stepL d c s:=by unfold onS;rw [zdr,List.mem_flatMap]
theorem word_ind {p:List Int→Prop} (h0:p []) (hs:∀w c,p w→p (w++[c])) (w:List Int):p w:=by
 have:∀n (w:List Int),w.length=n→p w:=by
  intro n
  induction n with
  | zero=>intro w hw;rw [List.length_eq_zero_iff.1 hw];exact h0
  | succ n ih=>
   intro w hw
   have hne:w≠[]:=fun e=>by subst e;simp at hw
   rw [← List.dropLast_concat_getLast hne]
   exact hs _ _ (ih _ (by simp [hw]))
 exact this _ w rfl
theorem aftS_mem {d:List SNode} {t:List SItem} (w:List Int):t∈aftS d w↔t∈endsL d w (stS d):=by
 revert t
 refine word_ind (p:=fun w=>∀{t:List SItem},t∈aftS d w↔t∈endsL d w (stS d)) ?_ ?_ w
 ·intro t;rw [aftS_nil,endsL]
 ·intro w c ih t
  rw [aftS_snoc,onS_mem,endsL_snoc,List.mem_flatMap]
  constructor
  ·rintro ⟨s,h1,h2⟩;exact ⟨s,ih.1 h1,h2⟩
  ·rintro ⟨s,h1,h2⟩;exact ⟨s,ih.2 h1,h2⟩
theorem aftS_srt (d:List SNode) (w:List Int):Rs (aftS d w):=by
 refine word_ind (p:=fun w=>Rs (aftS d w)) ?_ (fun w c _=>?_) w
 ·rw [aftS_nil];simp
 ·rw [aftS_snoc];exact setOf_srt _
theorem aftS_app (d:List SNode) (u v:List Int):aftS d (u++v)=v.foldl (fun l c=>onS d c l) (aftS d u):=by unfold aftS;rw [List.foldl_append]
theorem aftS_set (d:List SNode) (w:List Int):aftS d w=setOf (endsL d w (stS d)):=rs_uniq (aftS_srt d w) (setOf_srt _) fun t=>by rw [aftS_mem,zdr]
theorem endS_iff {d:List SNode} {l:List (List SItem)}:endS d l=true↔∃s∈l,(hds d s).count []≠0:=by simp [endS]
theorem sumF_ne (F:List SItem→Nat):∀L:List (List SItem),sumF F L≠0↔∃t∈L,F t≠0
 | []=>by simp [sumF]
 | t::L=>by
  have e:sumF F (t::L)=F t+sumF F L:=by simp [sumF]
  have ih:=sumF_ne F L
  rw [e]
  constructor
  ·intro h
   by_cases h0:F t=0
   ·obtain ⟨u,h1,h2⟩:=ih.1 (by omega)
    exact ⟨u,by simp [h1],h2⟩
   ·exact ⟨t,by simp,h0⟩
  ·rintro ⟨u,h1,h2⟩
   rcases List.mem_cons.1 h1 with rfl | h1
   ·omega
   ·have:=ih.2 ⟨u,h1,h2⟩
    omega
theorem endS_word (d:List SNode) (w:List Int):endS d (aftS d w)=true↔nodeW d ((d.length:Int)-1) w≠0:=by
 unfold nodeW
 rw [wyn_ends,sumF_ne,endS_iff]
 constructor
 ·rintro ⟨s,h1,h2⟩;exact ⟨s,(aftS_mem w).1 h1,h2⟩
 ·rintro ⟨s,h1,h2⟩;exact ⟨s,(aftS_mem w).2 h1,h2⟩
theorem aftS_sm {d:List SNode} (h:Rt d) (hl:d.length≤24) (ht:Txt d) {w:List Int} (hw:∀c∈w,InR .u8 c) {u:List SItem} (hu:u∈aftS d w):Sm d u∧u.length≤24:=after_sm h hl ht hw ((aftS_mem w).1 hu)
theorem aftS_len {d:List SNode} (h:Rt d) {w:List Int} (hw:∀c∈w,InR .u8 c):(aftS d w).length≤pas d.length w.length:=by
 obtain ⟨K,k1,k2⟩:=after_cov h fun c hc=>(inR_u8.1 (hw c hc)).1
 rw [aftS_set]
 exact Nat.le_trans (setOf_len k2) k1
def canB (d:List SNode) (s:List SItem):List SBranch:=(setOf (hds d s)).map fun t=>(t,sat ((hds d s).count t))
theorem canB_can (d:List SNode) (s:List SItem):Can (fun t=>(hds d s).count t) (canB d s):=by
 refine ⟨List.pairwise_map.2 (setOf_srt _),fun t m=>?_⟩
 unfold canB
 simp only [List.mem_map,Prod.mk.injEq]
 constructor
 ·rintro ⟨u,h1,rfl,h2⟩
  have:=List.count_pos_iff.2 (zdr.1 h1)
  exact ⟨by omega,h2.symm⟩
 ·rintro ⟨h1,h2⟩
  exact ⟨t,zdr.2 (List.count_pos_iff.1 (by omega)),rfl,h2.symm⟩
def clsA (d:List SNode) (s:List SItem):List Cl:=clsB d (canB d s)
def clsL (d:List SNode) (l:List (List SItem)):List Cl:=l.flatMap (clsA d)
theorem clsA_in {d:List SNode} {s:List SItem} (h:Sm d s):zba d s (clsA d s)∧z8 d s (clsA d s)∧(clsA d s).length≤256*10001:=by
 obtain ⟨B,b1,b2,b3⟩:=classes_both h
 have e:=b1.uniq (canB_can d s)
 subst e
 have:=clsB_len d (canB d s)
 have:=(h.hok b1).few
 exact ⟨b2,b3,by unfold clsA;omega⟩
def onceL (l:List Cl):List Cl:=l.foldl (fun o a=>if a∈o then o else o++[a]) []
theorem onceL_snoc (l:List Cl) (a:Cl):onceL (l++[a])=if a∈onceL l then onceL l else onceL l++[a]:=by unfold onceL;rw [List.foldl_append];rfl
theorem cl_ind {p:List Cl→Prop} (h0:p []) (hs:∀w c,p w→p (w++[c])) (w:List Cl):p w:=by
 have:∀n (w:List Cl),w.length=n→p w:=by
  intro n
  induction n with
  | zero=>intro w hw;rw [List.length_eq_zero_iff.1 hw];exact h0
  | succ n ih=>
   intro w hw
   have hne:w≠[]:=fun e=>by subst e;simp at hw
   rw [← List.dropLast_concat_getLast hne]
   exact hs _ _ (ih _ (by simp [hw]))
 exact this _ w rfl
theorem onceL_mem {x:Cl} (l:List Cl):x∈onceL l↔x∈l:=by
 refine cl_ind (p:=fun l=>x∈onceL l↔x∈l) (by simp [onceL]) (fun l a ih=>?_) l
 rw [onceL_snoc]
 by_cases h:a∈onceL l
 ·rw [if_pos h,List.mem_append,ih,List.mem_singleton]
  constructor
  ·exact .inl
  ·rintro (h1 | rfl)
   ·exact h1
   ·exact ih.1 h
 ·rw [if_neg h,List.mem_append,List.mem_append,ih]
theorem onceL_nodup (l:List Cl):(onceL l).Nodup:=by
 refine cl_ind (p:=fun l=>(onceL l).Nodup) (by simp [onceL]) (fun l a ih=>?_) l
 rw [onceL_snoc]
 split
 ·exact ih
 ·rename_i h
  rw [List.nodup_append]
  exact ⟨ih,by simp,fun x hx y hy e=>by rw [List.mem_singleton.1 hy] at e;subst e;exact h hx⟩
theorem onceL_len (l:List Cl):(onceL l).length≤l.length:=by
 refine cl_ind (p:=fun l=>(onceL l).length≤l.length) (by simp [onceL]) (fun l a ih=>?_) l
 rw [onceL_snoc]
 split <;> simp <;> omega
theorem like_mem {l m:List Cl} (h:∀x,x∈l↔x∈m) (c e:Nat):like l c e=like m c e:=by
 unfold like
 rw [Bool.eq_iff_iff,List.all_eq_true,List.all_eq_true]
 exact ⟨fun k x hx=>k x ((h x).2 hx),fun k x hx=>k x ((h x).1 hx)⟩
theorem splitH_mem {l m:List Cl} (h:∀x,x∈l↔x∈m):splitH l=splitH m:=by
 rw [splitH_eq,splitH_eq]
 have:heads l=heads m:=by
  unfold heads
  refine List.filter_congr fun c _=>?_
  congr 1
  funext d
  rw [like_mem h]
 rw [this]
def bytC (l:List Cl):List Int:=splitH (onceL l)
def bytS (d:List SNode) (l:List (List SItem)):List Int:=bytC (clsL d l)
theorem bytC_eq (l:List Cl):bytC l=(heads l).map fun n:Nat=>(n:Int):=by
 unfold bytC
 rw [splitH_mem (m:=l) fun x=>onceL_mem l,splitH_eq]
theorem class_Least_in {a:Cl}:zbv a a.least:=by
 refine upto (P:=fun k (_:Unit) v=>zbv.l1 a a.least _ k v) 256 (fun i _=>∀m,m<i→a.has m=false) ?_ ?_ () (by intro m hm;omega)
 ·intro i s hi hs
  cases hc:a.has i
  ·refine .inr ⟨(),fun m hm=>?_,fun k h=>⟨fun _=>⟨a.has i,class_Has_mod hi,fun h2=>by simp [hc] at h2,fun _=>⟨zk (by omega) (by omega),h⟩⟩,fun h=>absurd (by omega) (df h)⟩⟩
   by_cases e:m=i
   ·subst e;exact hc
   ·exact hs m (by omega)
  ·refine .inl fun k=>⟨fun _=>⟨a.has i,class_Has_mod hi,fun _=>?_,fun h2=>by simp [hc] at h2⟩,fun h=>absurd (by omega) (df h)⟩
   rw [show ((i:Int) % 256)=i by omega]
   exact least_of hi hc hs
 ·intro s hs k
  exact ⟨fun h=>absurd (dt h) (by omega),fun _=>by first | exact least_of_none hs | (show zbv.j1 _ _;exact least_of_none hs)⟩
theorem class_Count_in {a:Cl}:zb3 a (a.count:Int):=by
 refine upto (P:=fun k (s:Int) v=>zb3.l1 a _ k s v) 256 (fun i s=>s=(((List.range i).countP a.has:Nat):Int)) ?_ ?_ _ (by simp)
 ·rintro i s hi rfl
  have hle:=List.countP_le_length (l:=List.range i) (p:=a.has)
  simp only [List.length_range] at hle
  refine .inr ⟨_,rfl,fun k h=>⟨fun _=>⟨a.has i,class_Has_mod hi,fun hc=>?_,fun hc=>?_⟩,fun h=>absurd (by omega) (df h)⟩⟩
  ·rw [List.range_succ,List.countP_append,List.countP_singleton,hc] at h
   exact ⟨zk (by omega) (by omega),zk (by omega) (by omega),by simpa using h⟩
  ·rw [List.range_succ,List.countP_append,List.countP_singleton,hc] at h
   exact ⟨zk (by omega) (by omega),by simpa using h⟩
 ·rintro s rfl k
  exact ⟨fun h=>absurd (dt h) (by omega),fun _=>rfl⟩
theorem class_Both_in {a b:Cl}:zcj a b (a &&& b):=by
 refine words_up (P:=fun k s v=>zcj.l1 b _ k s v) (a:=a) (r:=a &&& b) (fun i w=>w &&& b.word i) (fun i hi=>?_) (fun k i s v hi hw hv h=>?_) (fun k=>?_)
 ·refine word_of_bits hi (Nat.and_lt_two_pow _ (b.word_lt i)) fun j hj=>?_
  rw [has_and,Nat.testBit_and,Cl.word_bit,Cl.word_bit];simp [hj]
 ·refine ⟨fun _=>⟨⟨by omega,by omega⟩,⟨by omega,by omega⟩,⟨by omega,by omega⟩,zk (by omega) (by omega), ?_⟩,fun h=>absurd (by omega) (df h)⟩
  rw [show andI (Cl.w s (i:Int)) (Cl.w b (i:Int))=v by rw [hv];unfold andI;rw [w_nat,w_nat,Int.toNat_natCast,hw]]
  exact h
 ·exact ⟨fun h=>absurd (dt h) (by omega),fun _=>rfl⟩
theorem class_Not_in {a:Cl}:zcy a (~~~ a):=by
 refine words_up (P:=fun k s v=>zcy.l1 _ k s v) (a:=a) (r := ~~~ a) (fun i w=>18446744073709551615 ^^^ w) (fun i hi=>?_) (fun k i s v hi hw hv h=>?_) (fun k=>?_)
 ·refine word_of_bits hi (Nat.xor_lt_two_pow (by omega) (a.word_lt i)) fun j hj=>?_
  rw [has_not (by omega),Nat.testBit_xor,Cl.word_bit,show 18446744073709551615=2 ^ 64-1 by rfl,Nat.testBit_two_pow_sub_one];simp [hj]
 ·refine ⟨fun _=>⟨⟨by omega,by omega⟩,⟨by omega,by omega⟩,zk (by omega) (by omega), ?_⟩,fun h=>absurd (by omega) (df h)⟩
  rw [show xorI 18446744073709551615 (Cl.w s (i:Int))=v by rw [hv];unfold xorI;rw [w_nat,Int.toNat_natCast,hw];rfl]
  exact h
 ·exact ⟨fun h=>absurd (dt h) (by omega),fun _=>rfl⟩
theorem dt0 {p:Prop} [Decidable p] (h:decide p=true):p:=of_decide_eq_true h
theorem df0 {p:Prop} [Decidable p] (h:decide p=false):¬ p:=of_decide_eq_false h
def ByKey (key:Cl→Int) (cmp:Cl × Cl × Int→Prop):Prop:=∀x y,cmp (x,y,key x-key y)
theorem ins_l2 {key:Cl→Int} {cmp:Cl × Cl × Int→Prop} (hc:ByKey key cmp) {A B:List Cl} {x:Cl} {X:List Cl→Prop}:
  ∀(m:Nat) (P G:List Cl),P.length=m→Srt key (P++G)→(∀g∈G,key x<key g)→(A++P++x::(G++B)).length<4611686018427387904 →
   (∀Q,Srt key Q→SEq key (P++x::G) Q→X (A++Q++B)) →
   ∃k,zf.l2 (A.length:Int) cmp X k (A++P++x::(G++B)) ((A.length+P.length:Nat):Int):=by
 intro m
 induction m with
 | zero=>
  intro P G hm hs hg hlen hX
  have hP:=List.eq_nil_of_length_eq_zero hm
  subst hP
  refine ⟨1,x,fun h=>absurd (dt0 h) (by simp),fun h=>absurd (dt0 h) (by simp),x,fun h=>absurd (dt0 h) (by simp),0,fun h=>absurd (dt0 h) (by simp),fun h=>?_,fun _=>?_⟩
  ·simp at h
  ·have:=hX (x::G) (Srt.cons.2 ⟨fun y hy=>Int.le_of_lt (hg y hy),by simpa using hs⟩) (SEq.refl _ _)
   simpa using this
 | succ m ih=>
  intro P G hm hs hg hlen hX
  obtain ⟨P,y,rfl⟩:=snoc_of (l:=P) (by rintro rfl;simp at hm)
  have hmP:P.length=m:=by simpa using hm
  have hl2:A.length+P.length+1<4611686018427387904:=by simp at hlen;omega
  have e0:A++(P++[y])++x::(G++B)=(A++P)++y::x::(G++B):=by simp
  have e1:A++(P++[y])++x::(G++B)=(A++P++[y])++x::(G++B):=by simp
  have hj:((A.length+(P++[y]).length:Nat):Int)=((A.length+P.length:Nat):Int)+1:=by simp <;> omega
  have at1:at? (A++(P++[y])++x::(G++B)) ((A.length+(P++[y]).length:Nat):Int)=some x:=by rw [e1];exact at_mid (by simp <;> omega)
  have at2:at? (A++(P++[y])++x::(G++B)) (((A.length+(P++[y]).length:Nat):Int)-1)=some y:=by rw [e0];exact at_mid (by simp <;> omega)
  by_cases hlt:key x<key y
  ·-- a round more
   obtain ⟨k,hk⟩:=ih P (y::G) hmP (by simpa using hs) (fun g hgm=>by
     rcases List.mem_cons.1 hgm with rfl | h
     ·exact hlt
     ·exact hg g h) (by simp at hlen ⊢ <;> omega) (fun Q hQ hE=>hX Q hQ (SEq.trans (by
      have:SEq key ([y]++[x]) ([x]++[y]):=seq_blocks (by simp <;> omega)
      have h2:=(SEq.refl key P).app (this.app (SEq.refl key G))
      simpa using h2) hE))
   refine ⟨k+1,x,fun _=>at1,fun _=>zk (by omega) (by omega),y,fun _=>at2,key x-key y,fun _=>hc x y,fun _=>?_,fun h=>?_⟩
   ·refine ⟨zk (by omega) (by omega),zk (by omega) (by omega),y,at2,x,at1,x,at1,y, ?_,zk (by omega) (by omega), ?_⟩
    ·rw [e1,set_mid (by simp <;> omega)]
     rw [show (A++P++[y]++y::(G++B))=(A++P)++y::y::(G++B) by simp]
     exact at_mid (by simp <;> omega)
    ·have:((A++(P++[y])++x::(G++B)).set ((A.length+(P++[y]).length:Nat):Int).toNat y).set (((A.length+(P++[y]).length:Nat):Int)-1).toNat x=A++P++x::(y::G++B):=by
      rw [e1,set_mid (by simp <;> omega)]
      rw [show (A++P++[y]++y::(G++B))=(A++P)++y::y::(G++B) by simp]
      rw [set_mid (by simp <;> omega)]
      simp
     rw [this,show (((A.length+(P++[y]).length:Nat):Int)-1)=((A.length+P.length:Nat):Int) by omega]
     exact hk
   ·exfalso
    simp at h
    omega
  ·refine ⟨1,x,fun _=>at1,fun _=>zk (by omega) (by omega),y,fun _=>at2,key x-key y,fun _=>hc x y,fun h=>?_,fun _=>?_⟩
   ·exfalso
    simp at h
    omega
   ·have:=hX (P++[y]++x::G) (Srt.app.2 ⟨(Srt.app.1 hs).1,Srt.cons.2 ⟨fun g hgm=>Int.le_of_lt (hg g hgm),(Srt.app.1 hs).2.1⟩,fun p hp q hq=>?_⟩) (SEq.refl _ _)
    ·simpa using this
    ·have hpy:key p≤key y:=by
      rcases List.mem_append.1 hp with h | h
      ·exact (Srt.app.1 (Srt.app.1 hs).1).2.2 p h y (by simp)
      ·simp at h;subst h;exact Int.le_refl _
     rcases List.mem_cons.1 hq with rfl | h
     ·omega
     ·have:=(Srt.app.1 hs).2.2 p hp q h
      exact this
theorem ins_in {key:Cl→Int} {cmp:Cl × Cl × Int→Prop} (hc:ByKey key cmp) {A S B:List Cl} {a b:Int} (ha:a=(A.length:Int)) (hb:b=((A.length+S.length:Nat):Int)) (hlen:(A++S++B).length<4611686018427387904):
  zf (A++S++B) a b cmp (A++srt key S++B):=by
 have hlA:A.length+S.length<4611686018427387904:=by simp at hlen;omega
 subst ha;subst hb
 have key2:∀(m:Nat) (P R:List Cl),R.length=m→Srt key P→SEq key S (P++R)→∀{X:List Cl→Prop},X (A++srt key S++B) →
   ∃k,zf.l1 (A.length:Int) ((A.length+S.length:Nat):Int) cmp X k (A++(P++R)++B) ((A.length+P.length:Nat):Int):=by
  intro m
  induction m with
  | zero=>
   intro P R hR hP hS X hX
   have:=List.eq_nil_of_length_eq_zero hR
   subst this
   have hl:=hS.length
   simp at hl
   have e:=srt_of hP (by simpa using hS)
   exact ⟨1,fun h=>absurd (dt0 h) (by omega),fun _=>by rw [List.append_nil,e];exact hX⟩
  | succ m ih=>
   intro P R hR hP hS X hX
   cases R with
   | nil=>simp at hR
   | cons x R=>
    have hl:=hS.length
    simp at hl
    simp at hR
    have hS2:SEq key S (srt key (P++[x])++R):=hS.trans (by
     have:=(seq_srt key (P++[x])).app (SEq.refl key R)
     simpa using this)
    obtain ⟨k,hk⟩:=ih (srt key (P++[x])) R hR (srt_srt _ _) hS2 hX
    refine ⟨k+1,fun _=>?_,fun h=>absurd (by omega) (df0 h)⟩
    have:=ins_l2 hc (A:=A) (B:=R++B) (x:=x) (X:=zf.j2 (zf.l1 (A.length:Int) ((A.length+S.length:Nat):Int) cmp X k) ((A.length+P.length:Nat):Int)) P.length P [] rfl (by simpa using hP) (by simp) (by simp at hlen ⊢ <;> omega) (fun Q hQ hE=>by
     have hQe:=srt_of hQ hE
     refine ⟨zk (by omega) (by omega), ?_⟩
     rw [hQe]
     have e1:((A.length+(srt key (P++[x])).length:Nat):Int)=((A.length+P.length:Nat):Int)+1:=by rw [srt_len];simp;omega
     rw [e1] at hk
     simpa using hk)
    simpa using this
 refine ⟨zk (by omega) (by omega), ?_⟩
 cases S with
 | nil=>
  refine ⟨1,fun h=>absurd (dt0 h) (by simp <;> omega),fun _=>?_⟩
  show A++srt key []++B=A++[]++B
  rw [List.eq_nil_of_length_eq_zero (srt_len key [])]
 | cons x S=>
  have:=key2 S.length [x] S rfl (by simp [Srt]) (SEq.refl _ _) (X:=zf.j1 (A++srt key (x::S)++B)) rfl
  simpa using this
theorem swap_l1 {A M B:List Cl} {a b n:Int} {X:List Cl→Prop}:∀(X2 Y2 X1 Y1:List Cl),X2.length=Y2.length→X1.length=Y1.length→a=(A.length:Int)→b=((A.length+X1.length+X2.length+M.length:Nat):Int)→n=((X1.length+X2.length:Nat):Int) →
  (A++Y1++X2++M++X1++Y2++B).length<4611686018427387904→X (A++(Y1++Y2)++M++(X1++X2)++B) →
  ∃k,zl.l1 a b n X k (A++Y1++X2++M++X1++Y2++B) (X1.length:Int)
 | [],[],X1,Y1,_,h1,ha,hb,hn,hl,hX=>⟨1,fun h=>absurd (dt0 h) (by rw [hn];simp),fun _=>by simpa using hX⟩
 | x::X2,y::Y2,X1,Y1,h0,h1,ha,hb,hn,hl,hX=>by
  simp at h0
  have hl':A.length+Y1.length+X2.length+M.length+X1.length+Y2.length+B.length+2<4611686018427387904:=by simp at hl;omega
  obtain ⟨k,hk⟩:=swap_l1 (A:=A) (M:=M) (B:=B) (a:=a) (b:=b) (n:=n) (X:=X) X2 Y2 (X1++[x]) (Y1++[y]) h0 (by simp <;> omega) ha (by rw [hb];simp <;> omega) (by rw [hn];simp <;> omega) (by simp at hl ⊢ <;> omega) (by simpa using hX)
  have e1:A++Y1++x::X2++M++X1++y::Y2++B=(A++Y1)++x::(X2++M++X1++y::Y2++B):=by simp
  have e2:A++Y1++x::X2++M++X1++y::Y2++B=(A++Y1++x::X2++M++X1)++y::(Y2++B):=by simp
  have pa:a+(X1.length:Int)=((A++Y1).length:Int):=by rw [ha];simp <;> omega
  have pb:b+(X1.length:Int)=((A++Y1++x::X2++M++X1).length:Int):=by rw [hb];simp <;> omega
  have hb0:b+(X1.length:Int)<4611686018427387904∧0≤b+(X1.length:Int):=by rw [pb];simp <;> omega
  have ha0:a+(X1.length:Int)<4611686018427387904∧0≤a+(X1.length:Int):=by rw [pa];simp <;> omega
  have aty:at? (A++Y1++x::X2++M++X1++y::Y2++B) (b+(X1.length:Int))=some y:=by rw [e2];exact at_mid pb
  have atx:at? (A++Y1++x::X2++M++X1++y::Y2++B) (a+(X1.length:Int))=some x:=by rw [e1];exact at_mid pa
  have s1:(A++Y1++x::X2++M++X1++y::Y2++B).set (a+(X1.length:Int)).toNat y=A++Y1++y::X2++M++X1++y::Y2++B:=by rw [e1,set_mid pa];simp
  have e3:A++Y1++y::X2++M++X1++y::Y2++B=(A++Y1++y::X2++M++X1)++y::(Y2++B):=by simp
  have pb':b+(X1.length:Int)=((A++Y1++y::X2++M++X1).length:Int):=by rw [pb];simp
  refine ⟨k+1,fun _=>⟨zk (by omega) (by omega),zk (by omega) (by omega),zk (by omega) (by omega),y,aty,zk (by omega) (by omega),x,atx,x,atx,y, ?_,zk (by omega) (by omega), ?_⟩,fun h=>absurd (by rw [hn];simp <;> omega) (df0 h)⟩
  ·rw [s1,e3];exact at_mid pb'
  ·rw [s1,e3,set_mid pb']
   simpa using hk
 | [],_::_,_,_,h,_,_,_,_,_,_=>by simp at h
 | _::_,[],_,_,h,_,_,_,_,_,_=>by simp at h
theorem swap_in {A X M Y B:List Cl} {a b n:Int} {cmp:Cl × Cl × Int→Prop} (ha:a=(A.length:Int)) (hb:b=((A.length+X.length+M.length:Nat):Int)) (hn:n=(X.length:Int)) (hxy:X.length=Y.length) (hl:(A++X++M++Y++B).length<4611686018427387904):
  zl (A++X++M++Y++B) a b n cmp (A++Y++M++X++B):=by
 have:=swap_l1 (A:=A) (M:=M) (B:=B) (a:=a) (b:=b) (n:=n) (X:=zl.j1 (A++Y++M++X++B)) X Y [] [] hxy rfl ha (by rw [hb];simp) (by rw [hn];simp) (by simpa using hl) rfl
 unfold zl
 simpa using this
theorem rot_in {A X Y B:List Cl} {a m b:Int} {cmp:Cl × Cl × Int→Prop} (ha:a=(A.length:Int)) (hm:m=((A.length+X.length:Nat):Int)) (hb:b=((A.length+X.length+Y.length:Nat):Int)) (hX:X≠[]) (hY:Y≠[]) (hl:(A++X++Y++B).length<4611686018427387904):
  zq (A++X++Y++B) a m b cmp (A++Y++X++B):=by
 have hl':A.length+X.length+Y.length+B.length<4611686018427387904:=by simp at hl;omega
 refine ⟨zk (by omega) (by omega),zk (by omega) (by omega), ?_⟩
 have key:∀(f:Nat) (L X' Y' R:List Cl),X'.length+Y'.length≤f→X'≠[]→Y'≠[]→A.length+L.length+X'.length=A.length+X.length→L++Y'++X'++R=Y++X →
   ∃k,zq.l1 m cmp (zq.j1 m cmp (A++Y++X++B)) k (A++L++X'++Y'++R++B) (X'.length:Int) (Y'.length:Int):=by
  intro f
  induction f with
  | zero=>intro L X' Y' R hf hx;exact absurd (List.eq_nil_of_length_eq_zero (by omega)) hx
  | succ f ih=>
   intro L X' Y' R hf hx hy hmid heq
   have hx':0<X'.length:=List.length_pos_iff.2 hx
   have hy':0<Y'.length:=List.length_pos_iff.2 hy
   have hle:=congrArg List.length heq
   simp at hle
   by_cases hlt:Y'.length<X'.length
   ·obtain ⟨X1,X2,rfl,hX1⟩:=split_at X' (Nat.le_of_lt hlt)
    have hX2:X2≠[]:=by rintro rfl;simp at hlt;omega
    have hX2':0<X2.length:=List.length_pos_iff.2 hX2
    simp at hle hmid hf hlt
    obtain ⟨k,hk⟩:=ih (L++Y') X2 X1 R (by omega) hX2 (by rintro rfl;simp at hX1;omega) (by first | omega | (simp;omega)) (by simpa using heq)
    refine ⟨k+1,fun _=>⟨fun _=>⟨zk (by first | omega | (simp;omega)) (by first | omega | (simp;omega)),A++L++Y'++X2++X1++(R++B), ?_,zk (by first | omega | (simp;omega)) (by first | omega | (simp;omega)), ?_⟩,fun h=>absurd (by simp;omega) (df0 h)⟩,fun h=>by simp at h;omega⟩
    ·have:=swap_in (cmp:=cmp) (A:=A++L) (X:=X1) (M:=X2) (Y:=Y') (B:=R++B) (a:=m-((X1++X2).length:Int)) (b:=m) (n:=(Y'.length:Int)) (by rw [hm];simp;omega) (by rw [hm];simp;omega) (by omega) (by omega) (by simp;omega)
     simpa using this
    ·have e:(((X1++X2).length:Nat):Int)-(Y'.length:Int)=(X2.length:Int):=by simp;omega
     rw [e,← hX1]
     simpa using hk
   ·by_cases heq2:X'.length=Y'.length
    ·refine ⟨1,fun h=>?_,fun _=>⟨zk (by first | omega | (simp;omega)) (by first | omega | (simp;omega)),A++L++Y'++X'++R++B, ?_, ?_⟩⟩
     ·simp at h;omega
     ·have:=swap_in (cmp:=cmp) (A:=A++L) (X:=X') (M:=[]) (Y:=Y') (B:=R++B) (a:=m-(X'.length:Int)) (b:=m) (n:=(X'.length:Int)) (by rw [hm];simp;omega) (by rw [hm];simp;omega) rfl heq2 (by simp;omega)
      simpa using this
     ·have:A++(Y++X)++B=A++(L++Y'++X'++R)++B:=by rw [heq]
      simpa using this
    ·have hlt2:X'.length<Y'.length:=by omega
     obtain ⟨Y1,Y2,rfl,hY1⟩:=split_at Y' (show Y'.length-X'.length≤Y'.length by omega)
     have hY2:Y2.length=X'.length:=by simp at hY1 hlt2;omega
     have hY1':Y1≠[]:=by rintro rfl;simp at hY1 hlt2;omega
     simp at hle hmid hf hlt2
     obtain ⟨k,hk⟩:=ih L Y2 Y1 (X'++R) (by omega) (by rintro rfl;simp at hY2;omega) hY1' (by omega) (by simpa using heq)
     refine ⟨k+1,fun _=>⟨fun h=>absurd (dt0 h) (by simp;omega),fun _=>⟨zk (by omega) (by omega),zk (by first | omega | (simp;omega)) (by first | omega | (simp;omega)),zk (by first | omega | (simp;omega)) (by first | omega | (simp;omega)),A++L++Y2++Y1++X'++(R++B), ?_,zk (by first | omega | (simp;omega)) (by first | omega | (simp;omega)), ?_⟩⟩,fun h=>by simp at h;omega⟩
     ·have:=swap_in (cmp:=cmp) (A:=A++L) (X:=X') (M:=Y1) (Y:=Y2) (B:=R++B) (a:=m-(X'.length:Int)) (b:=m+((Y1++Y2).length:Int)-(X'.length:Int)) (n:=(X'.length:Int)) (by rw [hm];simp;omega) (by rw [hm];simp;omega) rfl (by omega) (by simp;omega)
      simpa using this
     ·have e:(((Y1++Y2).length:Nat):Int)-(X'.length:Int)=(Y1.length:Int):=by simp;omega
      rw [e,← hY2]
      simpa using hk
 have:=key (X.length+Y.length) [] X Y [] (Nat.le_refl _) hX hY (by simp) (by simp)
 have e1:m-a=(X.length:Int):=by omega
 have e2:b-m=(Y.length:Int):=by omega
 rw [e1,e2]
 simpa using this
theorem at_app1 {A S B:List Cl} {c:Nat} (h1:A.length≤c) (h2:c<A.length+S.length):at? (A++S++B) (c:Int)=some (S[c-A.length]'(by omega)):=by
 rw [zbw,List.append_assoc,List.getElem?_append_right h1,List.getElem?_append_left (by omega),List.getElem?_eq_getElem (by omega)]
theorem srt_le {key:Cl→Int} {S:List Cl} (h:Srt key S) {i j:Nat} (hij:i≤j) (hj:j<S.length):key (S[i]'(by omega))≤key S[j]:=by
 rcases Nat.lt_or_ge i j with hlt | hge
 ·exact List.pairwise_iff_getElem.1 h i j (by omega) hj hlt
 ·have:i=j:=by omega
  subst this;exact Int.le_refl _
theorem sm_l1 {A B:List Cl} {x:Cl} {i:Int} {X:List Cl→Prop}:∀(Y2 Y1:List Cl),i=((A.length+Y1.length+Y2.length:Nat):Int)+1→(A++Y1++x::Y2++B).length<4611686018427387904→X (A++(Y1++Y2)++x::B) →
  ∃k,za.l1 i X k (A++Y1++x::Y2++B) ((A.length+Y1.length:Nat):Int)
 | [],Y1,hi,hl,hX=>by
  have hl':A.length+Y1.length<4611686018427387904:=by simp at hl;omega
  exact ⟨1,zk (by simp at hi;omega) (by simp at hi;omega),fun h=>absurd (dt0 h) (by simp at hi;omega),fun _=>by simpa using hX⟩
 | y::Y2,Y1,hi,hl,hX=>by
  have hl':A.length+Y1.length+Y2.length+1<4611686018427387904:=by simp at hl;omega
  have hi':=hi
  simp at hi'
  obtain ⟨k,hk⟩:=sm_l1 (A:=A) (B:=B) (x:=x) (i:=i) (X:=X) Y2 (Y1++[y]) (by rw [hi];simp;omega) (by simp at hl ⊢;omega) (by simpa using hX)
  have e1:A++Y1++x::(y::Y2)++B=(A++Y1)++x::(y::Y2++B):=by simp
  have e2:A++Y1++x::(y::Y2)++B=(A++Y1++[x])++y::(Y2++B):=by simp
  have p1:((A.length+Y1.length:Nat):Int)=((A++Y1).length:Int):=by simp
  have p2:((A.length+Y1.length:Nat):Int)+1=((A++Y1++[x]).length:Int):=by simp;omega
  have a1:at? (A++Y1++x::(y::Y2)++B) ((A.length+Y1.length:Nat):Int)=some x:=by rw [e1];exact at_mid p1
  have a2:at? (A++Y1++x::(y::Y2)++B) (((A.length+Y1.length:Nat):Int)+1)=some y:=by rw [e2];exact at_mid p2
  have s1:(A++Y1++x::(y::Y2)++B).set ((A.length+Y1.length:Nat):Int).toNat y=(A++Y1++[y])++y::(Y2++B):=by rw [e1,set_mid p1];simp
  have p2':((A.length+Y1.length:Nat):Int)+1=((A++Y1++[y]).length:Int):=by simp;omega
  refine ⟨k+1,zk (by omega) (by omega),fun _=>⟨zk (by omega) (by omega),zk (by omega) (by omega),y,a2,x,a1,x,a1,y, ?_,zk (by omega) (by omega), ?_⟩,fun h=>absurd (by omega) (df0 h)⟩
  ·rw [s1];exact at_mid p2'
  ·rw [s1,set_mid p2']
   have p3:((A.length+(Y1++[y]).length:Nat):Int)=((A.length+Y1.length:Nat):Int)+1:=by simp;omega
   rw [p3] at hk
   simpa using hk
theorem sm_l3 {A B:List Cl} {x:Cl} {i:Int} {X:List Cl→Prop}:∀(m:Nat) (Y1 Y2:List Cl),Y1.length=m→i=(A.length:Int)→(A++Y1++x::Y2++B).length<4611686018427387904→X (A++x::(Y1++Y2)++B) →
  ∃k,za.l3 i X k (A++Y1++x::Y2++B) ((A.length+Y1.length:Nat):Int):=by
 intro m
 induction m with
 | zero=>
  intro Y1 Y2 hm hi hl hX
  have:=List.eq_nil_of_length_eq_zero hm
  subst this
  exact ⟨1,fun h=>absurd (dt0 h) (by rw [hi];simp),fun _=>by simpa using hX⟩
 | succ m ih=>
  intro Y1 Y2 hm hi hl hX
  obtain ⟨Y1,y,rfl⟩:=snoc_of (l:=Y1) (by rintro rfl;simp at hm)
  have hl':A.length+Y1.length+Y2.length+1<4611686018427387904:=by simp at hl;omega
  obtain ⟨k,hk⟩:=ih Y1 (y::Y2) (by simpa using hm) hi (by simp at hl ⊢;omega) (by simpa using hX)
  have e1:A++(Y1++[y])++x::Y2++B=(A++Y1)++y::(x::Y2++B):=by simp
  have e2:A++(Y1++[y])++x::Y2++B=(A++Y1++[y])++x::(Y2++B):=by simp
  have p2:((A.length+(Y1++[y]).length:Nat):Int)=((A++Y1++[y]).length:Int):=by simp
  have p1:((A.length+(Y1++[y]).length:Nat):Int)-1=((A++Y1).length:Int):=by simp;omega
  have a2:at? (A++(Y1++[y])++x::Y2++B) ((A.length+(Y1++[y]).length:Nat):Int)=some x:=by rw [e2];exact at_mid p2
  have a1:at? (A++(Y1++[y])++x::Y2++B) (((A.length+(Y1++[y]).length:Nat):Int)-1)=some y:=by rw [e1];exact at_mid p1
  have s1:(A++(Y1++[y])++x::Y2++B).set ((A.length+(Y1++[y]).length:Nat):Int).toNat y=(A++Y1)++y::(y::Y2++B):=by rw [e2,set_mid p2];simp
  refine ⟨k+1,fun _=>⟨zk (by simp;omega) (by simp;omega),zk (by simp;omega) (by simp;omega),y,a1,x,a2,x,a2,y, ?_,zk (by simp;omega) (by simp;omega), ?_⟩,fun h=>absurd (by rw [hi];simp;omega) (df0 h)⟩
  ·rw [s1];exact at_mid p1
  ·rw [s1,set_mid p1,p1,show (((A++Y1).length:Nat):Int)=((A.length+Y1.length:Nat):Int) by simp]
   simpa using hk
theorem at_gd {A S B:List Cl} {c:Nat} (h1:A.length≤c) (h2:c<A.length+S.length):at? (A++S++B) (c:Int)=some (S.getD (c-A.length) 0#256):=by
 rw [at_app1 h1 h2,List.getD,List.getElem?_eq_getElem (by omega)];rfl
theorem gd_le {key:Cl→Int} {S:List Cl} (h:Srt key S) {i j:Nat} (hij:i≤j) (hj:j<S.length):key (S.getD i 0#256)≤key (S.getD j 0#256):=by
 have:=srt_le h hij hj
 rw [List.getD,List.getD,List.getElem?_eq_getElem (by omega),List.getElem?_eq_getElem hj];exact this
theorem getD_l {X Y:List Cl} {q:Nat} (h:q<X.length):(X++Y).getD q 0#256=X[q]:=by
 rw [List.getD,List.getElem?_append_left h,List.getElem?_eq_getElem h];rfl
theorem getD_r {X Y:List Cl} {q:Nat} (h:q<Y.length):(X++Y).getD (X.length+q) 0#256=Y[q]:=by
 rw [List.getD,List.getElem?_append_right (by omega),Nat.add_sub_cancel_left,List.getElem?_eq_getElem h];rfl
theorem sym_j7 {key:Cl→Int} {cmp:Cl × Cl × Int→Prop} {f:Nat} {A S1 S2 T1 T2 B:List Cl}
  (ih:∀(A S T B:List Cl),S.length+T.length≤f→S≠[]→T≠[]→Srt key S→Srt key T→(A++S++T++B).length<4611686018427387904 →
   za.n f (A++S++T++B) (A.length:Int) ((A.length+S.length:Nat):Int) ((A.length+S.length+T.length:Nat):Int) cmp (A++srt key (S++T)++B))
  (hS:Srt key (S1++S2)) (hT:Srt key (T1++T2)) (hlen:(A++(S1++S2)++(T1++T2)++B).length<4611686018427387904) (h1:∀t∈T1,∀s∈S2,key t<key s) (h2:∀s∈S1,∀t∈T2,key s≤key t)
  {st mid m b:Int} (hst:st=((A.length+S1.length:Nat):Int)) (hmid:mid=((A.length+S1.length+T1.length:Nat):Int)) (hm:m=((A.length+S1.length+S2.length:Nat):Int)) (hb:b=((A.length+S1.length+S2.length+T1.length+T2.length:Nat):Int))
  (hf1:S1.length+T1.length≤f) (hf2:S2.length+T2.length≤f):
  za.j7 (za.n f) (A++(S1++S2)++(T1++T2)++B) (A.length:Int) m b cmp (A++srt key ((S1++S2)++(T1++T2))++B) mid st:=by
 have hl:A.length+S1.length+S2.length+T1.length+T2.length+B.length<4611686018427387904:=by simp at hlen;omega
 obtain ⟨hS1,hS2,hSS⟩:=Srt.app.1 hS
 obtain ⟨hT1,hT2,hTT⟩:=Srt.app.1 hT
 have hres:srt key ((S1++S2)++(T1++T2))=srt key (S1++T1)++srt key (S2++T2):=by
  refine (srt_of (Srt.app.2 ⟨srt_srt _ _,srt_srt _ _,fun x hx y hy=>?_⟩) ?_).symm
  ·have hx':=(seq_srt key (S1++T1)).perm.mem_iff.2 hx
   have hy':=(seq_srt key (S2++T2)).perm.mem_iff.2 hy
   rcases List.mem_append.1 hx' with hx1 | hx1 <;> rcases List.mem_append.1 hy' with hy1 | hy1
   ·exact hSS x hx1 y hy1
   ·exact h2 x hx1 y hy1
   ·exact Int.le_of_lt (h1 x hx1 y hy1)
   ·exact hTT x hx1 y hy1
  ·have e1:SEq key (S2++T1) (T1++S2):=seq_blocks fun x hx y hy=>by have:=h1 y hy x hx;omega
   have e2:=(SEq.refl key S1).app (e1.app (SEq.refl key T2))
   have e3:=(seq_srt key (S1++T1)).app (seq_srt key (S2++T2))
   exact SEq.trans (by simpa using e2) (by simpa using e3)
 rw [hres]
 have hj5:za.j5 (za.n f) m b cmp (A++(srt key (S1++T1)++srt key (S2++T2))++B) mid st (A++srt key (S1++T1)++S2++T2++B):=by
  refine ⟨_,rfl,fun h=>?_,fun h=>?_⟩
  ·simp only [Bool.and_eq_true,decide_eq_true_eq] at h
   have hS2n:S2≠[]:=by rintro rfl;simp at hm;omega
   have hT2n:T2≠[]:=by rintro rfl;simp at hb;omega
   have:=ih (A++srt key (S1++T1)) S2 T2 B hf2 hS2n hT2n hS2 hT2 (by simp [srt_len];omega)
   refine ⟨_, ?_,rfl⟩
   have e1:(((A++srt key (S1++T1)).length:Nat):Int)=mid:=by rw [hmid];simp [srt_len];omega
   have e2:(((A++srt key (S1++T1)).length+S2.length:Nat):Int)=mid+m-st:=by rw [hmid,hm,hst];simp [srt_len];omega
   have e3:(((A++srt key (S1++T1)).length+S2.length+T2.length:Nat):Int)=b:=by rw [hb];simp [srt_len];omega
   rw [e1,e2,e3] at this
   simpa using this
  ·have:S2=[]∨T2=[]:=by
    simp only [Bool.and_eq_false_iff,decide_eq_false_iff_not] at h
    rcases h with h | h
    ·left;exact List.eq_nil_of_length_eq_zero (by omega)
    ·right;exact List.eq_nil_of_length_eq_zero (by omega)
   have e:srt key (S2++T2)=S2++T2:=by
    rcases this with rfl | rfl
    ·exact (srt_of (by simpa using hT2) (SEq.refl _ _)).symm
    ·exact (srt_of (by simpa using hS2) (SEq.refl _ _)).symm
   rw [e];simp
 have hj6:za.j6 (za.n f) (A.length:Int) m b cmp (A++(srt key (S1++T1)++srt key (S2++T2))++B) mid st (A++S1++T1++S2++T2++B):=by
  refine ⟨_,rfl,fun h=>?_,fun h=>?_⟩
  ·simp only [Bool.and_eq_true,decide_eq_true_eq] at h
   have hS1n:S1≠[]:=by rintro rfl;simp at hst;omega
   have hT1n:T1≠[]:=by rintro rfl;simp at hmid;omega
   have:=ih A S1 T1 (S2++T2++B) hf1 hS1n hT1n hS1 hT1 (by simp;omega)
   refine ⟨A++srt key (S1++T1)++S2++T2++B, ?_,hj5⟩
   rw [← hst,← hmid] at this
   simpa using this
  ·have:S1=[]∨T1=[]:=by
    simp only [Bool.and_eq_false_iff,decide_eq_false_iff_not] at h
    rcases h with h | h
    ·left;exact List.eq_nil_of_length_eq_zero (by omega)
    ·right;exact List.eq_nil_of_length_eq_zero (by omega)
   have e:srt key (S1++T1)=S1++T1:=by
    rcases this with rfl | rfl
    ·exact (srt_of (by simpa using hT1) (SEq.refl _ _)).symm
    ·exact (srt_of (by simpa using hS1) (SEq.refl _ _)).symm
   rw [e] at hj5 ⊢
   simpa using hj5
 refine ⟨zk (by omega) (by omega),_,rfl,fun h=>?_,fun h=>?_⟩
 ·simp only [Bool.and_eq_true,decide_eq_true_eq] at h
  have hS2n:S2≠[]:=by rintro rfl;simp at hm;omega
  have hT1n:T1≠[]:=by rintro rfl;simp at hmid;omega
  have:=rot_in (cmp:=cmp) (A:=A++S1) (X:=S2) (Y:=T1) (B:=T2++B) (a:=st) (m:=m) (b:=mid+m-st) (by rw [hst];simp) (by rw [hm];simp) (by rw [hmid,hm,hst];simp;omega) hS2n hT1n (by simp;omega)
  refine ⟨A++S1++T1++S2++T2++B, ?_,hj6⟩
  simpa using this
 ·have:S2=[]∨T1=[]:=by
   simp only [Bool.and_eq_false_iff,decide_eq_false_iff_not] at h
   rcases h with h | h
   ·left;exact List.eq_nil_of_length_eq_zero (by omega)
   ·right;exact List.eq_nil_of_length_eq_zero (by omega)
  have e:A++(S1++S2)++(T1++T2)++B=A++S1++T1++S2++T2++B:=by
   rcases this with rfl | rfl <;> simp
  rw [e];exact hj6
theorem sym_n {key:Cl→Int} {cmp:Cl × Cl × Int→Prop} (hc:ByKey key cmp):∀(f:Nat) (A S T B:List Cl),S.length+T.length≤f→S≠[]→T≠[]→Srt key S→Srt key T→(A++S++T++B).length<4611686018427387904 →
  za.n f (A++S++T++B) (A.length:Int) ((A.length+S.length:Nat):Int) ((A.length+S.length+T.length:Nat):Int) cmp (A++srt key (S++T)++B):=by
 intro f
 induction f with
 | zero=>intro A S T B hf hS;exact absurd (List.eq_nil_of_length_eq_zero (by omega)) hS
 | succ f ih=>
  intro A S T B hf hSn hTn hS hT hlen
  have hl:A.length+S.length+T.length+B.length<4611686018427387904:=by simp at hlen;omega
  have hs0:0<S.length:=List.length_pos_iff.2 hSn
  have ht0:0<T.length:=List.length_pos_iff.2 hTn
  have atS:∀c:Nat,A.length≤c→c<A.length+S.length→at? (A++S++T++B) (c:Int)=some (S.getD (c-A.length) 0#256):=fun c h1 h2=>by
   rw [show A++S++T++B=A++S++(T++B) by simp];exact at_gd h1 h2
  have atT:∀c:Nat,A.length+S.length≤c→c<A.length+S.length+T.length→at? (A++S++T++B) (c:Int)=some (T.getD (c-(A.length+S.length)) 0#256):=fun c h1 h2=>by
   have:=at_gd (A:=A++S) (S:=T) (B:=B) (c:=c) (by simp;omega) (by simp;omega)
   simpa using this
  refine ⟨zk (by omega) (by omega),fun h1=>?_,fun h1=>⟨zk (by omega) (by omega),fun h2=>?_,fun h2=>⟨zk (by omega) (by omega), ?_⟩⟩⟩
  ·-- one thing ahead
   have hs1:S.length=1:=by simp at h1;omega
   obtain ⟨x,rfl⟩:=List.length_eq_one_iff.1 hs1
   refine bsearch (P:=fun k i j=>za.l2 (A++[x]++T++B) (A.length:Int) cmp _ k i j) (fun c=>decide (key (T.getD (c-(A.length+1)) 0#256)<key x)) (A.length+1) (A.length+1+T.length) (fun c d h1 h2 h3 h4=>?_) (fun k i j h1 h2 h3=>?_) (fun k i h1 h2 h3 h4=>?_) (by omega)
   ·have:=gd_le hT (i:=c-(A.length+1)) (j:=d-(A.length+1)) (by omega) (by omega)
    simp only [decide_eq_true_eq] at h4 ⊢;omega
   ·have hat:=atT ((i+j) / 2) (by simp;omega) (by simp;omega)
    have hax:=atS A.length (Nat.le_refl _) (by simp)
    have hh:∀(p:Prop),(((decide ((i:Int)<(j:Int)))=true→InR .i64 ((i:Int)+j)∧∃i42:Int,i42=(IntKind.wrap .i64 (shrI (IntKind.wrap .u64 ((i:Int)+j)) 1))∧∃e45:Cl,at? (A++[x]++T++B) i42=some e45∧∃e47:Cl,at? (A++[x]++T++B) (A.length:Int)=some e47∧∃r49:Int,cmp (e45,e47,r49)∧p)→True):=fun _ _=>trivial
    constructor
    ·intro hp hk
     refine ⟨fun _=>⟨zk (by omega) (by omega),_,rfl,T.getD ((i+j) / 2-(A.length+1)) 0#256, ?_,x,by simpa using hax,_,hc _ _,fun _=>⟨?_, ?_⟩,fun h=>?_⟩,fun h=>absurd (by omega) (df0 h)⟩
     ·rw [half_of (by omega) (by omega),show ((i:Int)+j) / 2=(((i+j) / 2:Nat):Int) by omega];simpa using hat
     ·rw [half_of (by omega) (by omega)];exact zk (by omega) (by omega)
     ·rw [half_of (by omega) (by omega),show ((i:Int)+j) / 2+1=(((i+j) / 2+1:Nat):Int) by omega];exact hk
     ·exfalso;simp at h hp;omega
    ·intro hp hk
     refine ⟨fun _=>⟨zk (by omega) (by omega),_,rfl,T.getD ((i+j) / 2-(A.length+1)) 0#256, ?_,x,by simpa using hax,_,hc _ _,fun h=>?_,fun _=>?_⟩,fun h=>absurd (by omega) (df0 h)⟩
     ·rw [half_of (by omega) (by omega),show ((i:Int)+j) / 2=(((i+j) / 2:Nat):Int) by omega];simpa using hat
     ·exfalso;simp at h hp;omega
     ·rw [half_of (by omega) (by omega),show ((i:Int)+j) / 2=(((i+j) / 2:Nat):Int) by omega];exact hk
   ·refine ⟨fun h=>absurd (dt0 h) (by omega),fun _=>?_⟩
    obtain ⟨T1,T2,rfl,hT1⟩:=split_at T (show i-(A.length+1)≤T.length by omega)
    have hlt:∀y∈T1,key y<key x:=fun y hy=>by
     obtain ⟨q,hq,rfl⟩:=List.mem_iff_getElem.1 hy
     have:=h3 (A.length+1+q) (by omega) (by omega)
     rw [show A.length+1+q-(A.length+1)=q by omega,getD_l hq] at this
     exact of_decide_eq_true this
    have hge:∀y∈T2,key x≤key y:=fun y hy=>by
     obtain ⟨q,hq,rfl⟩:=List.mem_iff_getElem.1 hy
     have:=h4 (A.length+1+T1.length+q) (by omega) (by simp;omega)
     rw [show A.length+1+T1.length+q-(A.length+1)=T1.length+q by omega,getD_r hq] at this
     have:=of_decide_eq_false this
     omega
    have hres:srt key ([x]++(T1++T2))=T1++x::T2:=by
     refine (srt_of (Srt.app.2 ⟨(Srt.app.1 hT).1,Srt.cons.2 ⟨hge,(Srt.app.1 hT).2.1⟩,fun p hp q hq=>?_⟩) ?_).symm
     ·rcases List.mem_cons.1 hq with rfl | hq
      ·exact Int.le_of_lt (hlt p hp)
      ·exact (Srt.app.1 hT).2.2 p hp q hq
     ·have e1:SEq key ([x]++T1) (T1++[x]):=seq_blocks fun a ha b hb=>by simp at ha;subst ha;have:=hlt b hb;omega
      simpa using e1.app (SEq.refl key T2)
    rw [hres]
    have:=sm_l1 (A:=A) (B:=T2++B) (x:=x) (i:=(i:Int)) (X:=za.j1 (A++(T1++x::T2)++B)) T1 [] (by simp;omega) (by simp at hl ⊢;omega) (by simp [za.j1])
    show ∃k15,za.l1 (i:Int) _ k15 _ _
    simpa using this
  ·-- one thing behind
   have ht1:T.length=1:=by simp at h2;omega
   obtain ⟨y,rfl⟩:=List.length_eq_one_iff.1 ht1
   refine bsearch (P:=fun k i j=>za.l4 (A++S++[y]++B) ((A.length+S.length:Nat):Int) cmp _ k i j) (fun c=>!decide (key y<key (S.getD (c-A.length) 0#256))) A.length (A.length+S.length) (fun c d h1 h2 h3 h4=>?_) (fun k i j h1 h2 h3=>?_) (fun k i h1 h2 h3 h4=>?_) (by omega)
   ·have:=gd_le hS (i:=c-A.length) (j:=d-A.length) (by omega) (by omega)
    simp only [Bool.not_eq_true',decide_eq_false_iff_not] at h4 ⊢;omega
   ·have hat:=atS ((i+j) / 2) (by omega) (by omega)
    have hay:=atT (A.length+S.length) (Nat.le_refl _) (by simp)
    constructor
    ·intro hp hk
     refine ⟨fun _=>⟨zk (by omega) (by omega),_,rfl,y,by simpa using hay,S.getD ((i+j) / 2-A.length) 0#256, ?_,_,hc _ _,fun _=>⟨?_, ?_⟩,fun h=>?_⟩,fun h=>absurd (by omega) (df0 h)⟩
     ·rw [half_of (by omega) (by omega),show ((i:Int)+j) / 2=(((i+j) / 2:Nat):Int) by omega];exact hat
     ·rw [half_of (by omega) (by omega)];exact zk (by omega) (by omega)
     ·rw [half_of (by omega) (by omega),show ((i:Int)+j) / 2+1=(((i+j) / 2+1:Nat):Int) by omega];exact hk
     ·exfalso;simp only [Bool.not_eq_true',Bool.not_eq_false',decide_eq_true_eq,decide_eq_false_iff_not] at h hp;omega
    ·intro hp hk
     refine ⟨fun _=>⟨zk (by omega) (by omega),_,rfl,y,by simpa using hay,S.getD ((i+j) / 2-A.length) 0#256, ?_,_,hc _ _,fun h=>?_,fun _=>?_⟩,fun h=>absurd (by omega) (df0 h)⟩
     ·rw [half_of (by omega) (by omega),show ((i:Int)+j) / 2=(((i+j) / 2:Nat):Int) by omega];exact hat
     ·exfalso;simp only [Bool.not_eq_true',Bool.not_eq_false',decide_eq_true_eq,decide_eq_false_iff_not] at h hp;omega
     ·rw [half_of (by omega) (by omega),show ((i:Int)+j) / 2=(((i+j) / 2:Nat):Int) by omega];exact hk
   ·refine ⟨fun h=>absurd (dt0 h) (by omega),fun _=>?_⟩
    obtain ⟨S1,S2,rfl,hS1⟩:=split_at S (show i-A.length≤S.length by omega)
    have hle:∀x∈S1,key x≤key y:=fun x hx=>by
     obtain ⟨q,hq,rfl⟩:=List.mem_iff_getElem.1 hx
     have:=h3 (A.length+q) (by omega) (by omega)
     rw [show A.length+q-A.length=q by omega,getD_l hq] at this
     simp only [Bool.not_eq_true',decide_eq_false_iff_not] at this
     omega
    have hgt:∀x∈S2,key y<key x:=fun x hx=>by
     obtain ⟨q,hq,rfl⟩:=List.mem_iff_getElem.1 hx
     have:=h4 (A.length+S1.length+q) (by omega) (by simp;omega)
     rw [show A.length+S1.length+q-A.length=S1.length+q by omega,getD_r hq] at this
     simpa using this
    have hres:srt key ((S1++S2)++[y])=S1++y::S2:=by
     refine (srt_of (Srt.app.2 ⟨(Srt.app.1 hS).1,Srt.cons.2 ⟨fun q hq=>Int.le_of_lt (hgt q hq),(Srt.app.1 hS).2.1⟩,fun p hp q hq=>?_⟩) ?_).symm
     ·rcases List.mem_cons.1 hq with rfl | hq
      ·exact hle p hp
      ·exact (Srt.app.1 hS).2.2 p hp q hq
     ·have e1:SEq key (S2++[y]) ([y]++S2):=seq_blocks fun a ha b hb=>by simp at hb;subst hb;have:=hgt a ha;omega
      simpa using (SEq.refl key S1).app e1
    rw [hres]
    have:=sm_l3 (A:=A++S1) (B:=B) (x:=y) (i:=(i:Int)) (X:=za.j3 (A++(S1++y::S2)++B)) S2.length S2 [] rfl (by simp;omega) (by simp at hl ⊢;omega) (by simp [za.j3])
    show ∃k66,za.l3 (i:Int) _ k66 _ _
    have e:(((A++S1).length+S2.length:Nat):Int)=((A.length+(S1++S2).length:Nat):Int):=by simp;omega
    rw [e] at this
    simpa using this
  ·-- both longer
   have hs2:2≤S.length:=by simp at h1;omega
   have ht2:2≤T.length:=by simp at h2;omega
   obtain ⟨mid,hmid⟩:∃mid:Nat,mid=(A.length+(A.length+S.length+T.length)) / 2:=⟨_,rfl⟩
   have hmidI:IntKind.wrap .i64 (shrI (IntKind.wrap .u64 ((A.length:Int)+((A.length+S.length+T.length:Nat):Int))) 1)=(mid:Int):=by
    rw [half_of (by omega) (by omega)];omega
   refine ⟨_,rfl, ?_⟩
   rw [hmidI]
   have main:∀(lo hi:Nat),(lo=A.length∨lo+(A.length+S.length+T.length)=mid+(A.length+S.length))→A.length≤lo→mid+(A.length+S.length)≤lo+(A.length+S.length+T.length)→(hi=mid∨hi=A.length+S.length)→hi≤mid→hi≤A.length+S.length→lo≤hi →
     za.j8 (za.n f) (A++S++T++B) (A.length:Int) ((A.length+S.length:Nat):Int) ((A.length+S.length+T.length:Nat):Int) cmp (A++srt key (S++T)++B) (mid:Int) (lo:Int) (hi:Int):=by
    intro lo hi hlo hla hlb hhi hhm hhs hle
    refine ⟨zk (by omega) (by omega), ?_⟩
    refine bsearch (P:=fun k i j=>za.l5 (A++S++T++B) ((A.length+S.length:Nat):Int) cmp (mid:Int) _ k i j) (fun c=>!decide (key (T.getD (mid-1-c) 0#256)<key (S.getD (c-A.length) 0#256))) lo hi (fun c d h1 h2 h3 h4=>?_) (fun k i j h1 h2 h3=>?_) (fun k st h1 h2 h3 h4=>?_) hle
    ·have e1:=gd_le hS (i:=c-A.length) (j:=d-A.length) (by omega) (by omega)
     have e2:=gd_le hT (i:=mid-1-d) (j:=mid-1-c) (by omega) (by omega)
     simp only [Bool.not_eq_true',decide_eq_false_iff_not] at h4 ⊢;omega
    ·have hat:=atS ((i+j) / 2) (by omega) (by omega)
     have hay:=atT (mid+(A.length+S.length)-1-(i+j) / 2) (by omega) (by omega)
     rw [show mid+(A.length+S.length)-1-(i+j) / 2-(A.length+S.length)=mid-1-(i+j) / 2 by omega] at hay
     have hpc:(mid:Int)+((A.length+S.length:Nat):Int)-1-(((i+j) / 2:Nat):Int)=((mid+(A.length+S.length)-1-(i+j) / 2:Nat):Int):=by omega
     have hh:IntKind.wrap .i64 (shrI (IntKind.wrap .u64 ((i:Int)+(j:Int))) 1)=(((i+j) / 2:Nat):Int):=by rw [half_of (by omega) (by omega)];omega
     constructor
     ·intro hp hk
      refine ⟨fun _=>⟨zk (by omega) (by omega),_,rfl, ?_⟩,fun h=>absurd (by omega) (df0 h)⟩
      rw [hh,hpc]
      refine ⟨zk (by omega) (by omega),_,hay,_,hat,_,hc _ _,fun _=>⟨zk (by omega) (by omega),by simpa using hk⟩,fun h=>?_⟩
      exfalso;simp only [Bool.not_eq_true',Bool.not_eq_false',decide_eq_true_eq,decide_eq_false_iff_not] at h hp;omega
     ·intro hp hk
      refine ⟨fun _=>⟨zk (by omega) (by omega),_,rfl, ?_⟩,fun h=>absurd (by omega) (df0 h)⟩
      rw [hh,hpc]
      refine ⟨zk (by omega) (by omega),_,hay,_,hat,_,hc _ _,fun h=>?_,fun _=>hk⟩
      exfalso;simp only [Bool.not_eq_true',Bool.not_eq_false',decide_eq_true_eq,decide_eq_false_iff_not] at h hp;omega
    ·refine ⟨fun h=>absurd (dt0 h) (by omega),fun _=>?_⟩
     obtain ⟨S1,S2,rfl,hS1⟩:=split_at S (show st-A.length≤S.length by omega)
     obtain ⟨T1,T2,rfl,hT1⟩:=split_at T (show mid-st≤T.length by omega)
     simp only [List.length_append] at hmid hs2 ht2 hlo hla hlb hhi hhm hhs hf hl hS1 hT1 ⊢
     refine sym_j7 (key:=key) ih hS hT hlen (fun t ht s hs=>?_) (fun s hs t ht=>?_) (by omega) (by omega) (by omega) (by omega) (by omega) (by omega)
     ·-- what stands ahead of the middle behind is less
      have hs2:0<S2.length:=List.length_pos_iff.2 (List.ne_nil_of_mem hs)
      have ht1:0<T1.length:=List.length_pos_iff.2 (List.ne_nil_of_mem ht)
      obtain ⟨q,hq,rfl⟩:=List.mem_iff_getElem.1 ht
      obtain ⟨r,hr,rfl⟩:=List.mem_iff_getElem.1 hs
      have hp:=h4 st (Nat.le_refl _) (by omega)
      rw [show mid-1-st=T1.length-1 by omega,show st-A.length=S1.length+0 by omega,getD_l (by omega),getD_r hs2] at hp
      have e1:=srt_le (Srt.app.1 hT).1 (i:=q) (j:=T1.length-1) (by omega) (by omega)
      have e2:=srt_le (Srt.app.1 hS).2.1 (i:=0) (j:=r) (by omega) hr
      simp only [Bool.not_eq_false',decide_eq_true_eq] at hp
      omega
     ·have hs1:0<S1.length:=List.length_pos_iff.2 (List.ne_nil_of_mem hs)
      have ht2:0<T2.length:=List.length_pos_iff.2 (List.ne_nil_of_mem ht)
      obtain ⟨q,hq,rfl⟩:=List.mem_iff_getElem.1 ht
      obtain ⟨r,hr,rfl⟩:=List.mem_iff_getElem.1 hs
      have hp:=h3 (st-1) (by omega) (by omega)
      rw [show mid-1-(st-1)=T1.length+0 by omega,show st-1-A.length=S1.length-1 by omega,getD_r ht2,getD_l (X:=S1) (q:=S1.length-1) (by omega)] at hp
      have e1:=srt_le (Srt.app.1 hT).2.1 (i:=0) (j:=q) (by omega) hq
      have e2:=srt_le (Srt.app.1 hS).1 (i:=r) (j:=S1.length-1) (by omega) (by omega)
      simp only [Bool.not_eq_true',decide_eq_false_iff_not] at hp
      omega
   refine ⟨zk (by omega) (by omega),fun h=>⟨zk (by omega) (by omega), ?_⟩,fun h=>?_⟩
   ·have hlt:mid<A.length+S.length:=by have:=dt0 h;omega
    have:=main (mid+(A.length+S.length)-(A.length+S.length+T.length)) mid (by omega) (by omega) (by omega) (.inl rfl) (Nat.le_refl _) (by omega) (by omega)
    rw [show ((mid+(A.length+S.length)-(A.length+S.length+T.length):Nat):Int)=(mid:Int)+((A.length+S.length:Nat):Int)-((A.length+S.length+T.length:Nat):Int) by omega] at this
    exact this
   ·have hge:¬ mid<A.length+S.length:=by have:=df0 h;omega
    exact main A.length (A.length+S.length) (.inl rfl) (Nat.le_refl _) (by omega) (.inr rfl) (by omega) (Nat.le_refl _) (by omega)
def BS (key:Cl→Int) (n:Nat) (l:List Cl):Prop:=∀(i j:Nat) (hj:j<l.length) (hi:i≤j),i / n=j / n→key (l[i]'(by omega))≤key l[j]
theorem BS.of_srt {key:Cl→Int} {n:Nat} {l:List Cl} (h:Srt key l):BS key n l:=fun i j hj hi _=>srt_le h hi hj
theorem BS.srt {key:Cl→Int} {n:Nat} {l:List Cl} (h:BS key n l) (hl:l.length≤n):Srt key l:=by
 refine List.pairwise_iff_getElem.2 fun i j hi hj hij=>h i j hj (Nat.le_of_lt hij) ?_
 rw [Nat.div_eq_of_lt (by omega),Nat.div_eq_of_lt (by omega)]
theorem BS.app {key:Cl→Int} {n q:Nat} {P Q:List Cl} (hn:0<n) (hP:P.length=q*n) (h1:BS key n P) (h2:BS key n Q):BS key n (P++Q):=fun i j hj hi he=>by
 by_cases hjp:j<P.length
 ·rw [List.getElem_append_left (by omega),List.getElem_append_left hjp];exact h1 i j hjp hi he
 ·have hq:q≤j / n:=by rw [Nat.le_div_iff_mul_le hn];omega
  have hip:P.length≤i:=by
   rcases Nat.lt_or_ge i P.length with h | h
   ·have:i / n<q:=by rw [Nat.div_lt_iff_lt_mul hn];omega
    omega
   ·exact h
  rw [List.getElem_append_right hip,List.getElem_append_right (by omega)]
  refine h2 (i-P.length) (j-P.length) (by simp at hj;omega) (by omega) ?_
  have e1:i=(i-P.length)+q*n:=by omega
  have e2:j=(j-P.length)+q*n:=by omega
  rw [e1,e2,Nat.add_mul_div_right _ _ hn,Nat.add_mul_div_right _ _ hn] at he
  omega
theorem BS.left {key:Cl→Int} {n:Nat} {P Q:List Cl} (h:BS key n (P++Q)):BS key n P:=fun i j hj hi he=>by
 have:=h i j (by simp;omega) hi he
 rwa [List.getElem_append_left (by omega),List.getElem_append_left hj] at this
theorem BS.right {key:Cl→Int} {n q:Nat} {P Q:List Cl} (hn:0<n) (hP:P.length=q*n) (h:BS key n (P++Q)):BS key n Q:=fun i j hj hi he=>by
 have:=h (P.length+i) (P.length+j) (by simp;omega) (by omega) (by rw [hP,Nat.add_comm,Nat.add_comm (q*n) j,Nat.add_mul_div_right _ _ hn,Nat.add_mul_div_right _ _ hn,he])
 rw [List.getElem_append_right (by omega),List.getElem_append_right (by omega)] at this
 simpa using this
theorem sym_in {key:Cl→Int} {cmp:Cl × Cl × Int→Prop} (hc:ByKey key cmp) {A S T B:List Cl} {a m b:Int} (ha:a=(A.length:Int)) (hm:m=((A.length+S.length:Nat):Int)) (hb:b=((A.length+S.length+T.length:Nat):Int)) (hS:S≠[]) (hT:T≠[]) (h1:Srt key S) (h2:Srt key T)
  (hl:(A++S++T++B).length<4611686018427387904):za (A++S++T++B) a m b cmp (A++srt key (S++T)++B):=by
 subst ha;subst hm;subst hb
 exact ⟨_,sym_n hc _ A S T B (Nat.le_refl _) hS hT h1 h2 hl⟩
section
variable {key : Cl → Int} {cmp : Cl × Cl × Int → Prop} {xs : List Cl} {r : List Cl}
theorem st_l2 (hc:ByKey key cmp) (hn:xs.length<1152921504606846976) {bs:Nat} (hbs:0<bs) (hbn:bs<xs.length) {L1:List Cl→Int→Prop} (hL:∀Q,BS key (2*bs) Q→SEq key xs Q→L1 Q ((bs:Int)*2)):
  ∀(f:Nat) (P R:List Cl) (q:Nat),R.length≤f→P.length=q*(2*bs)→BS key (2*bs) P→BS key bs R→SEq key xs (P++R) →
   ∃k,ze.l2 (xs.length:Int) cmp (bs:Int) (ze.j2 L1 (xs.length:Int) cmp (bs:Int)) k (P++R) (P.length:Int) ((P.length:Int)+2*(bs:Int)):=by
 intro f
 induction f with
 | zero=>
  intro P R q hf hP h1 h2 h3
  have:=List.eq_nil_of_length_eq_zero (show R.length=0 by omega)
  subst this
  have hl:=h3.length
  simp at hl
  refine ⟨1,fun h=>absurd (dt0 h) (by omega),fun _=>⟨zk (by omega) (by omega),fun h=>absurd (dt0 h) (by omega),fun _=>⟨zk (by omega) (by omega), ?_⟩⟩⟩
  rw [List.append_nil] at h3 ⊢
  exact hL P h1 h3
 | succ f ih=>
  intro P R q hf hP h1 h2 h3
  have hl:=h3.length
  simp at hl
  by_cases hle:P.length+2*bs≤xs.length
  ·obtain ⟨S,R1,rfl,hS⟩:=split_at R (show bs≤R.length by omega)
   simp at hl
   obtain ⟨T,R2,rfl,hT⟩:=split_at R1 (show bs≤R1.length by omega)
   simp at hl hf
   have hSs:=h2.left.srt (by omega)
   have h2':=BS.right hbs (q:=1) (by omega) h2
   have hTs:=h2'.left.srt (by omega)
   have h2'':=BS.right hbs (q:=1) (by omega) h2'
   have hP2:(P++srt key (S++T)).length=(q+1)*(2*bs):=by simp [srt_len,hP,Nat.add_mul];omega
   obtain ⟨k,hk⟩:=ih (P++srt key (S++T)) R2 (q+1) (by omega) hP2 (BS.app (by omega) hP h1 (BS.of_srt (srt_srt _ _))) h2'' (h3.trans (by
    have:=(SEq.refl key P).app ((seq_srt key (S++T)).app (SEq.refl key R2))
    simpa using this))
   refine ⟨k+1,fun _=>⟨zk (by omega) (by omega),P++srt key (S++T)++R2, ?_,zk (by omega) (by omega),zk (by omega) (by omega), ?_⟩,fun h=>absurd (by omega) (df0 h)⟩
   ·have:=sym_in hc (A:=P) (S:=S) (T:=T) (B:=R2) (a:=(P.length:Int)) (m:=(P.length:Int)+(bs:Int)) (b:=(P.length:Int)+2*(bs:Int)) rfl (by omega) (by omega) (by rintro rfl;simp at hS;omega) (by rintro rfl;simp at hT;omega) hSs hTs (by simp;omega)
    simpa using this
   ·have e:(((P++srt key (S++T)).length:Nat):Int)=(P.length:Int)+2*(bs:Int):=by simp [srt_len];omega
    rw [e] at hk
    exact hk
  ·by_cases hm:P.length+bs<xs.length
   ·obtain ⟨S,T,rfl,hS⟩:=split_at R (show bs≤R.length by omega)
    simp at hl
    have hSs:=h2.left.srt (by omega)
    have hTs:=(BS.right hbs (q:=1) (by omega) h2).srt (by omega)
    refine ⟨1,fun h=>absurd (dt0 h) (by omega),fun _=>⟨zk (by omega) (by omega),fun _=>⟨P++srt key (S++T)++[], ?_,zk (by omega) (by omega), ?_⟩,fun h=>absurd (by omega) (df0 h)⟩⟩
    ·have:=sym_in hc (A:=P) (S:=S) (T:=T) (B:=[]) (a:=(P.length:Int)) (m:=(P.length:Int)+(bs:Int)) (b:=(xs.length:Int)) rfl (by omega) (by omega) (by rintro rfl;simp at hS;omega) (by rintro rfl;simp at hl;omega) hSs hTs (by simp;omega)
     simpa using this
    ·rw [List.append_nil]
     exact hL _ (BS.app (by omega) hP h1 (BS.of_srt (srt_srt _ _))) (h3.trans (by
      have:=(SEq.refl key P).app (seq_srt key (S++T))
      simpa using this))
   ·refine ⟨1,fun h=>absurd (dt0 h) (by omega),fun _=>⟨zk (by omega) (by omega),fun h=>absurd (dt0 h) (by omega),fun _=>⟨zk (by omega) (by omega), ?_⟩⟩⟩
    exact hL _ (BS.app (by omega) hP h1 (BS.of_srt (h2.srt (by omega)))) h3
theorem st_l1 (hc:ByKey key cmp) (hn:xs.length<1152921504606846976):∀(f:Nat) (bs:Nat) (Q:List Cl),xs.length-bs≤f→0<bs→BS key bs Q→SEq key xs Q →
  ze.l1 (xs.length:Int) cmp (ze.j1 (srt key xs)) (f+1) Q (bs:Int):=by
 intro f
 induction f with
 | zero=>
  intro bs Q hf hbs h1 h2
  have hl:=h2.length
  exact ⟨fun h=>absurd (dt0 h) (by omega),fun _=>(srt_of (h1.srt (by omega)) h2).symm⟩
 | succ f ih=>
  intro bs Q hf hbs h1 h2
  have hl:=h2.length
  by_cases hlt:bs<xs.length
  ·refine ⟨fun _=>⟨zk (by omega) (by omega), ?_⟩,fun h=>absurd (by omega) (df0 h)⟩
   have:=st_l2 hc hn hbs hlt (L1:=ze.l1 (xs.length:Int) cmp (ze.j1 (srt key xs)) (f+1)) (fun Q' hb hs=>by
    have:=ih (2*bs) Q' (by omega) (by omega) hb hs
    rwa [show (((2*bs:Nat)):Int)=(bs:Int)*2 by omega] at this) Q.length [] Q 0 (Nat.le_refl _) (by simp) (fun i j hj=>by simp at hj) h1 (by simpa using h2)
   simpa using this
  ·exact ⟨fun h=>absurd (dt0 h) (by omega),fun _=>(srt_of (h1.srt (by omega)) h2).symm⟩
theorem st_l3 (hc:ByKey key cmp) (hn:xs.length<1152921504606846976):∀(f:Nat) (P R:List Cl) (q:Nat),R.length≤f→P.length=q*20→BS key 20 P→SEq key xs (P++R) →
  ∃k,ze.l3 (xs.length:Int) cmp (ze.j3 (xs.length:Int) cmp (srt key xs)) k (P++R) (P.length:Int) ((P.length:Int)+20):=by
 intro f
 have fin:∀(P R:List Cl) (q:Nat),P.length=q*20→BS key 20 P→SEq key xs (P++R)→R.length≤20→ze.j3 (xs.length:Int) cmp (srt key xs) (P++R) (P.length:Int):=by
  intro P R q hP h1 h3 hR
  have hl:=h3.length
  simp at hl
  have:=ins_in hc (A:=P) (S:=R) (B:=[]) (a:=(P.length:Int)) (b:=(xs.length:Int)) rfl (by omega) (by simp;omega)
  refine ⟨P++srt key R,by simpa using this,_,st_l1 hc hn xs.length 20 _ (by omega) (by omega) (BS.app (by omega) hP h1 (BS.of_srt (srt_srt _ _))) (h3.trans ((SEq.refl key P).app (seq_srt key R)))⟩
 induction f with
 | zero=>
  intro P R q hf hP h1 h3
  have hl:=h3.length
  simp at hl
  exact ⟨1,fun h=>absurd (dt0 h) (by omega),fun _=>fin P R q hP h1 h3 (by omega)⟩
 | succ f ih=>
  intro P R q hf hP h1 h3
  have hl:=h3.length
  simp at hl
  by_cases hle:P.length+20≤xs.length
  ·obtain ⟨S,R1,rfl,hS⟩:=split_at R (show 20≤R.length by omega)
   simp at hl hf
   have hP2:(P++srt key S).length=(q+1)*20:=by simp [srt_len,hP,Nat.add_mul];omega
   obtain ⟨k,hk⟩:=ih (P++srt key S) R1 (q+1) (by omega) hP2 (BS.app (by omega) hP h1 (BS.of_srt (srt_srt _ _))) (h3.trans (by
    have:=(SEq.refl key P).app ((seq_srt key S).app (SEq.refl key R1))
    simpa using this))
   refine ⟨k+1,fun _=>⟨P++srt key S++R1, ?_,zk (by omega) (by omega), ?_⟩,fun h=>absurd (by omega) (df0 h)⟩
   ·have:=ins_in hc (A:=P) (S:=S) (B:=R1) (a:=(P.length:Int)) (b:=(P.length:Int)+20) rfl (by omega) (by simp;omega)
    simpa using this
   ·have e:(((P++srt key S).length:Nat):Int)=(P.length:Int)+20:=by simp [srt_len];omega
    rw [e] at hk
    exact hk
  ·exact ⟨1,fun h=>absurd (dt0 h) (by omega),fun _=>fin P R q hP h1 h3 (by omega)⟩
theorem stable_in (hc:ByKey key cmp) (hn:xs.length<1152921504606846976):zbe xs cmp (srt key xs):=by
 have:=st_l3 hc hn xs.length [] xs 0 (Nat.le_refl _) (by simp) (fun i j hj=>by simp at hj) (SEq.refl _ _)
 refine ⟨_, ?_,rfl⟩
 unfold ze
 simpa using this
end
end Go.Proofs.YtahgmdbioafmbaaGreatDoor.V
namespace Go.Proofs.YtahgmdbioafmbaaGreatDoor.V
open Go
set_option linter.unusedVariables false
theorem lk0_le (p:Cl):0≤lk0 p∧lk0 p≤255:=by
 unfold lk0
 by_cases h:0<p.count
 ·obtain ⟨n,h1,h2,_,_⟩:=lk_spec h
  rw [h2];simp;omega
 ·have:p.least=(0,false):=least_of_none fun m hm=>by
   cases hb:p.has m
   ·rfl
   ·exact absurd (count_pos hm hb) h
  rw [this];simp
theorem split_cmp:ByKey lk0 (fun q_=>zd3 q_.1 q_.2.1 (fun q_=>zdm q_.1 q_.2) q_.2.2):=fun x y=>by
 have h1:=lk0_le x
 have h2:=lk0_le y
 exact ⟨lk0 x,⟨_,class_Least_in,rfl⟩,lk0 y,⟨_,class_Least_in,rfl⟩,zk (by omega) (by omega),rfl⟩
theorem flat_len2 (a:Cl) (l:List Cl):(l.flatMap (pieces a)).length≤2*l.length:=by
 induction l with
 | nil=>simp
 | cons p l ih=>
  rw [List.flatMap_cons,List.length_append]
  have:(pieces a p).length≤2:=by
   have:=List.length_filter_le (fun q:Cl=>decide (0<q.count)) [p &&& a,p &&& ~~~ a]
   simpa [pieces] using this
  rw [List.length_cons];omega
theorem split_Refine_in {ps:List Cl} {a:Cl} (hl:ps.length≤1073741823):zz ps a (splitR ps a):=by
 refine upto (P:=fun k (s:List Cl) v=>zz.l1 ps a _ k s v) ps.length (fun i s=>s=(ps.take i).flatMap (pieces a)) ?_ ?_ _ (by simp)
 ·rintro i s hi rfl
  refine .inr ⟨_,rfl,fun k h=>⟨fun _=>⟨ps[i],by rw [zbw];simp [hi],_,class_Both_in,_,class_Not_in,_,class_Both_in, ?_⟩,fun h=>absurd (by omega) (df h)⟩⟩
  have hb:=flat_len2 a (ps.take i)
  simp only [List.length_take] at hb
  refine upto (P:=fun k (s:List Cl) v=>zz.l2 _ _ _ k s v) 2 (fun j s=>s=(ps.take i).flatMap (pieces a)++([ps[i] &&& a,ps[i] &&& ~~~ a].take j).filter fun q=>decide (0<q.count)) ?_ ?_ _ (by simp)
  ·rintro j s hj rfl
   have hlen:(([ps[i] &&& a,ps[i] &&& ~~~ a].take j).filter fun q=>decide (0<q.count)).length≤1:=by
    have:=List.length_filter_le (fun q:Cl=>decide (0<q.count)) ([ps[i] &&& a,ps[i] &&& ~~~ a].take j)
    simp at this;omega
   refine .inr ⟨_,rfl,fun k h=>⟨fun _=>⟨[ps[i] &&& a,ps[i] &&& ~~~ a][j],by rw [zbw];simp [hj],_,class_Count_in,fun hc=>?_,fun hc=>?_⟩,fun h=>absurd (by simp;omega) (df h)⟩⟩
   ·have hc:=dt hc
    rw [List.take_succ_eq_append_getElem (by simpa using hj),List.filter_append,List.filter_cons_of_pos (by simp;omega),List.filter_nil,← List.append_assoc] at h
    exact ⟨by simp only [List.length_append,List.length_cons,List.length_nil];omega,zk (by omega) (by omega),h⟩
   ·have hc:=df hc
    rw [List.take_succ_eq_append_getElem (by simpa using hj),List.filter_append,List.filter_cons_of_neg (by simp;omega),List.filter_nil,List.append_nil] at h
    exact ⟨zk (by omega) (by omega),h⟩
  ·rintro s rfl k2
   refine ⟨fun h=>absurd (dt h) (by simp),fun _=>⟨zk (by omega) (by omega), ?_⟩⟩
   rw [List.take_succ_eq_append_getElem hi,List.flatMap_append] at h
   simpa [pieces] using h
 ·rintro s rfl k
  refine ⟨fun h=>absurd (dt h) (by omega),fun _=>⟨_,stable_in split_cmp ?_, ?_⟩⟩
  ·have:=flat_len2 a (ps.take ps.length)
   simp only [List.length_take,Nat.min_self] at this
   omega
  ·simp [splitR]
theorem splitP_take (l:List Cl) (i:Nat):(splitP (l.take i)).length≤256:=by
 rw [splitP_eq]
 have:=heads_len (l.take i)
 simpa [parts] using this
theorem split_Parts_in {l:List Cl} (hl:l.length≤1073741823):zb5 l (splitP l):=by
 refine ⟨_,class_Not_in, ?_⟩
 refine upto (P:=fun k (s:List Cl) v=>zb5.l1 l _ k s v) l.length (fun i s=>s=splitP (l.take i)) ?_ ?_ _ (by simp [splitP])
 ·rintro i s hi rfl
  have:=splitP_take l i
  refine .inr ⟨_,rfl,fun k h=>⟨fun _=>⟨l[i],by rw [zbw];simp [hi],_,split_Refine_in (by omega),zk (by omega) (by omega), ?_⟩,fun h=>absurd (by omega) (df h)⟩⟩
  have e:splitP (l.take i++[l[i]])=splitR (splitP (l.take i)) l[i]:=by unfold splitP;rw [List.foldl_append];rfl
  rw [List.take_succ_eq_append_getElem hi,e] at h
  exact h
 ·rintro s rfl k
  exact ⟨fun h=>absurd (dt h) (by omega),fun _=>by rw [List.take_length];rfl⟩
theorem split_Heads_in {l:List Cl} (hl:l.length≤1073741823):zb6 l (splitH l):=by
 refine ⟨_,split_Parts_in hl, ?_⟩
 have hlen:=splitP_take l l.length
 rw [List.take_length] at hlen
 refine upto (P:=fun k (s:List Int) v=>zb6.l1 (splitP l) _ k s v) (splitP l).length (fun i s=>s=((splitP l).take i).map lk0) ?_ ?_ _ (by simp)
 ·rintro i s hi rfl
  refine .inr ⟨_,rfl,fun k h=>⟨fun _=>⟨(splitP l)[i],by rw [zbw];simp [hi],_,class_Least_in,by simp;omega,zk (by omega) (by omega), ?_⟩,fun h=>absurd (by omega) (df h)⟩⟩
  rw [List.take_succ_eq_append_getElem hi,List.map_append] at h
  exact h
 ·rintro s rfl k
  exact ⟨fun h=>absurd (dt h) (by omega),fun _=>by rw [List.take_length];rfl⟩
theorem ref02_Bytes_in {a b:List Int} (ha:a.length<9223372036854775807):zb2 a b (decide (a=b)):=by
 refine ⟨fun h=>?_,fun h=>?_⟩
 ·simp at h
  exact decide_eq_false fun e=>by subst e;omega
 ·have hl:a.length=b.length:=by simp at h;omega
  refine upto (P:=fun k (_:Unit) v=>zb2.l1 a b (decide (a=b)) _ k v) a.length (fun i _=>∀j (hj:j<i) (h1:j<a.length),a[j]=b[j]'(by omega)) ?_ ?_ () (by intro j hj;omega)
  ·intro i s hi hs
   have hat:at? a (i:Int)=some a[i]:=by rw [zbw];simp [hi]
   have hbt:at? b (i:Int)=some (b[i]'(by omega)):=by rw [zbw];simp [show i<b.length by omega]
   by_cases he:a[i]=b[i]'(by omega)
   ·refine .inr ⟨(),fun j hj h1=>?_,fun k h=>⟨fun _=>⟨_,hat,_,hbt,fun h=>by simp [he] at h,fun _=>⟨zk (by omega) (by omega),h⟩⟩,fun h=>absurd (by omega) (df h)⟩⟩
    by_cases hji:j=i
    ·subst hji;exact he
    ·exact hs j (by omega) h1
   ·exact .inl fun k=>⟨fun _=>⟨_,hat,_,hbt,fun _=>decide_eq_false fun e=>he (by subst e;rfl),fun h=>by simp at h;exact absurd h he⟩,fun h=>absurd (by omega) (df h)⟩
  ·intro s hs k
   refine ⟨fun h=>absurd (dt h) (by omega),fun _=>?_⟩
   show decide (a=b)=true
   exact decide_eq_true (List.ext_getElem hl fun j h1 h2=>hs j h1 h1)
theorem at_lt' {α:Type} {xs:List α} {i:Nat} (h:i<xs.length):at? xs (i:Int)=some xs[i]:=by rw [zbw];exact List.getElem?_eq_getElem h
theorem nodup_perm {α:Type} [DecidableEq α]:∀{a b:List α},a.Nodup→b.Nodup→(∀x,x∈a↔x∈b)→a.Perm b
 | [],b,_,_,h=>by
  cases b with
  | nil=>exact .refl _
  | cons y b=>exact absurd ((h y).2 (by simp)) (by simp)
 | x::a,b,ha,hb,h=>by
  rw [List.nodup_cons] at ha
  have hx:=(h x).1 (by simp)
  refine (List.Perm.cons x (nodup_perm ha.2 (hb.erase x) fun y=>?_)).trans (List.perm_cons_erase hx).symm
  rw [hb.mem_erase_iff]
  constructor
  ·intro hy
   exact ⟨fun e=>ha.1 (by rw [← e];exact hy),(h y).1 (by simp [hy])⟩
  ·rintro ⟨h1,h2⟩
   exact (List.mem_cons.1 ((h y).2 h2)).resolve_left h1
theorem item_StartS {d:List SNode} (h:d≠[]) (hl:d.length≤1000):item_Start d (stS d):=by
 have:=List.length_pos_iff.2 h
 exact ⟨zk (by omega) (by omega),rfl⟩
theorem sets_Start_in {d:List SNode} (h:d≠[]) (hl:d.length≤1000):sets_Start d [stS d]:=⟨_,item_StartS h hl,rfl⟩
def mS (L:List (List SItem)):List (Str × List SItem):=L.foldl (fun m t=>mput m (keyS t) t) []
theorem mS_snoc (L:List (List SItem)) (t:List SItem):mS (L++[t])=mput (mS L) (keyS t) t:=by unfold mS;rw [List.foldl_append];rfl
theorem mS_inv (L:List (List SItem)):((mS L).map (·.2)).Nodup∧∀p,p∈mS L↔p.2∈L∧p.1=keyS p.2:=by
 have:∀n (L:List (List SItem)),L.length=n→((mS L).map (·.2)).Nodup∧∀p,p∈mS L↔p.2∈L∧p.1=keyS p.2:=by
  intro n
  induction n with
  | zero=>intro L hL;rw [List.length_eq_zero_iff.1 hL];exact ⟨List.nodup_nil,by simp [mS]⟩
  | succ n ih=>
   intro L hL
   have hne:L≠[]:=fun e=>by subst e;simp at hL
   rw [← List.dropLast_concat_getLast hne]
   obtain ⟨i1,i2⟩:=ih L.dropLast (by simp [hL])
   generalize L.dropLast=A at *
   generalize L.getLast hne=t at *
   rw [mS_snoc]
   unfold mput
   cases hh:mhas (mS A) (keyS t)
   ·simp only [cond_false]
    have hno:t ∉ A:=fun h=>by
     have h1:=(i2 (keyS t,t)).2 ⟨h,rfl⟩
     have:mhas (mS A) (keyS t)=true:=by
      unfold mhas
      rw [List.any_eq_true]
      exact ⟨_,h1,by simp⟩
     rw [hh] at this;cases this
    refine ⟨?_,fun p=>?_⟩
    ·rw [List.map_append,List.nodup_append]
     refine ⟨i1,by simp,fun a ha b hb e=>?_⟩
     simp at hb
     subst hb;subst e
     obtain ⟨p,hp,rfl⟩:=List.mem_map.1 ha
     exact hno ((i2 p).1 hp).1
    ·rw [List.mem_append,i2,List.mem_singleton,List.mem_append,List.mem_singleton]
     constructor
     ·rintro (⟨h1,h2⟩ | rfl)
      ·exact ⟨.inl h1,h2⟩
      ·exact ⟨.inr rfl,rfl⟩
     ·rintro ⟨h1 | h1,h2⟩
      ·exact .inl ⟨h1,h2⟩
      ·exact .inr (Prod.ext (by rw [h2,h1]) h1)
   ·have hh':=hh
    unfold mhas at hh'
    rw [List.any_eq_true] at hh'
    obtain ⟨q,hq1,hq2⟩:=hh'
    have hqk:q.1=keyS t:=by simpa using hq2
    have hq3:=(i2 q).1 hq1
    have hqt:q.2=t:=keyS_iff.1 (by rw [← hq3.2,hqk])
    have hta:t∈A:=by rw [← hqt];exact hq3.1
    simp only [cond_true]
    have hmap:∀f:Str × List SItem→Str × List SItem,(∀p∈mS A,f p=p)→(mS A).map f=mS A:=fun f hf=>by
     conv=>rhs;rw [← List.map_id (mS A)]
     exact List.map_congr_left hf
    rw [hmap _ fun p hp=>?_]
    rotate_left
    ·by_cases hpk:p.1=keyS t
     ·have hp3:=(i2 p).1 hp
      have:p.2=t:=keyS_iff.1 (by rw [← hp3.2,hpk])
      have e:p=(keyS t,t):=Prod.ext hpk this
      rw [e];simp
     ·exact (congrArg (fun b=>bif b then (keyS t,t) else p) (decide_eq_false hpk)).trans rfl
    refine ⟨i1,fun p=>?_⟩
    rw [i2,List.mem_append,List.mem_singleton]
    constructor
    ·rintro ⟨h1,h2⟩;exact ⟨.inl h1,h2⟩
    ·rintro ⟨h1 | h1,h2⟩
     ·exact ⟨h1,h2⟩
     ·exact ⟨by rw [h1];exact hta,h2⟩
 exact this _ L rfl
structure Room (d:List SNode) (c:Int) (l:List (List SItem)):Prop where
 sm:∀s∈l,Sm d s
 len:l.length≤2000000000
 cov:∃K:List (List SItem),K.length≤2000000000∧∀s∈l,∀t∈stepL d c s,t∈K
theorem step_short {d:List SNode} {s:List SItem} (h:Sm d s) {c:Int} (hc:InR .u8 c) {t:List SItem} (ht:t∈stepL d c s):t.length≤1000:=by
 have:=(step_ok h.rt.toROk h.form hc t ht).2
 have:=h.slen
 have:=h.len
 omega
theorem sets_On_in {d:List SNode} {l:List (List SItem)} {c:Int} (hr:Room d c l) (hc:InR .u8 c):zbs d l c (onS d c l):=by
 have hll:=hr.len
 obtain ⟨K,k1,k2⟩:=hr.cov
 refine uptoK (P:=fun k m v=>zbs.l1 d l c _ k m v) l.length (fun i m=>m=mS ((l.take i).flatMap fun s=>setOf (stepL d c s))) ?_ ?_ _ (by simp [mS])
 ·rintro i m k hi rfl hk
  have hsm:=hr.sm _ (List.getElem_mem hi)
  obtain ⟨o,o1,_,o3⟩:=on_step hsm hc
  have ho:o.map (·.1)=setOf (stepL d c l[i]):=can_set o3 fun t=>by rw [← List.count_pos_iff];omega
  have hol:o.length≤2000000000:=by
   have:=setOf_len (A:=stepL d c l[i]) (K:=K) fun t ht=>k2 _ (List.getElem_mem hi) t ht
   rw [← ho,List.length_map] at this
   omega
  refine ⟨fun _=>⟨_,at_lt' hi,o,o1, ?_⟩,fun h=>absurd (by omega) (df h)⟩
  refine uptoK (P:=fun k m v=>zbs.l2 o _ k m v) o.length (fun j m=>m=mS (((l.take i).flatMap fun s=>setOf (stepL d c s))++(o.map (·.1)).take j)) ?_ ?_ _ (by simp)
  ·rintro j m k' hj rfl hk'
   have hmem:o[j].1∈stepL d c l[i]:=zdr.1 (by rw [← ho];exact List.mem_map.2 ⟨_,List.getElem_mem hj,rfl⟩)
   have hlen:=step_short hsm hc hmem
   refine ⟨fun _=>⟨_,at_lt' hj,_,item_Key_in hlen,zk (by omega) (by omega),hk' _ ?_⟩,fun h=>absurd (by omega) (df h)⟩
   rw [List.take_succ_eq_append_getElem (by simpa using hj),← List.append_assoc,mS_snoc]
   simp
  ·rintro m rfl k'
   refine ⟨fun h=>absurd (dt h) (by omega),fun _=>⟨zk (by omega) (by omega),hk _ ?_⟩⟩
   rw [List.take_of_length_le (l:=o.map (·.1)) (by simp),List.take_succ_eq_append_getElem hi,List.flatMap_append,ho]
   simp
 ·rintro m rfl k
  refine ⟨fun h=>absurd (dt h) (by omega),fun _=>?_⟩
  rw [List.take_length]
  obtain ⟨i1,i2⟩:=mS_inv (l.flatMap fun s=>setOf (stepL d c s))
  have hmm:∀t,t∈(mS (l.flatMap fun s=>setOf (stepL d c s))).map (·.2)↔t∈onS d c l:=fun t=>by
   rw [onS_mem,List.mem_map]
   constructor
   ·rintro ⟨p,hp,rfl⟩
    obtain ⟨s,h1,h2⟩:=List.mem_flatMap.1 ((i2 p).1 hp).1
    exact ⟨s,h1,zdr.1 h2⟩
   ·rintro ⟨s,h1,h2⟩
    exact ⟨(keyS t,t),(i2 _).2 ⟨List.mem_flatMap.2 ⟨s,h1,zdr.2 h2⟩,rfl⟩,rfl⟩
  refine ⟨fun b hb=>?_, ?_,nodup_perm (rs_nodup (setOf_srt _)) i1 fun t=>(hmm t).symm,setOf_srt _⟩
  ·obtain ⟨s,h1,h2⟩:=onS_mem.1 ((hmm b).1 hb)
   exact step_short (hr.sm s h1) hc h2
  ·have:=len_sub (U:=K) i1 fun t ht=>by
    obtain ⟨s,h1,h2⟩:=onS_mem.1 ((hmm t).1 ht)
    exact k2 s h1 t h2
   omega
theorem idxS_in {s:List (List SItem)} {f:List SItem × Bool→Prop} {g:List SItem→Bool} (hf:∀x∈s,f (x,g x)) (hl:s.length≤140737488351232):zbi s f (s.any g):=by
 have key:∃i:Int,zm s f i∧(decide (0≤i))=s.any g:=by
  cases hc:s.any g
  ·refine ⟨-1, ?_,by decide⟩
   rw [List.any_eq_false] at hc
   refine upto (P:=fun k (_:Unit) v=>zm.l1 s f (-1) _ k v) s.length (fun _ _=>True) ?_ ?_ () trivial
   ·intro j _ hj _
    exact .inr ⟨(),trivial,fun k hk=>⟨fun _=>⟨_,at_lt' hj,_,hf _ (List.getElem_mem hj),fun h=>absurd h (hc _ (List.getElem_mem hj)),fun _=>⟨zk (by omega) (by omega),hk⟩⟩,fun h=>absurd (by omega) (df h)⟩⟩
   ·intro _ _ k
    exact ⟨fun h=>absurd (dt h) (by omega),fun _=>rfl⟩
  ·rw [List.any_eq_true] at hc
   obtain ⟨x,hx,hgx⟩:=hc
   have hex:∃i,∃(h:i<s.length),g s[i]=true:=by
    obtain ⟨i,hi,rfl⟩:=List.mem_iff_getElem.1 hx
    exact ⟨i,hi,hgx⟩
   obtain ⟨i,⟨hi,hi2⟩,hmin⟩:=exists_least hex
   refine ⟨(i:Int), ?_,by simp⟩
   refine upto (P:=fun k (_:Unit) v=>zm.l1 s f (i:Int) _ k v) (i+1) (fun j _=>j≤i) ?_ ?_ () (by omega)
   ·intro j _ hj hle
    have hat:=at_lt' (show j<s.length by omega)
    have hfj:=hf _ (List.getElem_mem (show j<s.length by omega))
    by_cases hji:j=i
    ·subst hji
     rw [hi2] at hfj
     exact .inl fun k=>⟨fun _=>⟨_,hat,true,hfj,fun _=>rfl,(fun h=>by cases h)⟩,fun h=>absurd (by omega) (df h)⟩
    ·have hno:g (s[j]'(by omega))=false:=by
      cases hg:g (s[j]'(by omega))
      ·rfl
      ·have:=hmin j ⟨by omega,hg⟩;omega
     rw [hno] at hfj
     exact .inr ⟨(),by omega,fun k hk=>⟨fun _=>⟨_,hat,false,hfj,(fun h=>by cases h),fun _=>⟨zk (by omega) (by omega),hk⟩⟩,fun h=>absurd (by omega) (df h)⟩⟩
   ·intro _ h k;omega
 obtain ⟨i,h1,h2⟩:=key
 exact ⟨i,h1,h2.symm⟩
theorem sat_pos (n:Nat):decide (0<sat n)=decide (n≠0):=by
 by_cases h:n=0
 ·subst h;simp [sat]
 ·rw [decide_eq_true (by unfold sat;omega),decide_eq_true h]
theorem sets_Ends_in {d:List SNode} {l:List (List SItem)} (hl:∀s∈l,Sm d s) (hn:l.length≤2000000000):zdk d l (endS d l):=by
 refine ⟨_,idxS_in (g:=fun s=>decide ((hds d s).count []≠0)) (fun s hs=>⟨_,(ends_both (hl s hs)).1, ?_⟩) (by omega),rfl⟩
 exact (sat_pos _).symm
theorem sets_Classes_in {d:List SNode} {l:List (List SItem)} (hl:∀s∈l,Sm d s) (hn:l.length≤2000000000) (hc:(clsL d l).length*32≤140737488355328):zbt d l (clsL d l):=by
 refine upto (P:=fun k out v=>zbt.l1 d l _ k out v) l.length (fun i out=>out=clsL d (l.take i)) ?_ ?_ _ (by simp [clsL])
 ·rintro i out hi rfl
  have e:clsL d (l.take (i+1))=clsL d (l.take i)++clsA d l[i]:=by
   unfold clsL
   rw [List.take_succ_eq_append_getElem hi,List.flatMap_append];simp
  refine .inr ⟨_,rfl,fun k hk=>⟨fun _=>⟨_,at_lt' hi,_,(clsA_in (hl _ (List.getElem_mem hi))).1, ?_,zk (by omega) (by omega),by rw [← e];exact hk⟩,fun h=>absurd (by omega) (df h)⟩⟩
  have h2:clsL d l=clsL d (l.take (i+1))++clsL d (l.drop (i+1)):=by unfold clsL;rw [← List.flatMap_append,List.take_append_drop]
  have h3:=congrArg List.length h2
  rw [e,List.length_append,List.length_append] at h3
  omega
 ·rintro out rfl k
  refine ⟨fun h=>absurd (dt h) (by omega),fun _=>?_⟩
  show clsL d l=_
  rw [List.take_length]
theorem sets_Once_in {l:List Cl} (hn:l.length≤140737488351232) (ho:(onceL l).length≤2147483647):zcv l (onceL l):=by
 have hpre:∀i,(onceL (l.take i)).length≤(onceL l).length:=fun i=>by
  refine len_sub (onceL_nodup _) fun x hx=>(onceL_mem l).2 (List.mem_of_mem_take ((onceL_mem _).1 hx))
 refine upto (P:=fun k (s:List (Cl × Bool) × List Cl) v=>zcv.l1 l _ k s.1 s.2 v) l.length (fun i s=>s.2=onceL (l.take i)∧∀x,mget s.1 x false=decide (x∈l.take i)) ?_ ?_ ([],[]) ⟨by simp [onceL],fun x=>by simp [mget]⟩
 ·rintro i ⟨met,out⟩ hi ⟨h1,h2⟩
  simp only at h1 h2
  subst h1
  have htk:l.take (i+1)=l.take i++[l[i]]:=List.take_succ_eq_append_getElem hi
  have hnext:∀x,mget (mput met l[i] true) x false=decide (x∈l.take (i+1)):=fun x=>by
   rw [mget_mput,h2,htk]
   by_cases hx:l[i]=x
   ·rw [if_pos hx]
    exact (decide_eq_true (List.mem_append.2 (.inr (by rw [← hx];exact List.mem_singleton.2 rfl)))).symm
   ·rw [if_neg hx]
    exact decide_eq_decide.2 ⟨fun h=>List.mem_append.2 (.inl h),fun h=>(List.mem_append.1 h).resolve_right fun e=>hx (List.mem_singleton.1 e).symm⟩
  have hp1:=hpre (i+1)
  by_cases hm:l[i]∈l.take i
  ·refine .inr ⟨(mput met l[i] true,onceL (l.take i)),⟨?_,hnext⟩,fun k hk=>⟨fun _=>⟨_,at_lt' hi,fun h=>?_,fun _=>⟨zk (by omega) (by omega),hk⟩⟩,fun h=>absurd (by omega) (df h)⟩⟩
   ·rw [htk,onceL_snoc,if_pos ((onceL_mem _).2 hm)]
   ·rw [h2,decide_eq_true hm] at h;cases h
  ·have e:onceL (l.take (i+1))=onceL (l.take i)++[l[i]]:=by rw [htk,onceL_snoc,if_neg fun h=>hm ((onceL_mem _).1 h)]
   refine .inr ⟨(mput met l[i] true,onceL (l.take i)++[l[i]]),⟨e.symm,hnext⟩,fun k hk=>⟨fun _=>⟨_,at_lt' hi,fun _=>⟨?_,zk (by omega) (by omega),hk⟩,fun h=>?_⟩,fun h=>absurd (by omega) (df h)⟩⟩
   ·rw [e] at hp1
    simp only [List.length_append,List.length_cons,List.length_nil] at hp1 ⊢
    omega
   ·rw [h2,decide_eq_false hm] at h;cases h
 ·rintro ⟨met,out⟩ ⟨h1,h2⟩ k
  simp only at h1
  subst h1
  refine ⟨fun h=>absurd (dt h) (by omega),fun _=>?_⟩
  show onceL l=_
  rw [List.take_length]
theorem sets_Bytes_in {d:List SNode} {l:List (List SItem)} (hl:∀s∈l,Sm d s) (hn:l.length≤2000000000) (hc:(clsL d l).length≤1000000000):sets_Bytes d l (bytS d l):=by
 have ho:=onceL_len (clsL d l)
 exact ⟨_,sets_Classes_in hl hn (by omega),_,sets_Once_in (by omega) (by omega),_,split_Heads_in (by omega),rfl⟩
theorem room_after {d:List SNode} (h:Rt d) (hl:d.length≤24) (ht:Txt d) {w:List Int} (hw:∀c∈w,InR .u8 c) {c:Int} (hc:InR .u8 c) (hp:pas d.length (w.length+1)≤2000000000):Room d c (aftS d w):=by
 refine ⟨fun s hs=>(aftS_sm h hl ht hw hs).1, ?_, ?_⟩
 ·have:=aftS_len h hw
  have:=pas_more d.length w.length
  omega
 ·have hw2:∀b∈w++[c],InR .u8 b:=fun b hb=>(List.mem_append.1 hb).elim (hw b) fun e=>by rw [List.mem_singleton.1 e];exact hc
  obtain ⟨K,k1,k2⟩:=after_cov h fun b hb=>(inR_u8.1 (hw2 b hb)).1
  rw [List.length_append,List.length_singleton] at k1
  refine ⟨K,by omega,fun s hs t hts=>k2 t ?_⟩
  show t∈endsL d (w++[c]) (stS d)
  rw [← aftS_mem,aftS_snoc,onS_mem]
  exact ⟨s,hs,hts⟩
theorem pas_le2 {m k m' k':Nat} (h1:m≤m') (h2:k≤k') {n:Nat} (h:pas m' k'≤n):pas m k≤n:=Nat.le_trans (Nat.le_trans (pas_mono h1 k) (pas_long m' h2)) h
theorem pas_16_17:pas 16 17≤2000000000:=pas_le (by decide +kernel)
theorem sets_After_in {d:List SNode} (h:Rt d) (hl:d.length≤24) (ht:Txt d) {w:List Int} (hw:∀c∈w,InR .u8 c) (hn:w.length≤1000) (hp:pas d.length w.length≤2000000000):zbz d w (aftS d w):=by
 refine ⟨_,sets_Start_in h.ne (by omega), ?_⟩
 refine upto (P:=fun k l v=>zbz.l1 d w _ k l v) w.length (fun i l=>l=aftS d (w.take i)) ?_ ?_ _ (by rw [List.take_zero,aftS_nil])
 ·rintro i l hi rfl
  have hsn:aftS d (w.take (i+1))=onS d w[i] (aftS d (w.take i)):=by rw [List.take_succ_eq_append_getElem hi,aftS_snoc]
  have hr:=room_after h hl ht (w:=w.take i) (fun c hc=>hw c (List.mem_of_mem_take hc)) (hw _ (List.getElem_mem hi)) (pas_le2 (Nat.le_refl _) (by rw [List.length_take];omega) hp)
  exact .inr ⟨_,rfl,fun k hk=>⟨fun _=>⟨_,at_lt' hi,_,sets_On_in hr (hw _ (List.getElem_mem hi)),zk (by omega) (by omega),by rw [← hsn];exact hk⟩,fun h=>absurd (by omega) (df h)⟩⟩
 ·rintro l rfl k
  refine ⟨fun h=>absurd (dt h) (by omega),fun _=>?_⟩
  show aftS d w=_
  rw [List.take_length]
theorem ref16_Same_in {a b:List (List SItem)} (ha:∀x∈a,x.length≤1000) (hb:∀x∈b,x.length≤1000) (hl:a.length≤140737488351232):zcf a b (decide (a=b)):=by
 by_cases hne:a.length=b.length
 ·refine ⟨fun h=>absurd h (by simp [hne]),fun _=>?_⟩
  refine upto (P:=fun k (_:Unit) v=>zcf.l1 a b (decide (a=b)) _ k v) a.length (fun i _=>a.take i=b.take i) ?_ ?_ () (by simp)
  ·intro i _ hi ht
   have hib:i<b.length:=by omega
   have hs:=ref13_Same_in (ha _ (List.getElem_mem hi)) (hb _ (List.getElem_mem hib))
   by_cases hab:a[i]=b[i]
   ·refine .inr ⟨(),by rw [List.take_succ_eq_append_getElem hi,List.take_succ_eq_append_getElem hib,ht,hab],fun k hk=>⟨fun _=>⟨_,at_lt' hi,_,at_lt' hib,_,hs,fun h=>?_,fun _=>⟨zk (by omega) (by omega),hk⟩⟩,fun h=>absurd (by omega) (df h)⟩⟩
    rw [hab] at h;simp at h
   ·refine .inl fun k=>⟨fun _=>⟨_,at_lt' hi,_,at_lt' hib,_,hs,fun _=>?_,fun h=>?_⟩,fun h=>absurd (by omega) (df h)⟩
    ·simp only [decide_eq_false_iff_not]
     intro e
     subst e;exact hab rfl
    ·simp at h;exact absurd h hab
  ·intro _ ht k
   refine ⟨fun h=>absurd (dt h) (by omega),fun _=>?_⟩
   show decide (a=b)=true
   rw [List.take_length,hne,List.take_length] at ht
   simp [ht]
 ·refine ⟨fun _=>?_,fun h=>absurd (Int.ofNat.inj (by simpa using h)) hne⟩
  simp only [decide_eq_false_iff_not]
  intro e
  subst e;exact hne rfl
def stepK (d:List SNode) (c:Int) (s:List SItem):List (List SItem):=(setOf (hds d s)).filterMap fun t=>if (readF d t c).2=true then some (readF d t c).1 else none
theorem stepK_len {d:List SNode} {s:List SItem} (h:Sm d s) (c:Int):(stepK d c s).length≤10001:=by
 have h1:=heads_few h (canB_can d s)
 unfold canB at h1
 rw [List.length_map] at h1
 exact Nat.le_trans (List.length_filterMap_le _ _) h1
theorem stepK_mem {d:List SNode} {c:Int} {s t:List SItem} (h:t∈stepL d c s):t∈stepK d c s:=by
 unfold stepL at h
 obtain ⟨u,h1,h2⟩:=List.mem_filterMap.1 h
 exact List.mem_filterMap.2 ⟨u,zdr.2 h1,h2⟩
theorem flatS_len (f:List SItem→List (List SItem)) (m:Nat):∀l:List (List SItem),(∀s∈l,(f s).length≤m)→(l.flatMap f).length≤m*l.length
 | [],_=>by simp
 | s::l,h=>by
  have h1:=h s (by simp)
  have h2:=flatS_len f m l fun u hu=>h u (by simp [hu])
  rw [List.flatMap_cons,List.length_append,List.length_cons,Nat.mul_add]
  omega
theorem room_few {d:List SNode} {l:List (List SItem)} (h:∀s∈l,Sm d s) (hl:l.length≤100000) (c:Int):Room d c l:=by
 refine ⟨h,by omega,l.flatMap (stepK d c), ?_,fun s hs t ht=>List.mem_flatMap.2 ⟨s,hs,stepK_mem ht⟩⟩
 have:=flatS_len (stepK d c) 10001 l fun s hs=>stepK_len (h s hs) c
 omega
theorem cls_few {d:List SNode} {l:List (List SItem)} (h:∀s∈l,Sm d s) (hl:l.length≤300):(clsL d l).length≤1000000000:=by
 have:∀l:List (List SItem),(∀s∈l,Sm d s)→(clsL d l).length≤256*10001*l.length:=by
  intro l
  induction l with
  | nil=>intro _;simp [clsL]
  | cons s l ih=>
   intro h
   have h1:=(clsA_in (h s (by simp))).2.2
   have h2:=ih fun u hu=>h u (by simp [hu])
   have e:clsL d (s::l)=clsA d s++clsL d l:=by simp [clsL]
   rw [e,List.length_append,List.length_cons,Nat.mul_add]
   omega
 have:=this l h
 omega
def d6:List SNode:=wrapD 6 d5
theorem d6_rt:Rt d6:=wrap_rt d5_rt (.inl rfl) fun _=>by decide +kernel
theorem d6_txt:Txt d6:=small_txt (by decide +kernel)
theorem d5_txt:Txt d5:=small_txt (by decide +kernel)
theorem d6_sm {s:List SItem} (hf:formS d6 s=true) (hs:s.length≤40):Sm d6 s:=⟨d6_rt,by decide +kernel,d6_txt,hf,by omega⟩
theorem heads_nil:heads ([]:List Cl)=[0]:=by decide +kernel
theorem bytC_nil:bytC []=[0]:=by rw [bytC_eq,heads_nil];rfl
theorem bytS_nil (d:List SNode):bytS d []=[0]:=bytC_nil
theorem endS_nil (d:List SNode):endS d []=false:=rfl
theorem sets_Key_in {l:List (List SItem)} (h1:l.length≤1000000000) (h2:∀s∈l,s.length≤1000):sets_Key l (keyL l):=⟨h1,h2,rfl⟩
theorem awake16:law16_awake true:=by
 have u8:∀c:Int,0≤c∧c≤255→InR .u8 c:=fun c h=>inR_u8.2 h
 have sm:∀s∈[stS d6],Sm d6 s:=fun s hs=>by
  rw [List.mem_singleton.1 hs];exact d6_sm (by decide +kernel) (by decide)
 have smN:∀s∈([]:List (List SItem)),Sm d6 s:=fun s hs=>by cases hs
 have sm5:∀s∈[stS d5],Sm d5 s:=fun s hs=>by
  rw [List.mem_singleton.1 hs];exact d5_sm (by decide +kernel) (by decide)
 have sm5e:∀s∈[([]:List SItem)],Sm d5 s:=fun s hs=>by
  rw [List.mem_singleton.1 hs];exact d5_sm rfl (by decide)
 have o1:zbs d6 [stS d6] 5 [stS d6]:=by
  have:=sets_On_in (room_few sm (by decide) 5) (u8 5 (by decide))
  rwa [show onS d6 5 [stS d6]=[stS d6] by decide +kernel] at this
 have o2:zbs d6 [stS d6] 7 []:=by
  have:=sets_On_in (room_few sm (by decide) 7) (u8 7 (by decide))
  rwa [show onS d6 7 [stS d6]=[] by decide +kernel] at this
 have e1:zdk d6 [stS d6] true:=by
  have:=sets_Ends_in sm (by decide)
  rwa [show endS d6 [stS d6]=true by decide +kernel] at this
 have e2:zdk d6 [] false:=sets_Ends_in smN (by decide)
 have e3:zdk d5 [stS d5] false:=by
  have:=sets_Ends_in sm5 (by decide)
  rwa [show endS d5 [stS d5]=false by decide +kernel] at this
 have a1:zbz d5 [6] [[]]:=by
  have:=sets_After_in d5_rt (by decide) d5_txt (w:=[6]) (fun c hc=>by rw [List.mem_singleton.1 hc];exact u8 6 (by decide)) (by decide) (pas_le2 (m':=16) (k':=17) (by decide) (by decide) pas_16_17)
  rwa [show aftS d5 [6]=[[]] by decide +kernel] at this
 have e4:zdk d5 [[]] true:=by
  have:=sets_Ends_in sm5e (by decide)
  rwa [show endS d5 [[]]=true by decide +kernel] at this
 have b1:sets_Bytes d6 [stS d6] [0,5]:=by
  have:=sets_Bytes_in sm (by decide) (cls_few sm (by decide))
  have e:bytS d6 [stS d6]=[0,5]:=by
   unfold bytS
   rw [bytC_eq,show clsL d6 [stS d6]=[Cl.row 5 6] by decide +kernel,show heads [Cl.row 5 6]=[0,5] by decide +kernel];rfl
  rwa [e] at this
 have b2:sets_Bytes d6 [] [0]:=by
  have:=sets_Bytes_in smN (by decide) (cls_few smN (by decide))
  rwa [bytS_nil] at this
 have k1:sets_Key [stS d6] (keyL [stS d6]):=sets_Key_in (by decide) (by decide)
 have k2:sets_Key [] (keyL []):=sets_Key_in (by decide) (by decide)
 refine ⟨Cl.row 5 6,ref01_Row_in (u8 5 (by decide)) (u8 6 (by decide)),d6,Wrap_in d5_rt.tr (by decide),[stS d6],sets_Start_in d6_rt.ne (by decide +kernel),_,o1,_,o2,_,rfl,(fun h=>by simp at h),fun _=>⟨_,ref16_Same_in (by decide) (by decide) (by decide),_,fun _=>e1,_,fun _=>e2,_,rfl,_,fun _=>sets_Start_in d5_rt.ne (by decide),_,fun _=>e3,_,fun _=>a1,_,fun _=>e4,_,fun _=>b1,_,fun _=>ref02_Bytes_in (by decide),_,fun _=>b2,_,fun _=>ref02_Bytes_in (by decide),_,fun _=>k1,_,fun _=>k1,_,rfl,_,fun _=>k1,_,fun _=>k2, ?_⟩⟩
 simp [keyL]
theorem Sm.short {d:List SNode} {s:List SItem} (h:Sm d s):s.length≤1000:=by have:=h.slen;omega
theorem law16_SetsAfter_true {d:List SNode} {u v:List Int} (ht:Txt d) (hu:∀b∈u,InR .u8 b) (hv:∀b∈v,InR .u8 b):zbj d u v true:=by
 obtain ⟨r6,r8,h6,h6b,h8,h8b⟩:=guard15 ht
 refine ⟨true,awake16,r6,fun _=>h6,_,fun _=>⟨_,rfl,rfl⟩,_,rfl,r8,fun h=>h8 (by simp at h;exact h.1.1),fun _=>⟨true,awake16,rfl⟩,fun hb=>?_⟩
 simp only [Bool.not_true,Bool.false_or,Bool.or_eq_false_iff,Bool.not_eq_false',Bool.and_eq_true,decide_eq_true_eq,decide_eq_false_iff_not] at hb
 obtain ⟨⟨⟨g1,g2,g3⟩,g5⟩,g4⟩:=hb
 have hR:=h8b g1 g4
 have hdl:d.length≤16:=by omega
 have hul:u.length≤8:=by omega
 have hvl:v.length≤8:=by omega
 have pa:∀k,k≤17→pas d.length k≤2000000000:=fun k hk=>pas_le2 (m':=16) (k':=17) (by omega) hk pas_16_17
 have huv:∀i,∀b∈u++v.take i,InR .u8 b:=fun i b hb=>(List.mem_append.1 hb).elim (hu b) fun h=>hv b (List.mem_of_mem_take h)
 have huv':∀b∈u++v,InR .u8 b:=fun b hb=>(List.mem_append.1 hb).elim (hu b) (hv b)
 refine ⟨by simp;omega,by simp;omega,_,sets_After_in hR (by omega) ht hu (by omega) (pa _ (by omega)), ?_⟩
 refine upto (P:=fun k l i=>zbj.l1 d v _ k l i) v.length (fun i l=>l=aftS d (u++v.take i)) ?_ ?_ _ (by simp)
 ·rintro i l hi rfl
  have hsn:aftS d (u++v.take (i+1))=onS d v[i] (aftS d (u++v.take i)):=by rw [List.take_succ_eq_append_getElem hi,← List.append_assoc,aftS_snoc]
  have hr:=room_after hR (by omega) ht (huv i) (hv _ (List.getElem_mem hi)) (pa _ (by rw [List.length_append,List.length_take];omega))
  exact .inr ⟨_,rfl,fun k hk=>⟨fun _=>⟨_,at_lt' hi,_,sets_On_in hr (hv _ (List.getElem_mem hi)),zk (by omega) (by omega),by rw [← hsn];exact hk⟩,fun h=>absurd (by omega) (df h)⟩⟩
 ·rintro l rfl k
  refine ⟨fun h=>absurd (dt h) (by omega),fun _=>?_⟩
  rw [List.take_length]
  have hll:=aftS_len hR huv'
  have hpl:=pa (u++v).length (by rw [List.length_append];omega)
  have hsm:∀s∈aftS d (u++v),Sm d s:=fun s hs=>(aftS_sm hR (by omega) ht huv' hs).1
  have hsh:∀s∈aftS d (u++v),s.length≤1000:=fun s hs=>(hsm s hs).short
  refine ⟨_, ?_,_,ref16_Same_in hsh hsh (by omega),fun h=>by simp at h,fun _=>⟨_,sets_After_in hR (by omega) ht hu (by omega) (pa _ (by omega)),_,fun _=>sets_Ends_in hsm (by omega),_,rfl,_,fun _=>ref12_Ways_in hR (by omega) ht (by simp;omega) (by simpa using huv'),_,rfl, ?_⟩⟩
  ·have:([]++u)++v=u++v:=rfl
   rw [this]
   exact sets_After_in hR (by omega) ht huv' (by simp;omega) hpl
  ·by_cases hdead:aftS d u=[]
   ·have e0:aftS d (u++v)=[]:=by
     rw [aftS_app,hdead]
     have:∀v:List Int,v.foldl (fun l c=>onS d c l) []=[]:=fun v=>by
      induction v with
      | nil=>rfl
      | cons b v ih=>exact ih
     exact this v
    have hz:sat (nodeW d ((d.length:Int)-1) (u++v))=0:=by
     have:=endS_word d (u++v)
     rw [e0,endS_nil] at this
     have h0:nodeW d ((d.length:Int)-1) (u++v)=0:=Classical.byContradiction fun h=>by have:=this.2 h;cases this
     rw [h0];rfl
    have e1:([]++u)++v=u++v:=rfl
    rw [hdead,e1,hz,e0,endS_nil]
    simp
   ·have:(((aftS d u).length:Int)==0)=false:=by
     have:=List.length_pos_iff.2 hdead
     rw [beq_eq_false_iff_ne];omega
    rw [this];rfl
open Go.ChangeShapes Go.WideShapes Go.RowKit
structure Rd (P:Program) (t:TypeId) {α:Type} (E:En α) (G:α→Prop):Prop where
 sz:P.cellsOf t=E.sz
 rd:∀{H:Type} (enc:TypeId × Value→H) (w:World) (fuel:Nat) (cs:List Value) (x:DataW H × List MemPlace),
  DataW.trod enc P w 0 (fun _=>true) true fuel t cs=some x→(∀n∈x.1.weights P t,n≤reachBytes)→∃y,E.R w (fun b=>b<w.heap.size) cs y∧G y
 vl:∀(w:World) (v:Value),Value.okWide P w .any 0 t v→(∃y,E.R w (fun b=>b<w.heap.size) v.cells.toList y)→v=E.val v.cells.toList
theorem Rd.int {P:Program} {t:TypeId} {k:IntKind} (ht:P.underlying t=some (.int k)) (hc:P.cellsOf t=1):Rd P t (En.int k) (InR k):=by
 refine ⟨hc, ?_, ?_⟩
 ·intro H enc w fuel cs x h _
  obtain ⟨n,rfl,_,hw⟩:=DataW.trod_int ht h
  have:InR k n:=by simpa [Lit.wf,InR] using hw
  exact ⟨n,⟨rfl,this⟩,this⟩
 ·intro w v hv _
  obtain ⟨n,rfl⟩:=okWide_int ht hv
  rfl
theorem Rd.str {P:Program} {t:TypeId} (ht:P.underlying t=some .string) (hc:P.cellsOf t=1):Rd P t En.str (fun y=>y.length≤140737488351232):=by
 refine ⟨hc, ?_, ?_⟩
 ·intro H enc w fuel cs x h hwt
  obtain ⟨s,rfl,hx,hs⟩:=DataW.trod_string ht h
  have hl:s.data.toList.length≤9223372036854775807:=by simpa [maxLen] using hs
  have h2:s.data.toList.length≤140737488351232:=hwt _ (by rw [hx];simp [DataW.weights])
  exact ⟨s.data.toList,⟨rfl,hl⟩,h2⟩
 ·intro w v hv _
  simp only [Value.okWide,ht,Cell.okWide,Cell.ok] at hv
  cases v <;> simp at hv
  rfl
theorem weights_all {H:Type} {P:Program} {e:TypeId}:∀{l:List (DataW H)} {d:DataW H},d∈l→∀n∈d.weights P e,n∈DataW.weightsAll P e l
 | [],_,h,_,_=>by cases h
 | d'::l,d,h,n,hn=>by
  simp only [DataW.weightsAll,List.mem_append]
  rcases List.mem_cons.1 h with rfl | h
  ·exact .inl hn
  ·exact .inr (weights_all h n hn)
theorem Rd.slice {P:Program} {t e:TypeId} {α:Type} {E:En α} {G:α→Prop} (ht:P.underlying t=some (.slice e)) (hc:P.cellsOf t=1) (hby:Nat.blt 0 (P.bytesOf e)=true) (he:Rd P e E G):
  Rd P t (En.slice E) (fun xs=>xs.length≤140737488351232∧∀y∈xs,G y):=by
 refine ⟨hc, ?_, ?_⟩
 ·intro H enc w fuel cs x h hwt
  rcases Deep.open_slice ht h with ⟨rfl,_⟩ | ⟨a,len,cap,m,n,D,Pl,rfl,hb,hl,hm,hmm,hxe,hx⟩
  ·exact ⟨[],⟨_,rfl,slV_nil E _ _⟩,Nat.zero_le _,by simp⟩
  ·simp only [if_true] at hmm
   subst hmm
   have hall:∀i,i<len→∃p:α × List Value,w.cells? 0 (a.add (i*P.cellsOf e)) (P.cellsOf e)=some p.2∧E.R w (fun b=>b<w.heap.size) p.2 p.1∧G p.1:=fun i hi=>by
    obtain ⟨cs',h1,h2⟩:=hx i (by omega)
    obtain ⟨y,h3,h4⟩:=he.rd enc w n cs' _ h2 fun q hq=>hwt q (by
     rw [hxe]
     simp only [DataW.weights,ht,List.mem_cons,List.mem_append]
     exact .inr (.inl (weights_all (List.mem_map.2 ⟨i,by simpa using hi,rfl⟩) q hq)))
    exact ⟨(y,cs'),h1,h3,h4⟩
   have hmax2:len≤140737488351232:=by
    have h1:=hwt ((len+(m-len))*P.bytesOf e) (by rw [hxe];simp [DataW.weights,ht])
    have h2:0<P.bytesOf e:=Nat.le_of_ble_eq_true hby
    have h3:(len+(m-len))*1≤(len+(m-len))*P.bytesOf e:=Nat.mul_le_mul_left _ h2
    have h4:reachBytes=140737488351232:=rfl
    omega
   have hmax:len≤lim:=by have:maxLen≤lim:=by decide
                         omega
   by_cases h0:len=0
   ·subst h0
    exact ⟨[],⟨_,rfl,some a,m,rfl,Nat.zero_le _,(fun h=>by cases h),Nat.zero_le _,fun h=>absurd rfl h⟩,Nat.zero_le _,by simp⟩
   have hinh:Inhabited (α × List Value):=⟨(hall 0 (by omega)).choose⟩
   obtain ⟨f,hf⟩:=Deep.choose_lt hall
   have hsz:=E.pos
   rw [← he.sz] at hsz
   obtain ⟨hcell0,hblk⟩:a.spot=none∧a.block<w.heap.size:=by
    obtain ⟨_,hl2,hcl⟩:=World.cells?_some (hf 0 (by omega)).1
    have h2:=hcl 0 hsz
    rw [List.getElem?_eq_getElem (by omega)] at h2
    simp only [Nat.zero_mul,Addr.add,if_true,World.cell?] at h2
    cases hb2:w.heap[a.block]? with
    | none=>simp [hb2] at h2
    | some o=>
     refine ⟨?_,(Array.getElem?_eq_some_iff.1 hb2).1⟩
     cases o <;> simp [hb2] at h2
     exact h2.1
   refine ⟨(List.range len).map (fun i=>(f i).1),⟨_,rfl,some a,m, ?_,by simpa using hl,(fun h=>by cases h),by simpa using hmax,fun _=>⟨a.block,a.off,(List.range len).map (fun i=>(f i).2), ?_,hblk,⟨by simp, ?_⟩, ?_⟩⟩,by simpa using hmax2, ?_⟩
   ·simp
   ·cases a;simp at hcell0;subst hcell0;rfl
   ·intro i c y hc1 hy1
    have hi:i<len:=by have:=(List.getElem?_eq_some_iff.1 hc1).1;simpa using this
    simp [hi] at hc1 hy1
    subst hc1;subst hy1
    exact (hf i hi).2.1
   ·have hlens:∀c∈(List.range len).map (fun i=>(f i).2),c.length=E.sz:=by
     intro c hc
     simp only [List.mem_map,List.mem_range] at hc
     obtain ⟨i,hi,rfl⟩:=hc
     rw [(World.cells?_some (hf i hi).1).2.1,he.sz]
    intro j u hj
    have hjl:j<len*E.sz:=by
     have:=(List.getElem?_eq_some_iff.1 hj).1
     rw [flat_len hlens] at this;simpa using this
    have hp:0<E.sz:=E.pos
    have hi:j / E.sz<len:=Nat.div_lt_of_lt_mul (by rw [Nat.mul_comm];exact hjl)
    have hk:j % E.sz<E.sz:=Nat.mod_lt _ hp
    obtain ⟨_,hl2,hcl⟩:=World.cells?_some (hf _ hi).1
    have hcell:=hcl (j % E.sz) (by rw [he.sz];exact hk)
    rw [he.sz] at hl2
    have hg:=flat_get hlens (i:=j / E.sz) (cs:=(f (j / E.sz)).2) (j:=j % E.sz) (u:=(f (j / E.sz)).2[j % E.sz]'(by omega)) (by simp [hi]) (by simp)
    rw [Nat.mul_comm,Nat.div_add_mod] at hg
    rw [hg] at hj
    rw [List.getElem?_eq_getElem (by omega),hj,Deep.add_add,he.sz,Nat.mul_comm,Nat.div_add_mod] at hcell
    rw [← hcell]
    cases a;simp at hcell0;subst hcell0;rw [zdo]
   ·intro y hy
    simp only [List.mem_map,List.mem_range] at hy
    obtain ⟨i,hi,rfl⟩:=hy
    exact (hf i hi).2.2
 ·intro w v hv _
  simp only [Value.okWide,ht,Cell.okWide,Cell.ok] at hv
  cases v <;> simp at hv
  rfl
theorem u64_word {n:Int} (h:InR .u64 n):∃m:Nat,m<2 ^ 64∧n=m:=by
 simp [InR,IntKind.min,IntKind.max,IntKind.signed,IntKind.bits] at h
 exact ⟨n.toNat,by omega,by omega⟩
theorem Rd.cls {P:Program} {t e:TypeId} (ht:P.underlying t=some (.array 4 e)) (hc:P.cellsOf t=4) (he:P.underlying e=some (.int .u64)) (hce:P.cellsOf e=1):Rd P t En.cls (fun _=>True):=by
 refine ⟨hc, ?_, ?_⟩
 ·intro H enc w fuel cs x h _
  obtain ⟨xs,m,rfl,rfl,hlen,hn,hx⟩:=DataW.trod_array ht h
  rw [hc] at hlen
  match cs,hlen with
  | [u0,u1,u2,u3],_=>
   have hx':∀i (hi:i<4) u,[u0,u1,u2,u3][i]?=some u→∃q:Nat,q<2 ^ 64∧u = .int .u64 q:=by
    intro i hi u hu
    have h1:=hx i hi
    rw [hce,Nat.mul_one,List.getElem?_eq_getElem (by omega)] at h1
    have h2:List.take 1 (List.drop i [u0,u1,u2,u3])=[u]:=by
     match i,hi with
     | 0,_ | 1,_ | 2,_ | 3,_=>simp at hu;subst hu;rfl
    rw [h2] at h1
    obtain ⟨n,h3,_,h4⟩:=DataW.trod_int he h1
    obtain ⟨q,hq,rfl⟩:=u64_word (n:=n) (by simpa [Lit.wf,InR] using h4)
    simp at h3
    exact ⟨q,hq,h3⟩
   obtain ⟨q0,h0,rfl⟩:=hx' 0 (by omega) u0 rfl
   obtain ⟨q1,h1,rfl⟩:=hx' 1 (by omega) u1 rfl
   obtain ⟨q2,h2,rfl⟩:=hx' 2 (by omega) u2 rfl
   obtain ⟨q3,h3,rfl⟩:=hx' 3 (by omega) u3 rfl
   refine ⟨Cl.ofWords q0 q1 q2 q3, ?_,trivial⟩
   obtain ⟨e0,e1,e2,e3⟩:=Cl.ofWords_word h0 h1 h2 h3
   show _=zbr _
   unfold zbr
   rw [e0,e1,e2,e3]
 ·intro w v hv _
  simp only [Value.okWide,ht] at hv
  obtain ⟨cs,rfl,_⟩:=hv
  simp [En.val,En.cls,Value.cells]
structure RdF (P:Program) (fs:List Field) (o:Nat) {α:Type} (E:En α) (G:α→Prop):Prop where
 rd:∀{H:Type} (enc:TypeId × Value→H) (w:World) (fuel:Nat) (cs:List Value) (xs:List (DataW H × List MemPlace)),xs.length=fs.length →
  (∀(i:Nat) (f:Field),fs[i]?=some f→DataW.trod enc P w 0 (fun _=>true) true fuel f.type ((cs.drop f.offset).take (P.cellsOf f.type))=xs[i]?) →
  (∀n∈DataW.weightsEach P (fs.map (·.type)) (xs.map (·.1)),n≤reachBytes)→∃y,E.R w (fun b=>b<w.heap.size) ((cs.drop o).take E.sz) y∧G y
theorem RdF.last {P:Program} {f:Field} {o:Nat} {α:Type} {E:En α} {G:α→Prop} (h:Rd P f.type E G) (ho:f.offset=o):RdF P [f] o E G:=⟨by
 intro H enc w fuel cs xs hl hx hw
 obtain ⟨x,rfl⟩:∃x,xs=[x]:=List.length_eq_one_iff.1 hl
 have h1:=hx 0 f rfl
 rw [ho,h.sz] at h1
 exact h.rd enc w fuel _ x h1 fun n hn=>hw n (by simp [DataW.weightsEach,hn])⟩
theorem RdF.solo {P:Program} {fs:List Field} {o:Nat} {α:Type} {E:En α} {G:α→Prop} (h:RdF P fs o E G):RdF P fs o E.solo G:=⟨h.rd⟩
theorem take_add_split {xs:List Value} {o m n:Nat}:(xs.drop o).take (m+n)=(xs.drop o).take m++(xs.drop (o+m)).take n:=by
 rw [List.take_add,List.drop_drop]
theorem RdF.cons {P:Program} {f:Field} {fs:List Field} {o:Nat} {α β:Type} {E:En α} {F:En β} {G:α→Prop} {K:β→Prop} (h:Rd P f.type E G) (ho:f.offset=o) (hr:RdF P fs (o+E.sz) F K):RdF P (f::fs) o (E.cat F) (fun x=>G x.1∧K x.2):=⟨by
 intro H enc w fuel cs xs hl hx hw
 obtain ⟨x,xs',rfl⟩:∃x xs',xs=x::xs':=by
  cases xs with
  | nil=>simp at hl
  | cons x xs'=>exact ⟨x,xs',rfl⟩
 have h1:=hx 0 f rfl
 rw [ho,h.sz] at h1
 obtain ⟨y,hy1,hy2⟩:=h.rd enc w fuel _ x h1 fun n hn=>hw n (by simp [DataW.weightsEach,hn])
 obtain ⟨z,hz1,hz2⟩:=hr.rd enc w fuel cs xs' (by simpa using hl) (fun i g hg=>by have:=hx (i+1) g (by simpa using hg);simpa using this) fun n hn=>hw n (by
  simp only [List.map_cons,DataW.weightsEach,List.mem_append];exact .inr hn)
 exact ⟨(y,z),⟨_,_,take_add_split,hy1,hz1⟩,hy2,hz2⟩⟩
theorem Rd.struct {P:Program} {t:TypeId} {fs:Array Field} {α:Type} {E:En α} {G:α→Prop} (ht:P.underlying t=some (.struct fs)) (ha:E.agg=true) (hc:P.cellsOf t=E.sz) (h:RdF P fs.toList 0 E G):Rd P t E G:=by
 refine ⟨hc, ?_, ?_⟩
 ·intro H enc w fuel cs x hx hw
  obtain ⟨xs,n,rfl,rfl,hlen,hxl,hf⟩:=DataW.trod_struct ht hx
  obtain ⟨y,hy1,hy2⟩:=h.rd enc w n cs xs (by simpa using hxl) (fun i f hi=>hf i f (by simpa using hi)) fun q hq=>hw q (by
   simp only [DataW.weights,ht];exact hq)
  rw [List.drop_zero,List.take_of_length_le (by rw [hlen,hc];exact Nat.le_refl _)] at hy1
  exact ⟨y,hy1,hy2⟩
 ·intro w v hv _
  obtain ⟨cs,rfl,_⟩:=okWide_struct ht hv
  unfold En.val
  rw [ha]
  simp [Value.cells]
theorem Rd.open {P:Program} {t:TypeId} {α:Type} {E:En α} {G:α→Prop} (hr:Rd P t E G) {H:Type} {enc:TypeId × Value→H} {W:World} {v:Value} {d:DataW H} {p:List MemPlace}
  (hv:Value.okWide P W .any 0 t v) (hd:DataW.Trod enc P W 0 (fun _=>true) true t v d p) (hw:∀n∈d.weights P t,n≤reachBytes):∃y,(Pd.rep E y).p ⟨W,fun _=>False,fun _ h=>h.elim⟩ v∧G y:=by
 obtain ⟨fuel,h⟩:=hd
 obtain ⟨y,hy,hg⟩:=hr.rd enc W fuel _ _ h hw
 refine ⟨y,⟨v.cells.toList,hr.vl W v hv ⟨y,hy⟩, ?_⟩,hg⟩
 exact E.mono (fun b hb=>⟨hb,fun h=>h⟩) hy
theorem Ex.below {s s':St} (h:Ex s s'):Below s.w.heap.size s.w s'.w:=⟨h.mv.os,h.mv.tape,h.mv.output,h.mv.size,fun k hk=>h.mv.blk k hk (fun h=>h)⟩
theorem okWide_any {P:Program} {W:World} {b:Nat} {t:TypeId} {v:Value} (h:Value.okWide P W .any b t v):Value.okWide P W .any 0 t v:=by
 unfold Value.okWide Row.okWide Cell.okWide Cell.ok World.has at *
 exact h
section
variable {H : Type} {enc : TypeId × Value → H} {P : Program}
theorem stays {W W':World} (hl:laidOutB P=true) (hb:Below W.heap.size W W') {sp:Nat→Bool}:∀{ts:List TypeId} {vs:List Value} {ds:List (DataW H)} {ps:List MemPlace},
  (ts.all fun t=>P.readableRec t&&decide (t<P.types.size))=true→DataW.TrodAll enc P W 0 (fun _=>true) true ts vs ds ps→(∀p∈ps,p.block<W.heap.size)→(∀p∈ps,sp p.block=true) →
  DataW.TrodAll enc P W' 0 sp true ts vs ds ps
 | [],vs,ds,ps,_,h,_,_=>by
  obtain ⟨rfl,rfl,rfl⟩:=trodAll_nil h
  exact trodAll_mk0
 | t::ts,vs,ds,ps,ha,h,hlt,hsp=>by
  obtain ⟨v,vs',d,ds',p,q,rfl,rfl,rfl,h1,h2⟩:=trodAll_cons h
  simp only [List.all_cons,Bool.and_eq_true,decide_eq_true_eq] at ha
  refine trodAll_cons_mk (WideElems.Trod_stays hl ha.1.1 ha.1.2 h1 (fun x hx=>hb.same (hlt x (List.mem_append_left _ hx))) fun x hx=>hsp x (List.mem_append_left _ hx)) ?_
  exact stays hl hb (by simpa using ha.2) h2 (fun x hx=>hlt x (List.mem_append_right _ hx)) fun x hx=>hsp x (List.mem_append_right _ hx)
theorem post_law {f:Func} {s:ChangeSpec} {apart fresh handsOn again:Bool} {W W':World} {args:Array Value} {v:Value} {ds gs:List (DataW H)} {before:List MemPlace} {tb:TypeId}
  (hW:DataW.Whole enc P f.params.toList s.vars apart W args.toList ds gs before) (hb:Below W.heap.size W W') (hl:laidOutB P=true)
  (hrd:(f.params.toList.all fun t=>P.readableRec t&&decide (t<P.types.size))=true) (hs:s.vars=[]) (hrt:f.resultTypes = #[tb]) (hub:P.underlying tb=some .bool) (hv:v = .bool true)
  (hres:(s.fn H (ds++gs)).results=[.lit (.bool true)]) (hargs:(s.fn H (ds++gs)).args=ds) (hvars:(s.fn H (ds++gs)).vars=[]):s.post enc P f apart fresh handsOn again W args v W':=by
 subst hv
 have hlt:=hW.lt
 have hW':=hW
 obtain ⟨p,q,hA,hV,rfl,hz,hn⟩:=hW
 rw [hs] at hV
 obtain ⟨rfl,rfl⟩:=trodVars_none hV
 have hsub:∀x∈p,x∈p++([]:List MemPlace):=fun x hx=>by simpa using hx
 have harg:∀sp:Nat→Bool,(∀x∈p++([]:List MemPlace),sp x.block=true)→DataW.TrodAll enc P W' 0 sp true f.params.toList args.toList (s.fn H (ds++[])).args p:=fun sp hsp=>by
  rw [hargs]
  exact stays hl hb hrd hA (fun x hx=>hlt x (hsub x hx)) fun x hx=>hsp x (hsub x hx)
 have hvar:∀sp:Nat→Bool,DataW.TrodVars enc P W' sp s.vars (s.fn H (ds++[])).vars []:=fun sp=>by rw [hs,hvars];exact rfl
 have hr:∀(b:Nat) (sp:Nat→Bool) (hd:Bool),DataW.TrodAll enc P W' b sp hd f.resultTypes.toList ((Value.bool true).resultList f.resultTypes.size) (s.fn H (ds++[])).results []:=fun b sp hd=>by
  rw [hres,hrt]
  exact trodAll_cons_mk (shut_bool hub _) trodAll_mk0
 have hold:∀x∈p++([]:List MemPlace),(fun b=>decide (b<W.heap.size)) x.block=true:=fun x hx=>by simpa using hlt x hx
 refine ⟨ds,[],p++[],[],p,[],hW',hr _ _ _,harg _ hold,hvar _,World.keptBut_mono (fun x hx=>⟨hx, ?_⟩) (hb.frame (·∈p++[])),fun _=>?_⟩
 ·simpa using hx
 ·refine ⟨ok_one hrt rfl (okWide_bool_mk hub _),_,_,([]++p)++[],⟨[]++p,[],trodAll_append (harg _ (fun _ _=>rfl)) (hr _ _ _),hvar _,rfl, ?_, ?_⟩, ?_⟩
  ·intro b off hp
   have hp':MemPlace.cell b off∈p++([]:List MemPlace):=by simpa using hp
   rw [hb.frozen (p:=⟨b,off,none⟩) (hlt _ hp')]
   exact hz b off hp'
  ·intro ha
   simpa using hn ha
  ·intro x hx _
   simpa using hx
end
end Go.Proofs.YtahgmdbioafmbaaGreatDoor.V
namespace Go.Proofs.YtahgmdbioafmbaaGreatDoor.V
open Go Go.ChangeShapes Go.WideShapes Go.RowKit
set_option linter.unusedVariables false
def lst4:List (String × DataW Unit):=[("math/bits.deBruijn32tab",Rows.laid_math_bits_deBruijn32tab),("math/bits.deBruijn64tab",Rows.laid_math_bits_deBruijn64tab),("internal/strconv.uint64pow10",Rows.laid_internal_strconv_uint64pow10),("scantling/heads.readies",Rows.laid_scantling_heads_readies)]
def lst:List (String × DataW Unit):=[("math/bits.deBruijn32tab",Rows.laid_math_bits_deBruijn32tab),("math/bits.deBruijn64tab",Rows.laid_math_bits_deBruijn64tab),("internal/strconv.uint64pow10",Rows.laid_internal_strconv_uint64pow10),("scantling/heads.readies",Rows.laid_scantling_heads_readies),("scantling/next.steps",Rows.laid_scantling_next_steps)]
theorem cells_of_bools {H:Type} {enc:TypeId × Value→H} {P:Program} {w:World} {base:Nat} {sp:Nat→Bool} {held:Bool} {fuel:Nat} {t e:TypeId} {n:Nat} {cs:List Value} {bs:List Bool} {p:List MemPlace}
  (ht:P.underlying t=some (.array n e)) (he:P.underlying e=some .bool) (hce:P.cellsOf e=1) (hct:P.cellsOf t=n)
  (h:DataW.trod enc P w base sp held fuel t cs=some (.agg (bs.map fun b=>.lit (.bool b)),p)):cs=bs.map Value.bool:=by
 obtain ⟨xs,m,rfl,hx,hl,hn,hf⟩:=DataW.trod_array ht h
 have hx1:=congrArg Prod.fst hx
 simp only [DataW.agg.injEq] at hx1
 have hbl:bs.length=n:=by
  have:=congrArg List.length hx1
  simp at this;omega
 apply List.ext_getElem?
 intro i
 by_cases hi:i<n
 ·have h1:=hf i hi
  rw [hce,Nat.mul_one,List.getElem?_eq_getElem (by omega)] at h1
  obtain ⟨b,hc,hb⟩:=DataW.trod_bool he h1
  have h2:cs[i]?=some (.bool b):=by
   have:=congrArg (·[0]?) hc
   simpa [List.getElem?_take,List.getElem?_drop] using this
  have h3:(bs.map fun b=>(DataW.lit (.bool b):DataW H))[i]?=some (.lit (.bool b)):=by
   rw [hx1,List.getElem?_map,List.getElem?_eq_getElem (by omega),hb];rfl
  rw [List.getElem?_map,Option.map_eq_some_iff] at h3
  obtain ⟨b',hb',e⟩:=h3
  cases e
  rw [h2,List.getElem?_map,hb'];rfl
 ·rw [List.getElem?_eq_none (by omega),List.getElem?_eq_none (by simp;omega)]
def nameB1:List UInt8:=[40,115,99,97,110,116,108,105,110,103,47,110,101,120,116,46,115,116,101,112,41,46,110,111,100,101]
def nameB3:List UInt8:=[40,115,99,97,110,116,108,105,110,103,47,110,101,120,116,46,115,116,101,112,41,46,116,101,120,116]
def nameB4:List UInt8:=[40,115,99,97,110,116,108,105,110,103,47,110,101,120,116,46,115,116,101,112,41,46,104,97,108,102]
def stepsD:DataW Unit:=.map [(.int .i64 1,.iface "func" (.lit (.string nameB1))),(.int .i64 3,.iface "func" (.lit (.string nameB3))),(.int .i64 4,.iface "func" (.lit (.string nameB4)))]
def stepsL:List (Lit × DataW (List UInt8)):=[(.int .i64 1,.held nameB1),(.int .i64 3,.held nameB3),(.int .i64 4,.held nameB4)]
theorem key_int {P:Program} {k:TypeId} (hk:P.underlying k=some (.int .i64)) {v:Value} {l:Lit} (h:keyOf P k v=some l):∃n:Int,v = .int .i64 n∧l = .int .i64 n∧InR .i64 n:=by
 rw [keyOf_int hk] at h
 unfold mapKey at h
 rw [hk] at h
 cases v <;> simp at h
 obtain ⟨⟨rfl,h2⟩,rfl⟩:=h
 exact ⟨_,rfl,rfl,by simpa [Lit.wf,InR] using h2⟩
theorem one_of_formed {P:Program} {t:TypeId} {ps rs:Array TypeId} {va:Bool} {v:Value} (ht:P.underlying t=some (.func ps rs va)) (h:v.formed P t=true):v.cells.toList=[v]:=by
 cases v <;> simp [Value.formed,ht] at h <;> rfl
def entY (e:MapEntry):Int × Option Nat:=match e.key with | .int _ n=>(n,mget gfmS n none) | _=>(0,none)
def entL (q:Lit × DataW (List UInt8)):Int × Option Nat:=match q.1 with | .int _ n=>(n,mget gfmS n none) | _=>(0,none)
def Steps (W:World):Prop:=∃m t fr es clock ys,W.heap[0]?=some (.cells #[.map (some m)] t fr)∧W.heap[m]?=some (.map es clock)∧Fmst es clock ys∧ys.Perm gfmS
theorem steps_of_funcs {W:World} (h:funcsAt Tryz.prog W "scantling/next.steps" stepsD):Steps W:=by
 obtain ⟨g,t,cs,fuel,p,hg,ht,hv,hd⟩:=h
 have hg':Tryz.prog.globalNamed "scantling/next.steps"=some 0:=by kernel_rfl
 have hty:(Tryz.prog.globals[0]?).map (·.type)=some 167:=by kernel_rfl
 obtain rfl:=Option.some.inj (hg'.symm.trans hg)
 obtain rfl:=Option.some.inj (hty.symm.trans ht)
 have e:DataW.funcsOut stepsD = .map stepsL:=by kernel_rfl
 rw [e] at hd
 have hkt:Tryz.prog.underlying 3=some (.int .i64):=Tryz.underlying3
 rcases WideElems.open_map Tryz.underlying167 hd with ⟨_,hx⟩ | ⟨m,es,clock,n,rfl,hcs,hb,_,F,hx⟩
 ·simp at hx
 ·simp only [Prod.mk.injEq,DataW.map.injEq] at hx
  have hp:stepsL.Perm (es.toList.map (WideElems.rg Tryz.prog 3 (WideElems.elemAt (funcToken Tryz.prog) Tryz.prog W 0 (fun _=>true) true n 165))):=by
   rw [hx.1];exact sorted_perm _
  have ent:∀x∈es.toList,∃i:Int,x.key = .int .i64 i∧InR .i64 i∧entL (WideElems.rg Tryz.prog 3 (WideElems.elemAt (funcToken Tryz.prog) Tryz.prog W 0 (fun _=>true) true n 165) x)=(i,mget gfmS i none)∧x.val=fidV (mget gfmS i none):=by
   intro x hx'
   obtain ⟨y,hy⟩:=F.reads x hx'
   have hrg:=WideElems.rg_of hy
   have hm:y∈stepsL:=hp.mem_iff.2 (List.mem_map.2 ⟨x,hx',hrg⟩)
   obtain ⟨i,hk1,hk2,hk3⟩:=key_int hkt (WideElems.rd_key hy)
   obtain ⟨z,hz1,hz2⟩:=WideElems.rd_val hy
   unfold WideElems.elemAt at hz1
   split at hz1
   case isFalse=>cases hz1
   rename_i hf
   rw [one_of_formed Tryz.underlying165 hf] at hz1
   refine ⟨i,hk1,hk3,by rw [hrg];simp only [entL,hk2], ?_⟩
   unfold stepsL at hm
   simp only [List.mem_cons,List.not_mem_nil,or_false] at hm
   rcases hm with rfl | rfl | rfl
   ·simp only [Lit.int.injEq,true_and] at hk2
    subst hk2
    obtain ⟨z1,z2⟩:=z
    simp only at hz2
    subst hz2
    exact func_of_trod (f0:=209) Tryz.underlying165 (by kernel_rfl) hz1
   ·simp only [Lit.int.injEq,true_and] at hk2
    subst hk2
    obtain ⟨z1,z2⟩:=z
    simp only at hz2
    subst hz2
    exact func_of_trod (f0:=210) Tryz.underlying165 (by kernel_rfl) hz1
   ·simp only [Lit.int.injEq,true_and] at hk2
    subst hk2
    obtain ⟨z1,z2⟩:=z
    simp only at hz2
    subst hz2
    exact func_of_trod (f0:=207) Tryz.underlying165 (by kernel_rfl) hz1
  obtain ⟨o,ho,hcell⟩:∃t fr,W.heap[0]?=some (.cells #[.map (some m)] t fr):=by
   unfold World.var? at hv
   rw [hg'] at hv
   simp only [Option.bind_some] at hv
   split at hv
   ·rename_i cs' t' fr' hc
    refine ⟨t',fr', ?_⟩
    rw [hc]
    simp only [Option.some.injEq] at hv
    rw [hv,← Array.toArray_toList (xs:=cs),hcs]
   ·cases hv
  refine ⟨m,o,ho,es,clock,es.toList.map entY,hcell,hb,⟨F.stamped,by simp,fun i e q h1 h2=>?_⟩, ?_⟩
  ·have hm:=List.mem_of_getElem? h1
   obtain ⟨j,hk1,hk3,_,hval⟩:=ent e hm
   rw [List.getElem?_map,h1] at h2
   simp only [Option.map_some,Option.some.injEq] at h2
   subst h2
   have hr:=inR_i64.1 hk3
   simp only [entY,hk1]
   exact ⟨trivial,hr,hval⟩
  ·have h3:=(hp.map entL).symm
   have e1:stepsL.map entL=gfmS:=by kernel_rfl
   rw [e1,List.map_map] at h3
   refine List.Perm.trans (List.Perm.of_eq (List.map_congr_left fun x hx'=>?_)) h3
   obtain ⟨j,hk1,_,hL,_⟩:=ent x hx'
   simp only [Function.comp,entY,hk1]
   exact hL.symm
def Tabs (W:World):Prop:=(Lib.TabIs Tryz.prog W "internal/strconv.uint64pow10" .u64 Lib.pow10Tab∧W.var? Tryz.prog "scantling/heads.readies"=some (gdat1.map Value.bool).toArray)∧Steps W
theorem tab_of_laid {W:World} (h:laidMetH Tryz.prog lst W):Tabs W:=by
 have hs:("scantling/next.steps",(DataW.iface "func table" stepsD:DataW Unit))∈lst:=by
  have e:(Rows.laid_scantling_next_steps:DataW Unit)=DataW.iface "func table" stepsD:=by kernel_rfl
  unfold lst
  rw [e]
  simp
 have h3:=steps_of_funcs (h.funcs hs)
 have e0:laidMetH Tryz.prog lst W=(laidMet Tryz.prog lst4 W∧handlesMet Tryz.prog [("scantling/next.steps",Rows.laid_scantling_next_steps)] W):=by kernel_rfl
 rw [e0] at h
 have h':=h.1
 unfold lst4 at h'
 refine ⟨⟨?_, ?_⟩,h3⟩
 ·have e:(Rows.laid_internal_strconv_uint64pow10:DataW Unit)=Lib.tabData .u64 Lib.pow10Tab:=by kernel_rfl
  have h2:=h'.tail.tail
  rw [e] at h2
  exact Lib.tabIs_of_head (g:=2) (t:=227) (e:=49) (n:=20) (by kernel_rfl) (by kernel_rfl) Tryz.underlying227 Tryz.underlying49 (by kernel_rfl) (by kernel_rfl) h2
 ·have e:(Rows.laid_scantling_heads_readies:DataW Unit) = .agg (gdat1.map fun b=>.lit (.bool b)):=by kernel_rfl
  have h2:=h'.tail.tail.tail
  rw [e] at h2
  obtain ⟨ps,⟨g',t',cs,fuel,p,q,hg',ht',hvar,hd,_,_⟩,_⟩:=h2
  have hg:Tryz.prog.globalNamed "scantling/heads.readies"=some 1:=by kernel_rfl
  have hty:(Tryz.prog.globals[1]?).map (·.type)=some 213:=by kernel_rfl
  obtain rfl:=Option.some.inj (hg.symm.trans hg')
  obtain rfl:=Option.some.inj (hty.symm.trans ht')
  rw [hvar,← cells_of_bools Tryz.underlying213 (e:=4) Tryz.underlying4 (by kernel_rfl) (by kernel_rfl) hd]
theorem gl_of_tab {W:World} (h:Tabs W):Gl ⟨W,fun _=>False,fun _ h=>h.elim⟩:=by
 obtain ⟨⟨h1,h2⟩,h3⟩:=h
 refine ⟨fun p hp=>?_,fun p hp=>?_⟩
 ·unfold gtab at hp
  rcases List.mem_cons.1 hp with rfl | hp
  ·refine ⟨fun h=>h, ?_⟩
   unfold Lib.TabIs World.var? at h1
   have hg:Tryz.prog.globalNamed "internal/strconv.uint64pow10"=some 2:=by kernel_rfl
   rw [hg] at h1
   simp only [Option.bind_some] at h1
   split at h1
   ·rename_i cs t fr hc
    refine ⟨t,fr, ?_⟩
    show W.heap[2]?=_
    rw [hc]
    simp only [Option.some.injEq] at h1
    rw [h1]
    simp [Lib.pow10Tab]
   ·cases h1
  ·obtain rfl:=List.mem_singleton.1 hp
   refine ⟨fun h=>h, ?_⟩
   unfold World.var? at h2
   have hg:Tryz.prog.globalNamed "scantling/heads.readies"=some 1:=by kernel_rfl
   rw [hg] at h2
   simp only [Option.bind_some] at h2
   split at h2
   ·rename_i cs t fr hc
    refine ⟨t,fr, ?_⟩
    show W.heap[1]?=_
    rw [hc]
    simp only [Option.some.injEq] at h2
    rw [h2]
   ·cases h2
 ·unfold gmap at hp
  obtain rfl:=List.mem_singleton.1 hp
  obtain ⟨m,t,fr,es,clock,ys,k1,k2,k3,k4⟩:=h3
  exact ⟨fun h=>h,m,t,fr,es,clock,ys,k1,fun h=>h,k2,k3,k4⟩
noncomputable def laidWorld (os:Os):World:=World.doorLaid Tryz.prog 400 os
theorem laid_met (os:Os) (args:Array Value):laidMetH Tryz.prog lst ((laidWorld os).forCall (fun _ _=>0) ⟨#[],args,[]⟩).memory:=
 laidMetH_of_parts3 (fuel:=8) (laidMet_of_run' 8 (by kernel_rfl) (by kernel_rfl)) (by kernel_rfl) (by kernel_rfl)
theorem weigh {H:Type} {P:Program} {ts:List TypeId} {ds:List (DataW H)} (h:(DataW.weightsEach P ts ds).all (·≤reachBytes)=true) (j:Nat) {t:TypeId} {d:DataW H} (ht:ts[j]?=some t) (hd:ds[j]?=some d):∀n∈d.weights P t,n≤reachBytes:=fun n hn=>by
 have:=List.all_eq_true.1 h n (DataW.weights_mem_each ht hd n hn)
 simpa using this
end Go.Proofs.YtahgmdbioafmbaaGreatDoor.V
