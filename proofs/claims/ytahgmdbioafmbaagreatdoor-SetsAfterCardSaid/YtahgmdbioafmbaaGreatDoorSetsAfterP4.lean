/-
  The texts that the law's proof needs, part 4.
-/
import Derived.Laws.StructEq
import Derived.Laws.Tables
import Derived.Lib.ItoaNum
import Derived.Shelf.SlLaysF
import Derived.Shelf.SlSortCmp.NoneTotal
import Derived.Shelf.SlSortCmp.Whole1
import Derived.Shelf.SlSortCmp.WholeK
import Derived.Test.YtahgmdbioafmbaaGreatDoorSetsAfterP3

namespace Go.Proofs.YtahgmdbioafmbaaGreatDoor.V
open Go Go.Shelf Go.Sort
set_option linter.unusedVariables false
theorem grow_of {w w':World} (hd:w.drawn≤w'.drawn) (ho:w'.os=w.os) (ht:w'.tape=w.tape) (hu:w'.output=w.output) (hs:w.heap.size≤w'.heap.size) (hb:∀b,b<w.heap.size→w'.heap[b]?=w.heap[b]?):∃q os,w'=Sort.grow (w.drewN q) os:=by
 refine ⟨w'.drawn-w.drawn,w'.heap.extract w.heap.size w'.heap.size, ?_⟩
 have hh:w'.heap=w.heap++w'.heap.extract w.heap.size w'.heap.size:=by
  apply Array.ext_getElem?
  intro i
  rw [Array.getElem?_append]
  split
  ·exact hb i ‹_›
  ·rw [Array.getElem?_extract]
   rename_i h
   by_cases hi:i<w'.heap.size
   ·rw [if_pos (by omega)];congr 1;omega
   ·rw [if_neg (by omega),Array.getElem?_eq_none (by omega)]
 have hd2:w'.drawn=w.drawn+(w'.drawn-w.drawn):=by omega
 obtain ⟨h1,t1,d1,o1,u1⟩:=w'
 obtain ⟨h0,t0,d0,o0,u0⟩:=w
 simp only at *
 subst ho ht hu
 unfold Sort.grow World.drewN
 simp only
 rw [← hh,← hd2]
theorem cmp_grow {P:Program} {g:FuncId} {α:Type} {E':VD.En α} {x y:α} {c:Int} (hc:VD.Fn P g [VD.Pd.rep E' x,VD.Pd.rep E' y] (VD.Rq (VD.Pd.rep (VD.En.int .i64) c))) (s:VD.St) (hg:VD.Gl s) {cx cy:List Value} (hx:E'.R s.w (VD.foot s) cx x) (hy:E'.R s.w (VD.foot s) cy y):
  Calls P g #[E'.val cx,E'.val cy] s.w fun e w'=>e = .returned (.int .i64 c)∧∃q os',w'=Sort.grow (s.w.drewN q) os':=
 (hc.run s [E'.val cx,E'.val cy] hg ⟨⟨cx,rfl,hx⟩,⟨cy,rfl,hy⟩,trivial⟩).mono fun e w' ⟨v,s',he,hw,hX,hq⟩=>by
  subst he;subst hw
  refine ⟨by rw [(VD.zx.1 hq).1],grow_of hX.mv.dr hX.mv.os hX.mv.tape hX.mv.output hX.mv.size fun b hb=>hX.mv.blk b hb id⟩
theorem swo_cmp {α:Type} {cf:α→α→Int} (h0:∀x,cf x x=0) (ha:∀x y,cf y x = -cf x y) (ht:∀x y z,cf x y≤0→cf y z≤0→cf x z≤0):SWO (Go.Proofs.ltOf cf) where
 irrefl x:=by unfold Go.Proofs.ltOf;rw [h0];rfl
 trans x y z h1 h2:=by
  unfold Go.Proofs.ltOf at *
  simp only [decide_eq_true_eq] at *
  have a1:=ha x y;have a2:=ha y z;have a3:=ha x z
  rcases Int.lt_or_le (cf x z) 0 with h | h
  ·exact h
  ·have:=ht z x y (by omega) (by omega)
   omega
 ntrans x y z h1 h2:=by
  unfold Go.Proofs.ltOf at *
  simp only [decide_eq_false_iff_not,Int.not_lt] at *
  have a1:=ha x y;have a2:=ha y z;have a3:=ha x z
  have:=ht z y x (by omega) (by omega)
  omega
theorem put_block {w:World} {b:Nat} {cur:Array Value} {te:TypeId} {F:Array Value} (m:Nat) (os:Array Obj) (hb:w.heap[b]?=some (.cells cur te (0,0))):
  (Sort.grow (putRow id (Sort.ahead w m) b 0 F) os).heap[b]?=some (.cells (putCells id 0 F cur) te (0,0)):=by
 have hlt:=(Array.getElem?_eq_some_iff.1 hb).1
 unfold Sort.grow putRow mapBlock
 simp only
 rw [Array.getElem?_append_left (by simpa [Sort.ahead] using hlt),Array.getElem?_modify,if_pos rfl]
 show Option.map _ (w.heap[b]?)=_
 rw [hb];rfl
theorem put_other {w:World} {b c:Nat} {F:Array Value} (m:Nat) (os:Array Obj) (hc:c<w.heap.size) (hne:c≠b):(Sort.grow (putRow id (Sort.ahead w m) b 0 F) os).heap[c]?=w.heap[c]?:=by
 unfold Sort.grow putRow mapBlock
 simp only
 rw [Array.getElem?_append_left (by simpa [Sort.ahead] using hc),Array.getElem?_modify,if_neg (Ne.symm hne)]
 rfl
theorem flat_idx {css:List (List Value)} {k:Nat} (hk:0<k) (h:∀cs∈css,cs.length=k) (j:Nat):css.flatten[j]?=(css[j / k]?).bind (fun cs=>cs[j % k]?):=by
 cases hi:css[j / k]? with
 | none=>
  rw [Option.bind_none,List.getElem?_eq_none]
  rw [flat_len h]
  have:=List.getElem?_eq_none_iff.1 hi
  have h2:=Nat.div_add_mod j k
  have h3:css.length*k≤(j / k)*k:=Nat.mul_le_mul_right _ this
  rw [Nat.mul_comm] at h2
  omega
 | some cs=>
  have hc:cs.length=k:=h cs (List.mem_of_getElem? hi)
  have hm:=Nat.mod_lt j hk
  have e:cs[j % k]?=some cs[j % k]:=List.getElem?_eq_getElem (by omega)
  have:=flat_get h hi e
  rw [Nat.mul_comm,Nat.div_add_mod] at this
  rw [this,Option.bind_some,e]
theorem fm_sort {P:Program} {ρ:Ren} (L:Go.Proofs.SlLaysF0.n6 P ρ) {α:Type} {E:En α} {E':VD.En α} {te:TypeId} {g:FuncId} {cf:α→α→Int} (ht24:ρ.t 24=te) (hE:Ty P te E) (hA:E.agg=true) (hA':E'.agg=true) (hR:∀{w S cs x},E.R w S cs x→E'.R w S cs x)
  (hf:∀(args:Array Value) (w:World),(callFunc (ρ.f 6) args).run P w = .ok (.enter (ρ.f 6) args) w) (eg:∀(args:Array Value) (w:World),(callFunc g args).run P w = .ok (.enter g args) w) (hO:SWO (Go.Proofs.ltOf cf)) {xs:List α} (hlen:xs.length≤2147483648)
  (hc:∀x∈xs,∀y∈xs,VD.Fn P g [VD.Pd.rep E' x,VD.Pd.rep E' y] (VD.Rq (VD.Pd.rep (VD.En.int .i64) (cf x y)))) (v0:Value):
  Fm P (ρ.f 6) (fun b=>v0.ownBlock=some b) [Pd.prow E te v0 xs,Pd.is (.func (.func g) #[] #[])] (fun _ s' _=>∃ys:List α,ys.Perm xs∧ys.Pairwise (fun a b=>¬ cf b a<0)∧(Pd.prow E te v0 ys).p s' v0):=by
 refine ⟨hf,fun s vs hgl hX hv=>?_⟩
 match vs,hv with
 | [v,fv],⟨⟨hv0,hrow⟩,hfv,_⟩=>
 have hfv:fv = .func (.func g) #[] #[]:=hfv
 subst hfv
 subst hv0
 obtain ⟨h1,h2,h3,css,hEl,how⟩:=hrow
 by_cases hx0:xs=[]
 ·subst hx0
  obtain ⟨p,cap,rfl⟩:∃p cap,v = .slice p 0 cap:=by
   rcases how.2 with ⟨e,_⟩ | ⟨b,cap,cur,e,_⟩
   ·exact ⟨none,0,e⟩
   ·exact ⟨_,cap,e⟩
  refine (Go.Proofs.AnyF.slices_SortFunc_none L p cap _ s.w).mono fun e w' ⟨he,hw⟩=>?_
  subst he;subst hw
  exact ⟨_,s,rfl,rfl,Fr.refl hX,[],.refl _,List.Pairwise.nil,rfl,h1,h2,h3,css,hEl,how⟩
 have hpos:0<xs.length:=List.length_pos_iff.2 hx0
 rcases how.2 with ⟨e,hn⟩ | ⟨b,cap,cur,hvb,hN,hgb,hnc,hcm,hcs,htk⟩
 ·omega
 subst hvb
 have hlens:=hEl.lens
 have hXb:s.X b:=h2 b rfl
 have hblt:b<s.w.heap.size:=s.lt b hXb
 let α':={p:List Value × α // E.R s.w (foot s) p.1 p.2∧p.2∈xs}
 have hel:∀i:Fin xs.length,E.R s.w (foot s) (css[i.1]'(by rw [hEl.1];exact i.2)) xs[i.1]∧xs[i.1]∈xs:=fun i=>⟨hEl.2 i.1 _ _ (List.getElem?_eq_getElem _) (List.getElem?_eq_getElem _),List.getElem_mem _⟩
 let d:Array α':=Array.ofFn fun i:Fin xs.length=>⟨(css[i.1]'(by rw [hEl.1];exact i.2),xs[i.1]),hel i⟩
 have hdn:d.size=xs.length:=by simp [d]
 haveI:Inhabited α':=⟨d[0]'(by rw [hdn];exact hpos)⟩
 let enc:α'→List Value:=fun p=>p.1.1
 have hk:∀x:α',(enc x).length=E.sz:=fun x=>E.len x.2.1
 have hone:∀x:α',∀u∈enc x,u.oneCell'=true:=fun x=>E.one x.2.1
 have hdl:d.toList.map (fun p=>p.1.1)=css:=by
  apply List.ext_getElem?
  intro i
  simp only [d,List.getElem?_map,Array.toList_ofFn,List.getElem?_ofFn]
  by_cases hi:i<xs.length
  ·rw [dif_pos hi,Option.map_some,List.getElem?_eq_getElem (by rw [hEl.1];exact hi)]
  ·rw [dif_neg hi,Option.map_none,List.getElem?_eq_none (by rw [hEl.1];omega)]
 have hdx:d.toList.map (fun p=>p.1.2)=xs:=by
  apply List.ext_getElem?
  intro i
  simp only [d,List.getElem?_map,Array.toList_ofFn,List.getElem?_ofFn]
  by_cases hi:i<xs.length
  ·rw [dif_pos hi,Option.map_some,List.getElem?_eq_getElem hi]
  ·rw [dif_neg hi,Option.map_none,List.getElem?_eq_none (by omega)]
 have hflat:∀(q:Array α') (j:Nat),j<q.size*E.sz→(q.toList.map (fun p=>p.1.1)).flatten[j]?=some (flatK enc E.sz q)[j]!:=by
  intro q j hj
  have hjk:j / E.sz<q.size:=Nat.div_lt_of_lt_mul (by rw [Nat.mul_comm];exact hj)
  rw [flat_idx E.pos (fun cs hcs=>by obtain ⟨p,hp,rfl⟩:=List.mem_map.1 hcs;exact E.len p.2.1),get_flatK _ _ _ _ hj,List.getElem?_map,Array.getElem?_toList,Array.getElem?_eq_getElem hjk]
  simp only [Option.map_some,Option.bind_some]
  rw [getElem!_pos q (j / E.sz) hjk]
  have hm:j % E.sz<(enc q[j / E.sz]).length:=by rw [hk];exact Nat.mod_lt _ E.pos
  rw [getElem!_pos (enc q[j / E.sz]) _ hm]
  exact List.getElem?_eq_getElem hm
 have hH:HoldsK enc E.sz s.w b 0 d:=by
  intro j hj
  rw [size_flatK] at hj
  have hf:=hflat d j hj
  rw [hdl] at hf
  have hcj:cur[j]?=some (flatK enc E.sz d)[j]!:=by
   rw [← htk,List.getElem?_take] at hf
   split at hf
   ·simpa using hf
   ·cases hf
  refine ⟨?_, ?_⟩
  ·rw [Nat.zero_add,cell_of_row s.w b j cur te (0,0) hgb];exact hcj
  ·unfold World.frozen?
   simp [hgb]
 have hO':SWO (Go.Proofs.ltOf fun p q:α'=>cf p.1.2 q.1.2):=⟨fun x=>hO.irrefl x.1.2,fun x y z=>hO.trans x.1.2 y.1.2 z.1.2,fun x y z=>hO.ntrans x.1.2 y.1.2 z.1.2⟩
 have hcmp:Go.Proofs.CmpLays P g #[] enc E.sz (fun p q:α'=>cf p.1.2 q.1.2) b 0 d.size s.w:=by
  intro m os dk hdk x y
  have hsz:s.w.heap.size≤(sortWorldK enc E.sz s.w b 0 m dk os).heap.size:=Go.Proofs.size_sortWorldK_c enc E.sz s.w b 0 m dk os
  have hoth:∀c,c<s.w.heap.size→c≠b→(sortWorldK enc E.sz s.w b 0 m dk os).heap[c]?=s.w.heap[c]?:=fun c hc hne=>put_other m os hc hne
  let sd:VD.St:=⟨sortWorldK enc E.sz s.w b 0 m dk os,fun c=>c=b,fun c hc=>by subst hc;omega⟩
  have hgd:VD.Gl sd:=by
   have key:∀c o,¬ s.X c→s.w.heap[c]?=some o→c≠b∧sd.w.heap[c]?=some o:=fun c o k1 k2=>by
    have hpb:c≠b:=fun e=>k1 (e ▸ hXb)
    exact ⟨hpb,(hoth c (Array.getElem?_eq_some_iff.1 k2).1 hpb).trans k2⟩
   refine ⟨fun p hp=>?_,fun p hp=>?_⟩
   ·obtain ⟨k1,t,fr,k2⟩:=hgl.1 p hp
    obtain ⟨k3,k4⟩:=key _ _ k1 k2
    exact ⟨k3,t,fr,k4⟩
   ·obtain ⟨k1,m',t,fr,es,clock,ys,k2,k3,k4,k5,k6⟩:=hgl.2 p hp
    obtain ⟨j1,j2⟩:=key _ _ k1 k2
    obtain ⟨j3,j4⟩:=key _ _ k3 k4
    exact ⟨j1,m',t,fr,es,clock,ys,j2,j3,j4,k5,k6⟩
  have hfoot:∀c,foot s c→VD.foot sd c:=fun c hc=>⟨Nat.lt_of_lt_of_le hc.1 hsz,fun e=>hc.2 (e ▸ hXb)⟩
  have conv:∀z:α',E'.R sd.w (VD.foot sd) (enc z) z.1.2:=fun z=>E'.mono hfoot (E'.move (fun c hc=>hoth c hc.1 (fun e=>hc.2 (e ▸ hXb))) (hR z.2.1))
  have:=cmp_grow (hc _ x.2.2 _ y.2.2) sd hgd (conv x) (conv y)
  have hval:∀z:α',E'.val (enc z) = .agg (enc z).toArray:=fun z=>by unfold VD.En.val;rw [hA'];rfl
  rw [hval,hval] at this
  exact this
 have hmain:=Go.Proofs.AnyQ.slices_SortFunc L E.sz (fun w=>by rw [ht24,← hA];exact run_isAgg hE w) (fun w=>by rw [ht24];exact zbd hE w) enc hk hone (fun p q:α'=>cf p.1.2 q.1.2) hO' g #[] b 0 cap d s.w eg hcmp hH hblt (by rw [hdn];omega)
 rw [hdn] at hmain
 refine hmain.mono fun e w' ⟨he,d',m,os,hP,hS,hw⟩=>?_
 subst he;subst hw
 have hd'n:d'.size=xs.length:=hP.1.trans hdn
 have hsz:s.w.heap.size≤(sortWorldK enc E.sz s.w b 0 m d' os).heap.size:=Go.Proofs.size_sortWorldK_c enc E.sz s.w b 0 m d' os
 let s':St:=⟨sortWorldK enc E.sz s.w b 0 m d' os,s.X,fun c hc=>Nat.lt_of_lt_of_le (s.lt c hc) hsz⟩
 have hmv:Mv (fun c=>(Value.slice (some ⟨b,0,none⟩) xs.length cap).ownBlock=some c) s s':=
  ⟨trivial,rfl,rfl,rfl,hsz,fun c hc hne=>put_other m os hc (fun e=>hne (by rw [e];rfl)),fun c hc=>hX c hc,fun c hc=>.inl hc⟩
 refine ⟨_,s',rfl,rfl,⟨hmv,fun c hc=>hc⟩,d'.toList.map (fun p=>p.1.2), ?_, ?_,rfl,rfl,fun c hc=>h2 c hc,by simp [hd'n];exact h3,d'.toList.map (fun p=>p.1.1),⟨by simp,fun i cs x hi hx=>?_⟩, ?_⟩
 ·have hp:=(hP.2.2).map (fun p:α'=>p.1.2)
  have e1:(d'.extract 0 xs.length).toList=d'.toList:=by rw [← hd'n];simp
  have e2:(d.extract 0 xs.length).toList=d.toList:=by rw [← hdn];simp
  rw [e1,e2,hdx] at hp
  exact hp
 ·rw [List.pairwise_iff_getElem]
  intro i j hi hj hij
  simp only [List.length_map,Array.length_toList] at hi hj
  have:=hS i j (Nat.zero_le _) hij (by omega)
  unfold Go.Proofs.ltOf at this
  rw [getElem!_pos d' i hi,getElem!_pos d' j hj] at this
  simpa using this
 ·simp only [List.getElem?_map,Array.getElem?_toList] at hi hx
  cases hq:d'[i]? with
  | none=>rw [hq] at hi;cases hi
  | some q=>
   rw [hq] at hi hx
   simp only [Option.map_some,Option.some.injEq] at hi hx
   subst hi;subst hx
   exact E.go hmv q.2.1
 ·have hfl:(d'.toList.map (fun p=>p.1.1)).flatten.length=d'.size*E.sz:=by
   rw [flat_len (fun cs hcs=>by obtain ⟨p,hp,rfl⟩:=List.mem_map.1 hcs;exact E.len p.2.1)]
   simp
  have hle:d'.size*E.sz≤cur.size:=by rw [hcs,hd'n];exact Nat.mul_le_mul_right _ hnc
  refine ⟨by rw [hfl];simp,.inr ⟨b,cap,_,by simp [hd'n],Nat.zero_le _,put_block m os hgb,by simp [hd'n];exact hnc,hcm,by simp [putCells];exact hcs, ?_⟩⟩
  apply List.ext_getElem?
  intro j
  rw [List.getElem?_take]
  simp only [List.length_map,Array.length_toList]
  split
  ·rename_i hj
   rw [hflat d' j hj,Array.getElem?_toList]
   unfold putCells
   rw [Array.getElem?_mapIdx,Array.getElem?_eq_getElem (by omega)]
   simp only [Option.map_some,id]
   rw [if_pos ⟨Nat.zero_le _,by rw [size_flatK];omega⟩,Nat.sub_zero]
  ·rename_i hj
   rw [List.getElem?_eq_none (by rw [hfl];omega)]
end Go.Proofs.YtahgmdbioafmbaaGreatDoor.V
namespace Go.Proofs.YtahgmdbioafmbaaGreatDoor.V
open Go
set_option linter.unusedVariables false
theorem dt {p:Prop} [Decidable p] (h:decide p=true):p:=of_decide_eq_true h
theorem df {p:Prop} [Decidable p] (h:decide p=false):¬ p:=of_decide_eq_false h
theorem upto {σ:Type} {P:Nat→σ→Int→Prop} (n:Nat) (I:Nat→σ→Prop)
  (hs:∀i s,i<n→I i s→(∀k,P (k+1) s (i:Int))∨∃s',I (i+1) s'∧∀k,P k s' ((i:Int)+1)→P (k+1) s (i:Int))
  (hx:∀s,I n s→∀k,P (k+1) s (n:Int)) (s:σ) (h:I 0 s):∃k,P k s 0:=by
 have:∀m i s,i+m=n→I i s→∃k,P k s (i:Int):=by
  intro m
  induction m with
  | zero=>intro i s hi hI;have:i=n:=by omega
          subst this;exact ⟨1,hx s hI 0⟩
  | succ m ih=>
   intro i s hi hI
   rcases hs i s (by omega) hI with h | ⟨s',h1,h2⟩
   ·exact ⟨1,h 0⟩
   ·obtain ⟨k,hk⟩:=ih (i+1) s' (by omega) h1
    exact ⟨k+1,h2 k (by simpa using hk)⟩
 simpa using this n 0 s (by omega) h
theorem run {σ:Type} {P:Nat→σ→Prop} (I:σ→Prop) (μ:σ→Nat) (h:∀s,I s→(∀k,P (k+1) s)∨∃s',I s'∧μ s' < μ s∧∀k,P k s'→P (k+1) s) (s:σ) (hI:I s):∃k,P k s:=by
 have:∀m s,μ s<m→I s→∃k,P k s:=by
  intro m
  induction m with
  | zero=>intro s hs;omega
  | succ m ih=>
   intro s hs hI
   rcases h s hI with h1 | ⟨s',h1,h2,h3⟩
   ·exact ⟨1,h1 0⟩
   ·obtain ⟨k,hk⟩:=ih s' (by omega) h1
    exact ⟨k+1,h3 k hk⟩
 exact this (μ s+1) s (by omega) hI
theorem zk {x:Int} (h1:-9223372036854775808≤x) (h2:x≤9223372036854775807):InR .i64 x:=inR_i64.2 ⟨h1,h2⟩
theorem zbw {α:Type} {xs:List α} {i:Nat}:at? xs (i:Int)=xs[i]?:=by
 unfold at?
 rw [if_pos (by omega)];simp
def Cl.put (a:Cl) (n:Nat):Cl:=a ||| BitVec.twoPow 256 n
theorem has_put {a:Cl} {n m:Nat} (hn:n<256):(a.put n).has m=(a.has m||decide (n=m)):=by
 unfold Cl.put Cl.has
 rw [BitVec.getLsbD_or,BitVec.getLsbD_twoPow]
 simp [hn]
theorem has_and {a b:Cl} {m:Nat}:(a &&& b).has m=(a.has m&&b.has m):=BitVec.getLsbD_and
theorem has_not {a:Cl} {m:Nat} (h:m<256):(~~~ a).has m = !a.has m:=by
 unfold Cl.has
 rw [BitVec.getLsbD_not];simp [h]
theorem has_zero {m:Nat}:Cl.has (0#256) m=false:=by simp [Cl.has]
theorem w_nat (a:Cl) (i:Int):(Cl.w a i).toNat=a.word i.toNat:=by simp [Cl.w]
theorem has_w {a:Cl} {n:Nat} (h:n<256):a.has n=(a.word (n / 64)).testBit (n % 64):=by
 rw [Cl.word_bit]
 simp [Nat.mod_lt,Nat.div_add_mod]
theorem setw_word {a:Cl} {i:Nat} {v:Int} (hv:v.toNat<2 ^ 64) (j:Nat) (hj:j<4):(a.setw (i:Int) v).word j=if j=i then v.toNat else a.word j:=by
 unfold Cl.setw
 have hw:∀k,a.word k<2 ^ 64:=a.word_lt
 have hb:∀(c:Prop) [Decidable c] (k:Nat),(if c then v.toNat else a.word k)<2 ^ 64:=fun c _ k=>by split <;> simp_all
 obtain ⟨h0,h1,h2,h3⟩:=Cl.ofWords_word (hb ((i:Int)=0) 0) (hb ((i:Int)=1) 1) (hb ((i:Int)=2) 2) (hb ((i:Int)=3) 3)
 match j,hj with
 | 0,_=>rw [h0];split <;> split <;> first | rfl | omega
 | 1,_=>rw [h1];split <;> split <;> first | rfl | omega
 | 2,_=>rw [h2];split <;> split <;> first | rfl | omega
 | 3,_=>rw [h3];split <;> split <;> first | rfl | omega
theorem has_setw {a:Cl} {i:Nat} {v:Int} (hv:v.toNat<2 ^ 64) {n:Nat} (hn:n<256):(a.setw (i:Int) v).has n=if n / 64=i then v.toNat.testBit (n % 64) else a.has n:=by
 rw [has_w hn,setw_word hv _ (by omega),has_w hn]
 split <;> rfl
theorem shr_bit {w k:Nat} (hk:k<64):(andI (shrI (w:Int) (k:Int)) 1==1)=w.testBit k:=by
 unfold andI shrI
 rw [show min ((k:Int)).toNat 64=k by simp;omega]
 have h:((w:Int) / 2 ^ k).toNat=w / 2 ^ k:=by
  rw [show ((2:Int) ^ k)=((2 ^ k:Nat):Int) by simp,← Int.natCast_ediv];exact Int.toNat_natCast _
 rw [h]
 simp only [Int.toNat_one,Nat.and_one_is_mod,Nat.testBit_eq_decide_div_mod_eq]
 have:=Nat.mod_two_eq_zero_or_one (w / 2 ^ k)
 rcases this with h | h <;> rw [h] <;> rfl
theorem shl_one {k:Nat} (hk:k<64):shlI 1 (k:Int)=((2 ^ k:Nat):Int):=by
 unfold shlI
 rw [show min ((k:Int)).toNat 64=k by simp;omega,Int.one_mul]
 have:2 ^ k<2 ^ 64:=Nat.pow_lt_pow_right (by omega) hk
 rw [show ((2:Int) ^ k)=((2 ^ k:Nat):Int) by simp]
 generalize 2 ^ k=q at *
 omega
theorem put_words {a:Cl} {n:Nat} (hn:n<256):a.setw ((n / 64:Nat):Int) (orI (Cl.w a ((n / 64:Nat):Int)) (shlI 1 ((n % 64:Nat):Int)))=a.put n:=by
 apply Cl.ext
 intro c hc
 have hlt:(orI (Cl.w a ((n / 64:Nat):Int)) (shlI 1 ((n % 64:Nat):Int))).toNat=a.word (n / 64) ||| 2 ^ (n % 64):=by
  rw [shl_one (Nat.mod_lt _ (by omega))]
  unfold orI
  rw [w_nat,Int.toNat_natCast,Int.toNat_natCast,Int.toNat_natCast]
 have hb:a.word (n / 64) ||| 2 ^ (n % 64)<2 ^ 64:=Nat.or_lt_two_pow (a.word_lt _) (Nat.pow_lt_pow_right (by omega) (Nat.mod_lt _ (by omega)))
 rw [has_setw (by rw [hlt];exact hb) hc,hlt,has_put hn]
 split
 ·rename_i h
  rw [Nat.testBit_or,Nat.testBit_two_pow,← h,← has_w hc]
  congr 1
  apply decide_eq_decide.2
  omega
 ·rename_i h
  rw [show decide (n=c)=false by simp;intro e;subst e;exact h rfl];simp
def Cl.row (f t:Int):Cl:=Cl.of fun n=>decide (f≤(n:Int))&&decide ((n:Int)≤t)
theorem has_row {f t:Int} {n:Nat} (h:n<256):(Cl.row f t).has n=(decide (f≤(n:Int))&&decide ((n:Int)≤t)):=Cl.of_has _ h
def Cl.least (a:Cl):Int × Bool:=match (List.range 256).find? a.has with
 | some n=>((n:Int),true)
 | none=>(0,false)
def Cl.count (a:Cl):Nat:=(List.range 256).countP a.has
def Cl.addL (a:Cl) (l:List Int):Cl:=l.foldl (fun a c=>a.put c.toNat) a
theorem u8_of {c:Int} (h:InR .u8 c):∃n:Nat,n<256∧c=n:=by
 rw [inR_u8] at h
 exact ⟨c.toNat,by omega,by omega⟩
theorem u8_nat {n:Nat} (h:n<256):InR .u8 (n:Int):=inR_u8.2 ⟨by omega,by omega⟩
theorem least_some {a:Cl} {n:Nat} (h:a.least=((n:Int),true)):n<256∧a.has n=true∧∀m,m<n→a.has m=false:=by
 unfold Cl.least at h
 split at h
 ·rename_i k hk
  have e:k=n:=by have h2:=(Prod.mk.inj h).1;omega
  subst e
  rw [List.find?_eq_some_iff_getElem] at hk
  obtain ⟨h1,i,h2,h3,h4⟩:=hk
  simp at h2 h3
  subst h3
  refine ⟨h2,h1,fun m hm=>?_⟩
  have:=h4 m hm
  simpa using this
 ·simp at h
theorem least_none {a:Cl} (h:a.least.2=false):∀m,m<256→a.has m=false:=by
 unfold Cl.least at h
 split at h
 ·simp at h
 ·rename_i hk
  intro m hm
  have:=List.find?_eq_none.1 hk m (by simpa using hm)
  simpa using this
theorem least_of {a:Cl} {n:Nat} (hn:n<256) (h1:a.has n=true) (h2:∀m,m<n→a.has m=false):a.least=((n:Int),true):=by
 have:(List.range 256).find? a.has=some n:=by
  rw [List.find?_eq_some_iff_getElem]
  exact ⟨h1,n,by simpa using hn,by simp,fun j hj=>by simp [h2 j hj]⟩
 simp [Cl.least,this]
theorem least_of_none {a:Cl} (h:∀m,m<256→a.has m=false):a.least=(0,false):=by
 have:(List.range 256).find? a.has=none:=by
  rw [List.find?_eq_none]
  intro m hm
  simp [h m (by simpa using hm)]
 simp [Cl.least,this]
def Cl.ofL (l:List Bool):Cl:=Cl.of fun n=>l.getD n false
theorem has_ofL {l:List Bool} {n:Nat} (h:n<256):(Cl.ofL l).has n=l.getD n false:=Cl.of_has _ h
theorem dig10:∀d:Fin 10,(UInt8.ofNat (48+d.1)).toNat=48+d.1:=by decide
theorem dec_ge (u:Nat):∀c∈Lib.decDigits u,48≤c.toNat∧c.toNat≤57:=by
 induction u using Nat.strongRecOn with
 | ind u ih=>
  intro c hc
  have hd:∀d,d<10→(UInt8.ofNat (48+d)).toNat=48+d:=fun d hd=>dig10 ⟨d,hd⟩
  rw [Lib.decDigits] at hc
  split at hc
  ·rename_i h
   rw [List.mem_singleton.1 hc,hd u h];omega
  ·rename_i h
   rcases List.mem_append.1 hc with hc | hc
   ·exact ih (u / 10) (by omega) c hc
   ·rw [List.mem_singleton.1 hc,hd _ (Nat.mod_lt _ (by omega))];omega
def valD (l:List UInt8):Nat:=l.foldl (fun a c=>10*a+(c.toNat-48)) 0
theorem valD_dec (u:Nat):valD (Lib.decDigits u)=u:=by
 induction u using Nat.strongRecOn with
 | ind u ih=>
  have hd:∀d,d<10→(UInt8.ofNat (48+d)).toNat=48+d:=fun d hd=>dig10 ⟨d,hd⟩
  rw [Lib.decDigits]
  split
  ·rename_i h
   simp only [valD,List.foldl_cons,List.foldl_nil,hd u h];omega
  ·rename_i h
   have:=ih (u / 10) (by omega)
   unfold valD at this ⊢
   rw [List.foldl_append,this]
   simp only [List.foldl_cons,List.foldl_nil,hd _ (Nat.mod_lt u (show 10 > 0 by omega))];omega
theorem itoa_chars (n:Int):∀c∈Lib.itoa n,c≠32:=by
 intro c hc he
 subst he
 unfold Lib.itoa at hc
 split at hc
 ·rcases List.mem_cons.1 hc with h | h
  ·exact absurd h (by decide)
  ·have:=(dec_ge _ _ h).1;exact absurd this (by decide)
 ·have:=(dec_ge _ _ hc).1;exact absurd this (by decide)
theorem itoa_inj {n m:Int} (h:Lib.itoa n=Lib.itoa m):n=m:=by
 have no45:∀u (l:List UInt8),Lib.decDigits u≠45::l:=fun u l he=>by
  have:=(dec_ge u 45 (by rw [he];simp)).1
  exact absurd this (by decide)
 unfold Lib.itoa at h
 split at h <;> split at h
 ·have:=congrArg valD (List.cons.inj h).2
  rw [valD_dec,valD_dec] at this;omega
 ·exact absurd h.symm (no45 _ _)
 ·exact absurd h (no45 _ _)
 ·have:=congrArg valD h
  rw [valD_dec,valD_dec] at this;omega
theorem at_none {α:Type} {xs:List α} {i:Int} (h:i<0∨(xs.length:Int)≤i):at? xs i=none:=by
 unfold at?
 split
 ·exact List.getElem?_eq_none (by omega)
 ·rfl
theorem at_in {α:Type} {xs:List α} {i:Int} (h0:0≤i) (h1:i<(xs.length:Int)):∃x,at? xs i=some x∧x∈xs:=by
 refine ⟨xs[i.toNat]'(by omega), ?_,List.getElem_mem _⟩
 unfold at?
 rw [if_pos h0]
 exact List.getElem?_eq_getElem _
theorem uptoK {σ:Type} {P:Nat→σ→Int→Prop} (n:Nat) (I:Nat→σ→Prop)
  (hs:∀i s k,i<n→I i s→(∀s',I (i+1) s'→P k s' ((i:Int)+1))→P (k+1) s (i:Int))
  (hx:∀s,I n s→∀k,P (k+1) s (n:Int)) (s:σ) (h:I 0 s):∃k,P k s 0:=by
 have:∀m i s,i+m=n→I i s→P (m+1) s (i:Int):=by
  intro m
  induction m with
  | zero=>intro i s hi hI;have:i=n:=by omega
          subst this;exact hx s hI 0
  | succ m ih=>
   intro i s hi hI
   exact hs i s (m+1) (by omega) hI fun s' h'=>by simpa using ih (i+1) s' (by omega) h'
 exact ⟨n+1,by simpa using this n 0 s (by omega) h⟩
theorem mget_nil {κ ν:Type} [DecidableEq κ] (k:κ) (z:ν):mget ([]:List (κ × ν)) k z=z:=rfl
theorem mget_cons {κ ν:Type} [DecidableEq κ] (p:κ × ν) (xs:List (κ × ν)) (k:κ) (z:ν):mget (p::xs) k z=if p.1=k then p.2 else mget xs k z:=by
 unfold mget
 rw [List.find?_cons]
 by_cases h:p.1=k
 ·subst h;simp
 ·have h':(p.1==k)=false:=by simpa using h
  rw [h',if_neg h]
theorem mget_mput {κ ν:Type} [DecidableEq κ] (xs:List (κ × ν)) (k k':κ) (v z:ν):mget (mput xs k v) k' z=if k=k' then v else mget xs k' z:=by
 have hmap:∀xs:List (κ × ν),mget (xs.map (fun p=>bif p.1==k then (k,v) else p)) k' z=if k=k' then (if mhas xs k=true then v else z) else mget xs k' z:=by
  intro xs
  induction xs with
  | nil=>simp [mget_nil,mhas]
  | cons p xs ih=>
   rw [List.map_cons,mget_cons,ih,mget_cons]
   by_cases hp:p.1=k
   ·subst hp
    by_cases hk:p.1=k' <;> simp [hk,mhas]
   ·have:(p.1==k)=false:=by simpa using hp
    rw [this]
    by_cases hk:k=k'
    ·subst hk
     simp only [mhas,List.any_cons,this,Bool.false_or,cond_false,if_neg hp]
     rfl
    ·simp [hk]
 have happ:∀xs:List (κ × ν),mhas xs k=false→mget (xs++[(k,v)]) k' z=if k=k' then v else mget xs k' z:=by
  intro xs
  induction xs with
  | nil=>intro _;rw [List.nil_append,mget_cons,mget_nil]
  | cons p xs ih=>
   intro h
   simp only [mhas,List.any_cons,Bool.or_eq_false_iff] at h
   rw [List.cons_append,mget_cons,ih h.2,mget_cons]
   have hp:p.1≠k:=by simpa using h.1
   by_cases hk:k=k'
   ·subst hk;simp [hp]
   ·simp [hk]
 unfold mput
 cases h:mhas xs k
 ·exact happ xs h
 ·rw [cond_true,hmap,h];simp
theorem lexI_cons (x y:Int) (a b:List Int):lexI (x::a) (y::b)=if sgnI x y≠0 then sgnI x y else lexI a b:=by
 unfold sgnI
 rw [lexI]
 by_cases h1:x<y
 ·simp [h1]
 ·by_cases h2:y<x
  ·simp [h1,h2]
  ·simp [h1,h2]
theorem zdi (b:List Int):lexI [] b=0:=by cases b <;> rfl
theorem lexI_nil_right (a:List Int):lexI a []=0:=by cases a <;> rfl
theorem cmpItem_lex (x y:SItem):cmpItem x y=lexI (nums4 x) (nums4 y):=by
 unfold cmpItem nums4
 simp only [lexI_cons,fstNZ,zdi]
theorem lexI_app {a b:List Int} (h:a.length=b.length) (u v:List Int):lexI (a++u) (b++v)=if lexI a b≠0 then lexI a b else lexI u v:=by
 induction a generalizing b with
 | nil=>
  cases b with
  | nil=>simp [zdi]
  | cons y b=>simp at h
 | cons x a ih=>
  cases b with
  | nil=>simp at h
  | cons y b=>
   simp only [List.cons_append,lexI_cons]
   rw [ih (by simpa using h)]
   split <;> simp_all
theorem lexI_self (a:List Int):lexI a a=0:=by
 induction a with
 | nil=>rfl
 | cons x a ih=>rw [lexI,if_neg (by omega),if_neg (by omega),ih]
theorem lexI_anti (a b:List Int):lexI b a = -lexI a b:=by
 induction a generalizing b with
 | nil=>rw [zdi,lexI_nil_right];rfl
 | cons x a ih=>
  cases b with
  | nil=>rw [zdi,lexI_nil_right];rfl
  | cons y b=>
   rw [lexI,lexI]
   by_cases h1:x<y
   ·rw [if_neg (by omega),if_pos h1,if_pos h1];rfl
   ·by_cases h2:y<x
    ·rw [if_pos h2,if_neg h1,if_pos h2]
    ·rw [if_neg h2,if_neg h1,if_neg h1,if_neg h2,ih]
theorem lexI_zero {a b:List Int} (hl:a.length=b.length) (h:lexI a b=0):a=b:=by
 induction a generalizing b with
 | nil=>cases b with
  | nil=>rfl
  | cons y b=>simp at hl
 | cons x a ih=>
  cases b with
  | nil=>simp at hl
  | cons y b=>
   rw [lexI] at h
   by_cases h1:x<y
   ·rw [if_pos h1] at h;cases h
   ·by_cases h2:y<x
    ·rw [if_neg h1,if_pos h2] at h;cases h
    ·rw [if_neg h1,if_neg h2] at h
     rw [ih (by simpa using hl) h,show x=y by omega]
theorem lexI_trans {a b c:List Int} (h1:a.length=b.length) (h2:b.length=c.length) (h:lexI a b<0) (k:lexI b c<0):lexI a c<0:=by
 induction a generalizing b c with
 | nil=>rw [zdi] at h;omega
 | cons x a ih=>
  cases b with
  | nil=>simp at h1
  | cons y b=>
   cases c with
   | nil=>simp at h2
   | cons z c=>
    rw [lexI] at h k ⊢
    by_cases e1:x<y
    ·by_cases e2:y<z
     ·rw [if_pos (by omega)];omega
     ·by_cases e3:z<y
      ·rw [if_neg e2,if_pos e3] at k;omega
      ·rw [if_pos (by omega)];omega
    ·by_cases e2:y<x
     ·rw [if_neg e1,if_pos e2] at h;omega
     ·rw [if_neg e1,if_neg e2] at h
      by_cases e3:y<z
      ·rw [if_pos (by omega)];omega
      ·by_cases e4:z<y
       ·rw [if_neg e3,if_pos e4] at k;omega
       ·rw [if_neg e3,if_neg e4] at k
        rw [if_neg (by omega),if_neg (by omega)]
        exact ih (by simpa using h1) (by simpa using h2) h k
theorem numsS_cons (x:SItem) (s:List SItem):numsS (x::s)=nums4 x++numsS s:=by simp [numsS]
theorem zdh (l:List SItem):(numsS l).length=4*l.length:=by
 induction l with
 | nil=>rfl
 | cons x l ih=>rw [numsS_cons,List.length_append,ih];simp [nums4];omega
theorem numsS_inj {s t:List SItem} (h:numsS s=numsS t):s=t:=by
 induction s generalizing t with
 | nil=>
  cases t with
  | nil=>rfl
  | cons y t=>rw [numsS_cons] at h;simp [numsS,nums4] at h
 | cons x s ih=>
  cases t with
  | nil=>rw [numsS_cons] at h;simp [numsS,nums4] at h
  | cons y t=>
   rw [numsS_cons,numsS_cons] at h
   obtain ⟨x1,x2,x3,x4⟩:=x
   obtain ⟨y1,y2,y3,y4⟩:=y
   simp only [nums4,List.cons_append,List.nil_append,List.cons.injEq] at h
   obtain ⟨rfl,rfl,rfl,rfl,h⟩:=h
   rw [ih h]
theorem zdl {a b:List SItem}:cmpS a b=0↔a=b:=by
 constructor
 ·intro h
  unfold cmpS numsL at h
  rw [lexI] at h
  by_cases h1:(a.length:Int)<(b.length:Int)
  ·rw [if_pos h1] at h;cases h
  ·by_cases h2:(b.length:Int)<(a.length:Int)
   ·rw [if_neg h1,if_pos h2] at h;cases h
   ·rw [if_neg h1,if_neg h2] at h
    exact numsS_inj (lexI_zero (by rw [zdh,zdh];omega) h)
 ·rintro rfl;exact lexI_self _
theorem cmpS_anti (a b:List SItem):cmpS b a = -cmpS a b:=lexI_anti _ _
theorem cmpS_trans {a b c:List SItem} (h:cmpS a b<0) (k:cmpS b c<0):cmpS a c<0:=by
 unfold cmpS numsL at *
 rw [lexI] at h k ⊢
 by_cases e1:(a.length:Int)<(b.length:Int)
 ·by_cases e2:(b.length:Int)<(c.length:Int)
  ·rw [if_pos (by omega)];omega
  ·by_cases e3:(c.length:Int)<(b.length:Int)
   ·rw [if_neg e2,if_pos e3] at k;omega
   ·rw [if_pos (by omega)];omega
 ·by_cases e2:(b.length:Int)<(a.length:Int)
  ·rw [if_neg e1,if_pos e2] at h;omega
  ·rw [if_neg e1,if_neg e2] at h
   by_cases e3:(b.length:Int)<(c.length:Int)
   ·rw [if_pos (by omega)];omega
   ·by_cases e4:(c.length:Int)<(b.length:Int)
    ·rw [if_neg e3,if_pos e4] at k;omega
    ·rw [if_neg e3,if_neg e4] at k
     rw [if_neg (by omega),if_neg (by omega)]
     exact lexI_trans (by rw [zdh,zdh];omega) (by rw [zdh,zdh];omega) h k
theorem cut32 {a b:List UInt8} (ha:∀c∈a,c≠32) (hb:∀c∈b,c≠32) {u v:List UInt8} (h:a++32::u=b++32::v):a=b∧u=v:=by
 induction a generalizing b with
 | nil=>
  cases b with
  | nil=>exact ⟨rfl,(List.cons.inj h).2⟩
  | cons y b=>exact absurd (List.cons.inj h).1.symm (hb y (by simp))
 | cons x a ih=>
  cases b with
  | nil=>exact absurd (List.cons.inj h).1 (ha x (by simp))
  | cons y b=>
   obtain ⟨h1,h2⟩:=List.cons.inj h
   obtain ⟨h3,h4⟩:=ih (fun c hc=>ha c (by simp [hc])) (fun c hc=>hb c (by simp [hc])) h2
   exact ⟨by rw [h1,h3],h4⟩
theorem keyN_cons (z:Int) (l:List Int):keyN (z::l)=Lib.itoa z++32::keyN l:=by simp [keyN]
theorem keyN_inj {l m:List Int} (h:keyN l=keyN m):l=m:=by
 induction l generalizing m with
 | nil=>
  cases m with
  | nil=>rfl
  | cons y m=>rw [keyN_cons] at h;simp [keyN] at h
 | cons z l ih=>
  cases m with
  | nil=>rw [keyN_cons] at h;simp [keyN] at h
  | cons y m=>
   rw [keyN_cons,keyN_cons] at h
   obtain ⟨h1,h2⟩:=cut32 (itoa_chars z) (itoa_chars y) h
   rw [itoa_inj h1,ih h2]
theorem keyS_iff {s t:List SItem}:keyS s=keyS t↔s=t:=⟨fun h=>numsS_inj (keyN_inj h),fun h=>by rw [h]⟩
def badI (x:SItem):Bool:=x.1==5&&decide (x.2.2.1≤0)
def low1 (x:SItem):SItem:=if x.1=5 then (x.1,x.2.1,x.2.2.1-1,x.2.2.2) else x
def lowF (s:List SItem):List SItem × Bool:=if s.any badI=true then ([],false) else (s.map low1,true)
theorem mapM_mono {α β:Type} {f g:α→Option β} (h:∀a b,f a=some b→g a=some b):∀(l:List α) (r:List β),l.mapM f=some r→l.mapM g=some r
 | [],r,hr=>by simpa using hr
 | a::l,r,hr=>by
  rw [List.mapM_cons] at hr ⊢
  cases ha:f a with
  | none=>rw [ha] at hr;simp at hr
  | some b=>
   rw [ha] at hr
   cases hl:l.mapM f with
   | none=>rw [hl] at hr;simp at hr
   | some bs=>
    rw [hl] at hr
    rw [h a b ha,mapM_mono h l bs hl];exact hr
theorem lv_mono1 (d:List SNode):∀(h:Nat) (s:List SItem) (l:List (List SItem)),lv d h s=some l→lv d (h+1) s=some l
 | 0,_,_,hl=>by simp [lv] at hl
 | h+1,s,l,hl=>by
  unfold lv at hl ⊢
  by_cases hr:rdy d s=true
  ·rw [if_pos hr] at hl ⊢;exact hl
  ·rw [if_neg hr] at hl ⊢
   obtain ⟨ls,h1,h2⟩:=Option.map_eq_some_iff.1 hl
   rw [mapM_mono (lv_mono1 d h) _ _ h1,← h2];rfl
theorem lv_mono {d:List SNode} {h h':Nat} (hh:h≤h') {s:List SItem} {l:List (List SItem)} (hl:lv d h s=some l):lv d h' s=some l:=by
 obtain ⟨k,rfl⟩:∃k,h'=h+k:=⟨h' - h,by omega⟩
 clear hh
 induction k with
 | zero=>exact hl
 | succ k ih=>exact lv_mono1 d (h+k) s l ih
theorem nzL_aux (d:List SNode):∀(l:List Bool),(d.foldl (fun l n=>l++[nzN l n]) l).length=l.length+d.length∧l <+: d.foldl (fun l n=>l++[nzN l n]) l:=by
 induction d with
 | nil=>intro l;exact ⟨by simp,List.prefix_refl _⟩
 | cons n d ih=>
  intro l
  obtain ⟨h1,h2⟩:=ih (l++[nzN l n])
  exact ⟨by rw [List.foldl_cons,h1];simp;omega,(List.prefix_append _ _).trans h2⟩
theorem nzL_at {d:List SNode} {i:Nat} {n:SNode} (h:d[i]?=some n):(nzL d)[i]?=some (nzN ((nzL d).take i) n):=by
 have hi:=(List.getElem?_eq_some_iff.1 h).1
 have hd:d=d.take i++n::d.drop (i+1):=by
  have hn:d[i]=n:=by rw [List.getElem?_eq_getElem hi] at h;exact Option.some.inj h
  rw [← hn,List.getElem_cons_drop,List.take_append_drop]
 have e:nzL d=(d.drop (i+1)).foldl (fun l n=>l++[nzN l n]) (nzL (d.take i)++[nzN (nzL (d.take i)) n]):=by
  unfold nzL
  conv=>lhs;rw [hd]
  rw [List.foldl_append,List.foldl_cons]
 have hl:(nzL (d.take i)).length=i:=by
  have:=(nzL_aux (d.take i) []).1
  unfold nzL;rw [this];simp;omega
 have hp:=(nzL_aux (d.drop (i+1)) (nzL (d.take i)++[nzN (nzL (d.take i)) n])).2
 rw [← e] at hp
 obtain ⟨r,hr⟩:=hp
 have ht:(nzL d).take i=nzL (d.take i):=by rw [← hr,List.append_assoc,List.take_append_of_le_length (by omega),List.take_of_length_le (by omega)]
 rw [ht,← hr,List.append_assoc,List.getElem?_append_right (by omega),hl];simp
theorem at_take {α:Type} {l:List α} {i:Nat} {k:Int} (h0:0≤k) (h1:k<(i:Int)):at? (l.take i) k=at? l k:=by
 unfold at?
 rw [if_pos h0,if_pos h0,List.getElem?_take,if_pos (by omega)]
theorem at_nn {α:Type} {l:List α} {i:Int} {x:α} (h:at? l i=some x):∃k:Nat,i=(k:Int)∧l[k]?=some x:=by
 unfold at? at h
 split at h
 ·exact ⟨i.toNat,by omega,h⟩
 ·cases h
theorem nz_at {d:List SNode} (hd:ROk d) {i:Int} {n:SNode} (h:at? d i=some n):nz d i =
  (if n.1=1 then true else if n.1=4 then nz d n.2.1&&nz d n.2.2.1 else if n.1=5 then nz d n.2.1||nz d n.2.2.1 else if n.1=6 then true else if n.1=7 then decide (n.2.2.2.1=0) else false):=by
 obtain ⟨k,rfl,hk⟩:=at_nn h
 have e:=nzL_at hk
 have e2:nz d (k:Int)=nzN ((nzL d).take k) n:=by unfold nz;rw [zbw,e];rfl
 rw [e2]
 unfold nzN
 by_cases h1:n.1=1
 ·simp [h1]
 ·by_cases h4:n.1=4
  ·obtain ⟨⟨a,b⟩,c,e⟩:=hd.two _ n h (.inl h4)
   rw [if_neg h1,if_pos h4,if_neg h1,if_pos h4,at_take a b,at_take c e];rfl
  ·by_cases h5:n.1=5
   ·obtain ⟨⟨a,b⟩,c,e⟩:=hd.two _ n h (.inr h5)
    rw [if_neg h1,if_neg h4,if_pos h5,if_neg h1,if_neg h4,if_pos h5,at_take a b,at_take c e];rfl
   ·by_cases h6:n.1=6
    ·simp [h6]
    ·by_cases h7:n.1=7
     ·obtain ⟨a,b⟩:=hd.one _ n h (.inr (.inl h7))
      have:=hd.nn _ n h (.inr h7)
      unfold nz at this
      rw [if_neg h1,if_neg h4,if_neg h5,if_neg h6,if_pos h7,if_neg h1,if_neg h4,if_neg h5,if_neg h6,if_pos h7,at_take a b,this,Bool.or_false]
     ·simp [h1,h4,h5,h6,h7]
theorem cmpS_self (a:List SItem):cmpS a a=0:=zdl.2 rfl
theorem cmpS_irr {a:List SItem} (h:cmpS a a<0):False:=by rw [cmpS_self] at h;omega
theorem Can.nil:Can (fun _=>0) []:=⟨List.Pairwise.nil,by simp⟩
theorem sat_ne {a b:Nat} (h:sat a=sat b):(a≠0↔b≠0):=by unfold sat at h;omega
theorem Can.congr {f g:List SItem→Nat} {B:List SBranch} (h:Can f B) (e:∀t,sat (f t)=sat (g t)):Can g B:=
 ⟨h.srt,fun t m=>by rw [h.mem,sat_ne (e t),e t]⟩
theorem srt_uniq:∀{B C:List SBranch},B.Pairwise (fun a b=>cmpS a.1 b.1<0)→C.Pairwise (fun a b=>cmpS a.1 b.1<0)→(∀x,x∈B↔x∈C)→B=C
 | [],[],_,_,_=>rfl
 | [],c::C,_,_,h=>by have:=(h c).2 (by simp);cases this
 | b::B,[],_,_,h=>by have:=(h b).1 (by simp);cases this
 | b::B,c::C,hB,hC,h=>by
  rw [List.pairwise_cons] at hB hC
  have e:b=c:=by
   rcases List.mem_cons.1 ((h b).1 (by simp)) with e | hb
   ·exact e
   ·rcases List.mem_cons.1 ((h c).2 (by simp)) with e | hc
    ·exact e.symm
    ·exact (cmpS_irr (cmpS_trans (hB.1 c hc) (hC.1 b hb))).elim
  subst e
  congr 1
  refine srt_uniq hB.2 hC.2 fun x=>⟨fun hx=>?_,fun hx=>?_⟩
  ·rcases List.mem_cons.1 ((h x).1 (by simp [hx])) with e | hh
   ·subst e;exact (cmpS_irr (hB.1 _ hx)).elim
   ·exact hh
  ·rcases List.mem_cons.1 ((h x).2 (by simp [hx])) with e | hh
   ·subst e;exact (cmpS_irr (hC.1 _ hx)).elim
   ·exact hh
theorem Can.uniq {f:List SItem→Nat} {B C:List SBranch} (hB:Can f B) (hC:Can f C):B=C:=srt_uniq hB.srt hC.srt fun ⟨t,m⟩=>by rw [hB.mem,hC.mem]
theorem Can.keys {f:List SItem→Nat} {B:List SBranch} (h:Can f B) (t:List SItem):t∈B.map (·.1)↔f t≠0:=by
 rw [List.mem_map]
 exact ⟨fun ⟨⟨t',m⟩,h1,h2⟩=>by subst h2;exact ((h.mem _ _).1 h1).1,fun h1=>⟨(t,sat (f t)),(h.mem _ _).2 ⟨h1,rfl⟩,rfl⟩⟩
theorem Can.nodup {f:List SItem→Nat} {B:List SBranch} (h:Can f B):(B.map (·.1)).Nodup:=by
 unfold List.Nodup
 rw [List.pairwise_map]
 exact h.srt.imp fun {a b} hab e=>by rw [e] at hab;exact cmpS_irr hab
theorem Can.many {f:List SItem→Nat} {B:List SBranch} (h:Can f B) {b:SBranch} (hb:b∈B):b.2=sat (f b.1)∧f b.1≠0∧1≤b.2∧b.2≤2:=by
 obtain ⟨h1,h2⟩:=(h.mem b.1 b.2).1 hb
 exact ⟨h2,h1,by unfold sat at h2;omega,by unfold sat at h2;omega⟩
def addB (s:List SItem) (many:Int):List SBranch→List SBranch
 | []=>[(s,many)]
 | b::l=>if cmpS s b.1=0 then (s,min 2 (b.2+many))::l else if cmpS s b.1<0 then (s,many)::b::l else b::addB s many l
theorem addB_mem {s:List SItem} {many:Int}:∀{l:List SBranch} {x:SBranch},x∈addB s many l→x.1=s∨x∈l
 | [],x,h=>by simp only [addB,List.mem_singleton] at h;subst h;exact .inl rfl
 | b::l,x,h=>by
  unfold addB at h
  split at h
  ·rcases List.mem_cons.1 h with rfl | h
   ·exact .inl rfl
   ·exact .inr (by simp [h])
  ·split at h
   ·rcases List.mem_cons.1 h with rfl | h
    ·exact .inl rfl
    ·exact .inr h
   ·rcases List.mem_cons.1 h with rfl | h
    ·exact .inr (by simp)
    ·exact (addB_mem h).imp id fun h=>by simp [h]
theorem addB_len (s:List SItem) (many:Int) (l:List SBranch):(addB s many l).length≤l.length+1:=by
 induction l with
 | nil=>simp [addB]
 | cons b l ih=>unfold addB;split;· simp
                split <;> simp;omega
theorem addB_srt {s:List SItem} {many:Int}:∀{l:List SBranch},l.Pairwise (fun a b=>cmpS a.1 b.1<0)→(addB s many l).Pairwise (fun a b=>cmpS a.1 b.1<0)
 | [],_=>by simp [addB]
 | b::l,h=>by
  rw [List.pairwise_cons] at h
  unfold addB
  split
  ·rename_i h0
   have e:=zdl.1 h0
   subst e
   exact List.pairwise_cons.2 ⟨h.1,h.2⟩
  ·split
   ·rename_i h1
    refine List.pairwise_cons.2 ⟨fun c hc=>?_,List.pairwise_cons.2 h⟩
    rcases List.mem_cons.1 hc with rfl | hc
    ·exact h1
    ·exact cmpS_trans h1 (h.1 c hc)
   ·rename_i h0 h1
    refine List.pairwise_cons.2 ⟨fun c hc=>?_,addB_srt h.2⟩
    rcases addB_mem hc with e | hc
    ·rw [e]
     have:=cmpS_anti s b.1
     omega
    ·exact h.1 c hc
theorem addB_no {s:List SItem} {many:Int}:∀{l:List SBranch},(∀b∈l,b.1≠s)→l.Pairwise (fun a b=>cmpS a.1 b.1<0)→∀x,x∈addB s many l↔x=(s,many)∨x∈l
 | [],_,_,x=>by simp [addB]
 | b::l,hn,h,x=>by
  rw [List.pairwise_cons] at h
  unfold addB
  rw [if_neg fun h0=>hn b (by simp) (zdl.1 h0).symm]
  split
  ·simp
  ·rw [List.mem_cons,addB_no (fun c hc=>hn c (by simp [hc])) h.2,List.mem_cons]
   constructor
   ·rintro (h | h | h) <;> simp [h]
   ·rintro (h | h | h) <;> simp [h]
theorem addB_yes {s:List SItem} {many m:Int}:∀{l:List SBranch},(s,m)∈l→l.Pairwise (fun a b=>cmpS a.1 b.1<0)→∀x,x∈addB s many l↔x=(s,min 2 (m+many))∨(x∈l∧x.1≠s)
 | b::l,hm,h,x=>by
  rw [List.pairwise_cons] at h
  unfold addB
  by_cases hb:cmpS s b.1=0
  ·rw [if_pos hb]
   have e:=zdl.1 hb
   have hbm:b=(s,m):=by
    rcases List.mem_cons.1 hm with e' | hm
    ·exact e'.symm
    ·have:=h.1 _ hm;rw [← e] at this;exact (cmpS_irr this).elim
   subst hbm
   rw [List.mem_cons,List.mem_cons]
   constructor
   ·rintro (h' | h')
    ·exact .inl h'
    ·refine .inr ⟨.inr h',fun e'=>?_⟩
     have:=h.1 _ h';rw [e'] at this;exact cmpS_irr this
   ·rintro (h' | ⟨h' | h',h''⟩)
    ·exact .inl h'
    ·subst h';exact absurd rfl h''
    ·exact .inr h'
  ·rw [if_neg hb]
   have hml:(s,m)∈l:=(List.mem_cons.1 hm).resolve_left fun e=>hb (by rw [← e];exact cmpS_self _)
   have hlt:=h.1 _ hml
   rw [if_neg fun h'=>by have:=cmpS_anti s b.1;have h2:cmpS b.1 s<0:=hlt;omega]
   rw [List.mem_cons,addB_yes hml h.2,List.mem_cons]
   have hne:b.1≠s:=fun e=>hb (by rw [e];exact cmpS_self _)
   constructor
   ·rintro (h' | h' | ⟨h',h''⟩)
    ·subst h';exact .inr ⟨.inl rfl,hne⟩
    ·exact .inl h'
    ·exact .inr ⟨.inr h',h''⟩
   ·rintro (h' | ⟨h' | h',h''⟩)
    ·exact .inr (.inl h')
    ·exact .inl h'
    ·exact .inr (.inr ⟨h',h''⟩)
theorem Can.add {f:List SItem→Nat} {B:List SBranch} (h:Can f B) (s:List SItem) {n:Nat} (h1:n≠0):Can (fun t=>f t+if t=s then n else 0) (addB s (sat n) B):=by
 refine ⟨addB_srt h.srt,fun t m=>?_⟩
 by_cases hs:f s=0
 ·rw [addB_no (fun b hb e=>by have:=(h.many hb).2.1;rw [e] at this;exact this hs) h.srt,h.mem,Prod.mk.injEq]
  by_cases ht:t=s
  ·subst ht;simp [hs,h1]
  ·simp [ht]
 ·rw [addB_yes ((h.mem s _).2 ⟨hs,rfl⟩) h.srt,h.mem,Prod.mk.injEq]
  by_cases ht:t=s
  ·subst ht
   simp only [true_and,if_true,ne_eq,not_true_eq_false,and_false,or_false]
   have:min 2 (sat (f t)+sat n)=sat (f t+n):=by unfold sat;omega
   rw [this]
   exact ⟨fun e=>⟨by omega,e⟩,fun e=>e.2⟩
  ·simp [ht]
theorem len_sub {α:Type} [DecidableEq α]:∀{l U:List α},l.Nodup→(∀t∈l,t∈U)→l.length≤U.length
 | [],_,_,_=>Nat.zero_le _
 | x::l,U,hn,h=>by
  rw [List.nodup_cons] at hn
  have hx:=h x (by simp)
  have:=len_sub (l:=l) (U:=U.erase x) hn.2 fun t ht=>(List.mem_erase_of_ne (fun e=>hn.1 (by rw [← e];exact ht))).2 (h t (by simp [ht]))
  rw [List.length_erase_of_mem hx] at this
  have:=List.length_pos_of_mem hx
  simp only [List.length_cons];omega
theorem can_len {f:List SItem→Nat} {B:List SBranch} (h:Can f B) {U:List (List SItem)} (hU:∀t,f t≠0→t∈U):B.length≤U.length:=by
 have:(B.map (·.1)).length≤U.length:=len_sub h.nodup fun t ht=>hU t ((h.keys t).1 ht)
 simpa using this
theorem cmp_in {x y:Int}:zcr x y (sgnI x y):=by
 refine ⟨false,by simp [zd0],false,by simp [zd0],(fun h=>by cases h),fun _=>⟨(fun h=>by cases h),fun _=>⟨fun h=>?_,fun h=>⟨fun h2=>?_,fun h2=>?_⟩⟩⟩⟩
 ·unfold sgnI;rw [if_pos (dt h)]
 ·unfold sgnI;rw [if_neg (df h),if_pos (dt h2)]
 ·unfold sgnI;rw [if_neg (df h),if_neg (df h2)]
theorem or_in {l:List Int} (hl:l.length<1000000):zcl l (fstNZ l):=by
 refine upto (P:=fun k (_:Unit) v=>zcl.l1 l (fstNZ l) _ k v) l.length (fun i _=>fstNZ l=fstNZ (l.drop i)) ?_ ?_ () (by simp)
 ·intro i _ hi h
  have hat:at? l (i:Int)=some l[i]:=by rw [zbw];simp [hi]
  rw [List.drop_eq_getElem_cons hi] at h
  by_cases hz:l[i]=0
  ·rw [fstNZ,if_neg (by simpa using hz)] at h
   exact .inr ⟨(),h,fun k hk=>⟨fun _=>⟨_,hat,fun hb=>by simp [hz] at hb,fun _=>⟨zk (by omega) (by omega),hk⟩⟩,fun h=>absurd (by omega) (df h)⟩⟩
  ·rw [fstNZ,if_pos hz] at h
   exact .inl fun k=>⟨fun _=>⟨_,hat,fun _=>h,fun hb=>by simp at hb;exact absurd hb hz⟩,fun h=>absurd (by omega) (df h)⟩
 ·intro _ h k
  refine ⟨fun h=>absurd (dt h) (by omega),fun _=>?_⟩
  rw [List.drop_length] at h
  exact h
theorem cmp1_in {x y:SItem}:zdb x y (lexI (nums4 x) (nums4 y)):=by
 rw [← cmpItem_lex]
 exact ⟨_,cmp_in,_,cmp_in,_,cmp_in,_,cmp_in,_,or_in (by simp),rfl⟩
theorem cmpFunc_in {a b:List SItem} (hl:a.length=b.length) (hs:a.length≤1000):zh a b (fun q_=>zdb q_.1 q_.2.1 q_.2.2) (lexI (numsS a) (numsS b)):=by
 refine upto (P:=fun k (_:Unit) v=>zh.l1 a b (fun q_=>zdb q_.1 q_.2.1 q_.2.2) (lexI (numsS a) (numsS b)) _ k v) a.length (fun i _=>lexI (numsS a) (numsS b)=lexI (numsS (a.drop i)) (numsS (b.drop i))) ?_ ?_ () (by simp)
 ·intro i _ hi h
  have ha:at? a (i:Int)=some a[i]:=by rw [zbw];simp [hi]
  have hb:at? b (i:Int)=some (b[i]'(by omega)):=by rw [zbw];simp [show i<b.length by omega]
  rw [List.drop_eq_getElem_cons hi,List.drop_eq_getElem_cons (show i<b.length by omega),numsS_cons,numsS_cons,lexI_app (by simp [nums4])] at h
  by_cases hz:lexI (nums4 a[i]) (nums4 (b[i]'(by omega)))=0
  ·rw [if_neg (by simpa using hz)] at h
   refine .inr ⟨(),h,fun k hk=>⟨fun _=>⟨_,ha,fun h2=>absurd (dt h2) (by omega),fun _=>⟨_,hb,lexI (nums4 a[i]) (nums4 (b[i]'(by omega))),cmp1_in,fun h3=>?_,fun _=>⟨zk (by omega) (by omega),hk⟩⟩⟩,fun h=>absurd (by omega) (df h)⟩⟩
   rw [hz] at h3;simp at h3
  ·rw [if_pos hz] at h
   refine .inl fun k=>⟨fun _=>⟨_,ha,fun h2=>absurd (dt h2) (by omega),fun _=>⟨_,hb,lexI (nums4 a[i]) (nums4 (b[i]'(by omega))),cmp1_in,fun _=>h,fun h3=>?_⟩⟩,fun h=>absurd (by omega) (df h)⟩
   simp at h3;exact absurd h3 hz
 ·intro _ h k
  refine ⟨fun h=>absurd (dt h) (by omega),fun _=>⟨fun h2=>absurd (dt h2) (by omega),fun _=>?_⟩⟩
  rw [h,List.drop_length]
  exact zdi _
theorem item_Compare_in {a b:List SItem} (hs:a.length≤1000):item_Compare a b (cmpS a b):=by
 have e:cmpS a b=if sgnI (a.length:Int) (b.length:Int)≠0 then sgnI (a.length:Int) (b.length:Int) else lexI (numsS a) (numsS b):=by unfold cmpS numsL;rw [lexI_cons]
 refine ⟨_,cmp_in,fun h=>?_,fun h=>?_⟩
 ·rw [e,if_pos (by simpa using h)]
 ·have h0:sgnI (a.length:Int) (b.length:Int)=0:=by simpa using h
  have hl:a.length=b.length:=by
   unfold sgnI at h0
   by_cases h1:(a.length:Int)<(b.length:Int)
   ·rw [if_pos h1] at h0;cases h0
   ·by_cases h2:(b.length:Int)<(a.length:Int)
    ·rw [if_neg h1,if_pos h2] at h0;cases h0
    ·omega
  refine ⟨_,cmpFunc_in hl hs, ?_⟩
  rw [e,if_neg (by simpa using h0)]
theorem numsS_snoc (s:List SItem) (x:SItem):numsS (s++[x])=numsS s++nums4 x:=by simp [numsS]
theorem ref13_numbers_in {s:List SItem} (hs:s.length≤1000):zbm s (numsL s):=by
 refine upto (P:=fun k (t:List Int) v=>zbm.l1 s _ k t v) s.length (fun i t=>t=(s.length:Int)::numsS (s.take i)) ?_ ?_ _ (by simp [numsS])
 ·rintro i t hi rfl
  have hat:at? s (i:Int)=some s[i]:=by rw [zbw];simp [hi]
  have hl:=zdh (s.take i)
  simp only [List.length_take] at hl
  refine .inr ⟨_,rfl,fun k h=>⟨fun _=>⟨_,hat,_,hat,_,hat,_,hat,by simp only [List.length_cons,List.length_nil];omega,zk (by omega) (by omega), ?_⟩,fun h=>absurd (by omega) (df h)⟩⟩
  rw [List.take_succ_eq_append_getElem hi,numsS_snoc] at h
  exact h
 ·rintro t rfl k
  refine ⟨fun h=>absurd (dt h) (by omega),fun _=>?_⟩
  rw [List.take_length];rfl
theorem ref13_Compare_in {a b:List SItem} (ha:a.length≤1000) (hb:b.length≤1000):zbf a b (cmpS a b):=by
 refine ⟨_,ref13_numbers_in ha,_,ref13_numbers_in hb, ?_⟩
 have la:(numsL a).length≤4001:=by unfold numsL;rw [List.length_cons,zdh];omega
 show ∃k,zbf.l1 (numsL a) (numsL b) (cmpS a b) (zbf.j1 (cmpS a b)) k 0
 unfold cmpS
 generalize numsL a=X at *
 generalize numsL b=Y at *
 refine upto (P:=fun k (_:Unit) v=>zbf.l1 X Y (lexI X Y) _ k v) (min X.length Y.length) (fun i _=>lexI X Y=lexI (X.drop i) (Y.drop i)) ?_ ?_ () (by simp)
 ·intro i _ hi h
  have hx:i<X.length:=by omega
  have hy:i<Y.length:=by omega
  have hax:at? X (i:Int)=some X[i]:=by rw [zbw];simp [hx]
  have hay:at? Y (i:Int)=some Y[i]:=by rw [zbw];simp [hy]
  have hb:(true:Bool)=((decide ((i:Int)<(X.length:Int)))&&(decide ((i:Int)<(Y.length:Int)))):=by simp;omega
  rw [List.drop_eq_getElem_cons hx,List.drop_eq_getElem_cons hy,lexI] at h
  by_cases h1:X[i] < Y[i]
  ·rw [if_pos h1] at h
   exact .inl fun k=>⟨true,hb,fun _=>⟨_,hax,_,hay,fun _=>h,fun h2=>absurd h1 (df h2)⟩,(fun h=>by cases h)⟩
  ·by_cases h2:Y[i] < X[i]
   ·rw [if_neg h1,if_pos h2] at h
    exact .inl fun k=>⟨true,hb,fun _=>⟨_,hax,_,hay,fun h3=>absurd (dt h3) h1,fun _=>⟨_,hax,_,hay,fun _=>h,fun h3=>absurd h2 (df h3)⟩⟩,(fun h=>by cases h)⟩
   ·rw [if_neg h1,if_neg h2] at h
    exact .inr ⟨(),h,fun k hk=>⟨true,hb,fun _=>⟨_,hax,_,hay,fun h3=>absurd (dt h3) h1,fun _=>⟨_,hax,_,hay,fun h3=>absurd (dt h3) h2,fun _=>⟨zk (by omega) (by omega),hk⟩⟩⟩,(fun h=>by cases h)⟩⟩
 ·intro _ h k
  refine ⟨false,by simp;omega,(fun h=>by cases h),fun _=>?_⟩
  show lexI X Y=0
  rw [h]
  rcases Nat.le_total X.length Y.length with hle | hle
  ·rw [Nat.min_eq_left hle,List.drop_length];exact zdi _
  ·rw [Nat.min_eq_right hle,List.drop_length];exact lexI_nil_right _
theorem ref13_Same_in {a b:List SItem} (ha:a.length≤1000) (hb:b.length≤1000):ref13_Same a b (decide (a=b)):=by
 refine ⟨_,ref13_Compare_in ha hb, ?_⟩
 rw [Bool.eq_iff_iff,decide_eq_true_iff,beq_iff_eq,zdl]
def ItR (x:SItem):Prop:=InR .i64 x.1∧InR .i64 x.2.1∧InR .i64 x.2.2.1∧InR .i64 x.2.2.2
theorem clone_in {s:List SItem} (hs:s.length≤1000):zby s s:=fun b hb=>⟨fun h=>hb h,fun _=>⟨by simp;omega,by simp⟩⟩
theorem any_take {s:List SItem} {i:Nat} (hi:i<s.length):(s.take (i+1)).any badI=((s.take i).any badI||badI s[i]):=by
 rw [List.take_succ_eq_append_getElem hi,List.any_append];simp
theorem any_of {s:List SItem} {i:Nat} (hi:i<s.length) (h:badI s[i]=true):s.any badI=true:=List.any_eq_true.2 ⟨_,List.getElem_mem hi,h⟩
theorem item_Key_in {s:List SItem} (hs:s.length≤1000):item_Key s (keyS s):=⟨hs,rfl⟩
theorem at0 {α:Type} (x:α) (l:List α):at? (x::l) 0=some x:=rfl
theorem concat2_in {a b:List SItem} (ha:a.length≤100000) (hb:b.length≤100000):zi [a,b] (a++b):=by
 refine ⟨3,⟨fun _=>⟨a,rfl,zk (by omega) (by omega),fun h=>absurd (dt h) (by omega),fun _=>⟨zk (by omega) (by omega), ?_⟩⟩,fun h=>absurd h (by simp)⟩⟩
 refine ⟨fun _=>⟨b,rfl,zk (by omega) (by omega),fun h=>absurd (dt h) (by omega),fun _=>⟨zk (by omega) (by omega), ?_⟩⟩,fun h=>absurd h (by simp)⟩
 refine ⟨fun h=>absurd h (by simp),fun _=>?_⟩
 refine ⟨[],⟨by omega,by omega,rfl⟩,3, ?_⟩
 refine ⟨fun _=>⟨a,rfl,by simp;omega,zk (by omega) (by omega), ?_⟩,fun h=>absurd h (by simp)⟩
 refine ⟨fun _=>⟨b,rfl,by simp;omega,zk (by omega) (by omega), ?_⟩,fun h=>absurd h (by simp)⟩
 refine ⟨fun h=>absurd h (by simp),fun _=>?_⟩
 show a++b=[]++a++b
 simp
theorem with_in {rest list:List SItem} (ha:list.length≤100000) (hb:rest.length≤100000):zci rest list (list++rest):=⟨_,concat2_in ha hb,rfl⟩
theorem ahead_in {rest list:List SItem} (ha:list.length≤100000) (hb:rest.length≤100000):zb7 list rest (list++rest):=⟨by simp;omega,by simp;omega,by simp⟩
theorem zdd {d:List SNode} {x:SItem} {s:List SItem} (h:formS d (x::s)=true):formI d x=true∧formS d s=true:=by simpa [formS] using h
theorem form_node {d:List SNode} {x:SItem} (h:formI d x=true) (h5:x.1≠5):∃n,at? d x.2.1=some n∧(x.1=1∨(x.1=2∧n.1=7)∨(x.1=3∧n.1=3)∨(x.1=4∧n.1=9)):=by
 unfold formI at h
 rw [if_neg h5] at h
 cases hn:at? d x.2.1 with
 | none=>rw [hn] at h;cases h
 | some n=>
  rw [hn] at h
  refine ⟨n,rfl, ?_⟩
  simp only at h
  by_cases h1:x.1=1
  ·exact .inl h1
  ·rw [if_neg h1] at h
   by_cases h2:x.1=2
   ·rw [if_pos h2] at h;simp at h;exact .inr (.inl ⟨h2,h.1.1.1⟩)
   ·rw [if_neg h2] at h
    by_cases h3:x.1=3
    ·rw [if_pos h3] at h;simp at h;exact .inr (.inr (.inl ⟨h3,h.1.1.1⟩))
    ·rw [if_neg h3] at h
     by_cases h4:x.1=4
     ·rw [if_pos h4] at h;simp at h;exact .inr (.inr (.inr ⟨h4,h.1.1.1⟩))
     ·rw [if_neg h4] at h;cases h
theorem kinds9 {k:Int} (h:1≤k∧k≤9):k=1∨k=2∨k=3∨k=4∨k=5∨k=6∨k=7∨k=8∨k=9:=by omega
theorem heads_Ready_in {d:List SNode} (hd:ROk d) {s:List SItem} (hf:formS d s=true):heads_Ready d s (rdy d s):=by
 cases s with
 | nil=>exact ⟨fun _=>rfl,fun h=>absurd h (by simp)⟩
 | cons x s=>
  refine ⟨fun h=>absurd h (by simp;omega),fun _=>⟨x,at0 x s,fun h1=>?_,fun h1=>⟨fun h3=>⟨fun _=>by simp only [rdy,h3,Bool.true_or],fun h=>absurd h3 (by rw [h];simp)⟩,fun h3=>⟨fun h4=>by simp only [rdy,h4,Bool.true_or,Bool.or_true],fun h4=>by simp only [rdy,h1,h3,h4,Bool.false_and,Bool.or_false]⟩⟩⟩⟩
  have e1:x.1=1:=by simpa using h1
  obtain ⟨n,hn,_⟩:=form_node (zdd hf).1 (by omega)
  have hk:=hd.kind _ n hn
  refine ⟨n,hn,(n.1==2||n.1==8||n.1==9),fun _=>?_, ?_⟩
  ·rcases kinds9 hk with e | e | e | e | e | e | e | e | e <;> rw [e] <;> rfl
  ·simp only [rdy,hn,e1]
   have:decide (n.1<10)=true:=by simp;omega
   rw [this];simp
theorem ref14_Ready_in {d:List SNode} {s:List SItem} (hf:formS d s=true) (hd0:∃n,at? d 0=some n):ref14_Ready d s (rdy d s):=by
 cases s with
 | nil=>exact ⟨(0,0,0,0),fun h=>absurd h (by simp),(0,0,0,0),fun h=>absurd h (by simp),true,by simp,fun _=>rfl,fun h=>by cases h⟩
 | cons x s=>
  refine ⟨x,fun _=>at0 x s,x,fun _=>at0 x s,_,rfl,fun h=>?_,fun h=>?_⟩
  ·simp only [List.length_cons,Bool.or_eq_true,beq_iff_eq] at h
   have:x.1=3∨x.1=4:=by omega
   rcases this with e | e <;> simp [rdy,e]
  ·simp only [List.length_cons,Bool.or_eq_false_iff] at h
   have hnode:∃n,at? d x.2.1=some n:=by
    by_cases h5:x.1=5
    ·have:=(zdd hf).1
     unfold formI at this
     rw [if_pos h5] at this
     simp at this
     rw [this.1.1];exact hd0
    ·obtain ⟨n,hn,_⟩:=form_node (zdd hf).1 h5
     exact ⟨n,hn⟩
   obtain ⟨n,hn⟩:=hnode
   refine ⟨x,at0 x s,n,hn,x,at0 x s,_,rfl, ?_⟩
   simp only [rdy,hn,h.1.2,h.2,Bool.false_or]
theorem opn_len {d:List SNode} (s:List SItem):(opn d s).length≤2:=by
 cases s with
 | nil=>simp [opn]
 | cons x s=>
  simp only [opn]
  by_cases h5:x.1=5
  ·rw [if_pos h5];split <;> simp
  ·rw [if_neg h5]
   cases at? d x.2.1 with
   | none=>simp
   | some n=>
    simp only
    by_cases h2:x.1=2
    ·rw [if_pos h2];split <;> split <;> simp
    ·rw [if_neg h2]
     by_cases h1:n.1=1
     ·simp [h1]
     ·by_cases h3:n.1=3
      ·simp [h3]
      ·by_cases h4:n.1=4
       ·simp [h4]
       ·by_cases h5:n.1=5
        ·simp [h5]
        ·by_cases h6:n.1=6
         ·simp [h6]
         ·simp [h1,h3,h4,h5,h6]
theorem heads_Open_in {d:List SNode} (hd:ROk d) {s:List SItem} (hf:formS d s=true) (hr:rdy d s=false) (hl:s.length≤10000) (hd0:∃n,at? d 0=some n):zct d s (opn d s):=by
 cases s with
 | nil=>simp [rdy] at hr
 | cons x s=>
  simp only [List.length_cons] at hl
  have hdrop:(x::s).drop (1:Int).toNat=s:=rfl
  have w0:zci s [] s:=with_in (by simp) (by omega)
  have wl:∀l:List SItem,l.length≤2→zci s l (l++s):=fun l h=>with_in (by omega) (by omega)
  have hx:=(zdd hf).1
  by_cases h5:x.1=5
  ·obtain ⟨n0,hn0⟩:=hd0
   have hx':=hx
   unfold formI at hx'
   rw [if_pos h5] at hx'
   simp at hx'
   refine ⟨x,at0 x s,⟨by omega,by simp;omega⟩,n0,by rw [hx'.1.1];exact hn0,fun h=>⟨s,w0, ?_⟩,fun h=>⟨fun _=>?_,fun h'=>absurd h' (by simp [h5])⟩⟩
   ·simp at h
    simp [opn,h5,h.2]
   ·simp [h5] at h
    simp [opn,h5,h]
  ·obtain ⟨n,hn,hk⟩:=form_node hx h5
   refine ⟨x,at0 x s,⟨by omega,by simp;omega⟩,n,hn,fun h=>absurd h (by simp [h5]),fun _=>⟨fun h=>absurd h (by simp [h5]),fun _=>⟨fun h2=>?_,fun h2=>?_⟩⟩⟩
   ·have e2:x.1=2:=by simpa using h2
    have hlo:0≤x.2.2.1∧x.2.2.1≤x.2.2.2∧x.2.2.2≤255:=by
     have hx':=hx
     unfold formI at hx'
     rw [if_neg h5,hn] at hx'
     simp [e2] at hx'
     have:=hd.rep _ n hn hx'.1.1.1
     omega
    have hj:∀out:List (List SItem),out.length≤1→∀r,r=out++(if 0<x.2.2.2 then [(1,n.2.1,0,0)::(2,x.2.1,max (x.2.2.1-1) 0,x.2.2.2-1)::s] else [])→zct.j2 (x::s) r x n out:=by
     intro out hout r hrr
     refine ⟨fun h=>⟨(1,n.2.1,0,0),rfl,zk (by omega) (by omega),zk (by omega) (by omega),_,wl _ (by simp),by simp;omega, ?_⟩,fun h=>?_⟩
     ·have:0<x.2.2.2:=dt h
      show r=_
      rw [hrr,if_pos this,e2];rfl
     ·have:¬ 0<x.2.2.2:=df h
      show r=_
      rw [hrr,if_neg this,List.append_nil]
    refine ⟨fun h=>⟨s,w0,by simp,hj _ (by simp) _ ?_⟩,fun h=>hj _ (by simp) _ ?_⟩
    ·have e0:x.2.2.1=0:=by simpa using h
     simp [opn,hn,e2,e0]
    ·have e0:¬ x.2.2.1=0:=by simpa using h
     simp [opn,hn,e2,e0]
   ·have e2:¬ x.1=2:=by simpa using h2
    have e1:x.1=1:=by
     rcases hk with h | ⟨h,_⟩ | ⟨h,_⟩ | ⟨h,_⟩
     ·exact h
     ·exact absurd h e2
     ·simp [rdy,h] at hr
     ·simp [rdy,h] at hr
    refine ⟨fun h=>⟨s,w0, ?_⟩,fun k1=>⟨fun h=>⟨_,wl _ (by simp), ?_⟩,fun k3=>⟨fun h=>⟨_,rfl,_,rfl,_,wl _ (by simp), ?_⟩,fun k4=>⟨fun h=>⟨_,rfl,_,wl _ (by simp),_,rfl,_,wl _ (by simp), ?_⟩,fun k5=>⟨fun h=>⟨s,w0,_,rfl,_,wl _ (by simp), ?_⟩,fun k6=>⟨_,wl _ (by simp), ?_⟩⟩⟩⟩⟩⟩
    all_goals simp only [opn,hn,if_neg h5,if_neg e2]
    all_goals simp_all
theorem ref14_Open_in {d:List SNode} (hd:ROk d) {s:List SItem} (hf:formS d s=true) (hr:rdy d s=false) (hl:s.length≤10000) (hd0:∃n,at? d 0=some n):zc6 d s (opn d s):=by
 cases s with
 | nil=>simp [rdy] at hr
 | cons x s=>
  simp only [List.length_cons] at hl
  have w0:zb7 [] s s:=ahead_in (by simp) (by omega)
  have wl:∀l:List SItem,l.length≤2→zb7 l s (l++s):=fun l h=>ahead_in (by omega) (by omega)
  have hx:=(zdd hf).1
  by_cases h5:x.1=5
  ·obtain ⟨n0,hn0⟩:=hd0
   have hx':=hx
   unfold formI at hx'
   rw [if_pos h5] at hx'
   simp at hx'
   refine ⟨x,at0 x s,⟨by omega,by simp;omega⟩,n0,by rw [hx'.1.1];exact hn0,fun _=>⟨fun h=>⟨s,w0,by simp, ?_⟩,fun h=>?_⟩,fun h=>absurd h (by simp [h5])⟩
   ·simp at h
    show opn d (x::s)=_
    simp [opn,h5,h]
   ·simp at h
    show opn d (x::s)=_
    simp [opn,h5,h]
  ·obtain ⟨n,hn,hk⟩:=form_node hx h5
   refine ⟨x,at0 x s,⟨by omega,by simp;omega⟩,n,hn,fun h=>absurd h (by simp [h5]),fun _=>⟨fun h2=>?_,fun h2=>?_⟩⟩
   ·have e2:x.1=2:=by simpa using h2
    have hlo:0≤x.2.2.1∧x.2.2.1≤x.2.2.2∧x.2.2.2≤255:=by
     have hx':=hx
     unfold formI at hx'
     rw [if_neg h5,hn] at hx'
     simp [e2] at hx'
     have:=hd.rep _ n hn hx'.1.1.1
     omega
    have hj:∀out:List (List SItem),out.length≤1→∀r,r=out++(if 0<x.2.2.2 then [(1,n.2.1,0,0)::(2,x.2.1,max (x.2.2.1-1) 0,x.2.2.2-1)::s] else [])→zc6.j3 (x::s) r x n out:=by
     intro out hout r hrr
     refine ⟨fun h=>⟨zk (by omega) (by omega),zk (by omega) (by omega),_,wl _ (by simp),by simp;omega, ?_⟩,fun h=>?_⟩
     ·have:0<x.2.2.2:=dt h
      show r=_
      rw [hrr,if_pos this,Int.max_comm];rfl
     ·have:¬ 0<x.2.2.2:=df h
      show r=_
      rw [hrr,if_neg this,List.append_nil]
    refine ⟨fun h=>⟨s,w0,by simp,hj _ (by simp) _ ?_⟩,fun h=>hj _ (by simp) _ ?_⟩
    ·have e0:x.2.2.1=0:=by simpa using h
     simp [opn,hn,e2,e0]
    ·have e0:¬ x.2.2.1=0:=by simpa using h
     simp [opn,hn,e2,e0]
   ·have e2:¬ x.1=2:=by simpa using h2
    have e1:x.1=1:=by
     rcases hk with h | ⟨h,_⟩ | ⟨h,_⟩ | ⟨h,_⟩
     ·exact h
     ·exact absurd h e2
     ·simp [rdy,h] at hr
     ·simp [rdy,h] at hr
    have h289:n.1≠2∧n.1≠8∧n.1≠9:=by
     simp only [rdy,hn,e1] at hr
     simp at hr
     omega
    have hk9:=hd.kind _ n hn
    refine ⟨fun h=>⟨s,w0,by simp, ?_⟩,fun k1=>⟨fun h=>⟨_,wl _ (by simp),by simp, ?_⟩,fun k3=>⟨fun h=>⟨_,wl _ (by simp),by simp, ?_⟩,fun k4=>⟨fun h=>⟨_,wl _ (by simp),_,wl _ (by simp),by simp, ?_⟩,fun k5=>⟨fun h=>⟨s,w0,_,wl _ (by simp),by simp, ?_⟩,fun k6=>⟨fun h=>⟨_,wl _ (by simp),by simp, ?_⟩,fun k7=>?_⟩⟩⟩⟩⟩⟩
    ·simp only [opn,hn,if_neg h5,if_neg e2];simp_all
    ·simp only [opn,hn,if_neg h5,if_neg e2];simp_all
    ·simp only [opn,hn,if_neg h5,if_neg e2];simp_all
    ·simp only [opn,hn,if_neg h5,if_neg e2];simp_all
    ·simp only [opn,hn,if_neg h5,if_neg e2];simp_all
    ·simp only [opn,hn,if_neg h5,if_neg e2];simp_all
    ·exfalso
     simp at k1 k3 k4 k5 k6 k7
     omega
theorem form_one {d:List SNode} {a:Int} (h:∃m,at? d a=some m):formI d (1,a,0,0)=true:=by
 obtain ⟨m,hm⟩:=h
 unfold formI
 simp [hm]
theorem at_lt {d:List SNode} {i a:Int} {n:SNode} (hn:at? d i=some n) (h0:0≤a) (h1:a<i):∃m,at? d a=some m:=by
 obtain ⟨j,rfl,hj⟩:=at_nn hn
 have:=(List.getElem?_eq_some_iff.1 hj).1
 obtain ⟨m,hm,_⟩:=at_in (xs:=d) h0 (by omega)
 exact ⟨m,hm⟩
theorem zce {α:Type} {d:List α} {i:Int} {n:α} (hn:at? d i=some n):0≤i∧i<(d.length:Int):=by
 obtain ⟨j,rfl,hj⟩:=at_nn hn
 have:=(List.getElem?_eq_some_iff.1 hj).1
 omega
theorem opn_cases {d:List SNode} (hd:ROk d) {x:SItem} {rest:List SItem} (hf:formS d (x::rest)=true) (hr:rdy d (x::rest)=false) {t:List SItem} (ht:t∈opn d (x::rest)):
  t=rest∨∃n,at? d x.2.1=some n∧x.1≠5∧((∃a,0≤a∧a<x.2.1∧t=(1,a,0,0)::rest)∨(∃a b,0≤a∧a<x.2.1∧0≤b∧b<x.2.1∧t=(1,a,0,0)::(1,b,0,0)::rest)∨(∃a lo hi k,0≤a∧a<x.2.1∧t=(1,a,0,0)::(k,x.2.1,lo,hi)::rest∧formI d (k,x.2.1,lo,hi)=true)∨∃k lo hi,t=(k,x.2.1,lo,hi)::rest∧formI d (k,x.2.1,lo,hi)=true):=by
 have hx:=(zdd hf).1
 by_cases h5:x.1=5
 ·simp only [opn] at ht
  rw [if_pos h5] at ht
  split at ht
  ·exact .inl (List.mem_singleton.1 ht)
  ·cases ht
 ·obtain ⟨n,hn,hk⟩:=form_node hx h5
  simp only [opn,hn] at ht
  rw [if_neg h5] at ht
  by_cases h2:x.1=2
  ·rw [if_pos h2] at ht
   have hx':=hx
   unfold formI at hx'
   rw [if_neg h5,hn] at hx'
   simp [h2] at hx'
   obtain ⟨a0,a1⟩:=hd.one _ n hn (.inr (.inl hx'.1.1.1))
   rcases List.mem_append.1 ht with ht | ht
   ·split at ht
    ·exact .inl (List.mem_singleton.1 ht)
    ·cases ht
   ·split at ht
    ·rename_i hpos
     refine .inr ⟨n,hn,h5,.inr (.inr (.inl ⟨n.2.1,_,_,2,a0,a1,List.mem_singleton.1 ht, ?_⟩))⟩
     unfold formI
     simp [hn,hx'.1.1.1]
     omega
    ·cases ht
  ·rw [if_neg h2] at ht
   have e1:x.1=1:=by
    rcases hk with h | ⟨h,_⟩ | ⟨h,_⟩ | ⟨h,_⟩
    ·exact h
    ·exact absurd h h2
    ·simp [rdy,h] at hr
    ·simp [rdy,h] at hr
   have h289:n.1≠2∧n.1≠8∧n.1≠9:=by
    simp only [rdy,hn,e1] at hr
    simp at hr
    omega
   by_cases k1:n.1=1
   ·rw [if_pos k1] at ht;exact .inl (List.mem_singleton.1 ht)
   ·rw [if_neg k1] at ht
    by_cases k3:n.1=3
    ·rw [if_pos k3] at ht
     refine .inr ⟨n,hn,h5,.inr (.inr (.inr ⟨3,0,0,List.mem_singleton.1 ht, ?_⟩))⟩
     have:=hd.ntx _ n hn k3
     unfold formI
     simp [hn,k3]
     exact List.length_pos_iff.2 this
    ·rw [if_neg k3] at ht
     by_cases k4:n.1=4
     ·rw [if_pos k4] at ht
      obtain ⟨⟨a,b⟩,c,e⟩:=hd.two _ n hn (.inl k4)
      exact .inr ⟨n,hn,h5,.inr (.inl ⟨_,_,a,b,c,e,List.mem_singleton.1 ht⟩)⟩
     ·rw [if_neg k4] at ht
      by_cases k5:n.1=5
      ·rw [if_pos k5] at ht
       obtain ⟨⟨a,b⟩,c,e⟩:=hd.two _ n hn (.inr k5)
       simp only [List.mem_cons,List.not_mem_nil,or_false] at ht
       rcases ht with ht | ht
       ·exact .inr ⟨n,hn,h5,.inl ⟨_,a,b,ht⟩⟩
       ·exact .inr ⟨n,hn,h5,.inl ⟨_,c,e,ht⟩⟩
      ·rw [if_neg k5] at ht
       by_cases k6:n.1=6
       ·rw [if_pos k6] at ht
        obtain ⟨a,b⟩:=hd.one _ n hn (.inl k6)
        simp only [List.mem_cons,List.not_mem_nil,or_false] at ht
        rcases ht with ht | ht
        ·exact .inl ht
        ·obtain ⟨xk,xi,xl,xh⟩:=x
         exact .inr ⟨n,hn,h5,.inr (.inr (.inl ⟨_,xl,xh,xk,a,b,ht,hx⟩))⟩
       ·rw [if_neg k6] at ht
        have k7:n.1=7:=by have:=hd.kind _ n hn;omega
        refine .inr ⟨n,hn,h5,.inr (.inr (.inr ⟨2,_,_,List.mem_singleton.1 ht, ?_⟩))⟩
        obtain ⟨b0,b1,b2⟩:=hd.rep _ n hn k7
        unfold formI
        simp [hn,k7,b0,b1]
theorem form_mk {d:List SNode} {x:SItem} {s:List SItem} (h:formI d x=true) (k:formS d s=true):formS d (x::s)=true:=by
 simp only [formS,List.all_cons,Bool.and_eq_true]
 exact ⟨h,k⟩
theorem form_opn {d:List SNode} (hd:ROk d) {s:List SItem} (hf:formS d s=true) (hr:rdy d s=false):∀t∈opn d s,formS d t=true:=by
 intro t ht
 cases s with
 | nil=>simp [opn] at ht
 | cons x rest=>
  have hrest:=(zdd hf).2
  rcases opn_cases hd hf hr ht with rfl | ⟨n,hn,h5,h⟩
  ·exact hrest
  ·rcases h with ⟨a,h0,h1,rfl⟩ | ⟨a,b,h0,h1,h2,h3,rfl⟩ | ⟨a,lo,hi,k,h0,h1,rfl,h2⟩ | ⟨k,lo,hi,rfl,h2⟩
   ·exact form_mk (form_one (at_lt hn h0 h1)) hrest
   ·exact form_mk (form_one (at_lt hn h0 h1)) (form_mk (form_one (at_lt hn h2 h3)) hrest)
   ·exact form_mk (form_one (at_lt hn h0 h1)) (form_mk h2 hrest)
   ·exact form_mk h2 hrest
def SufI (D:Nat):List SItem→Prop
 | []=>True
 | x::u=>(u.length:Int)+1+x.2.1≤(D:Int)∧0≤x.2.1∧SufI D u
theorem SufI.len {D:Nat}:∀{u:List SItem},SufI D u→u.length≤D
 | [],_=>Nat.zero_le _
 | x::u,h=>by
  have h1:=h.1
  have h2:=h.2.1
  simp only [List.length_cons];omega
structure Vs (d:List SNode) (n0:Nat) (t:List SItem):Prop where
 form:formS d t=true
 cut:∃u v,t=u++v∧SufI d.length u∧v.length≤n0
theorem Vs.len {d:List SNode} {n0:Nat} {t:List SItem} (h:Vs d n0 t):t.length≤n0+d.length:=by
 obtain ⟨u,v,rfl,h1,h2⟩:=h.cut
 have:=h1.len
 simp;omega
theorem Vs.start {d:List SNode} {s:List SItem} {n0:Nat} (hf:formS d s=true) (h:s.length≤n0):Vs d n0 s:=⟨hf,[],s,rfl,trivial,h⟩
theorem Vs.opn {d:List SNode} (hd:ROk d) {n0:Nat} {s:List SItem} (h:Vs d n0 s) (hr:rdy d s=false):∀t∈opn d s,Vs d n0 t:=by
 intro t ht
 refine ⟨form_opn hd h.form hr t ht, ?_⟩
 obtain ⟨u,v,hs,h1,h2⟩:=h.cut
 cases s with
 | nil=>simp [V.opn] at ht
 | cons x rest=>
  have key:∃u' v',rest=u'++v'∧SufI d.length u'∧v'.length≤n0∧(x.1≠5→(u'.length:Int)+1+x.2.1≤(d.length:Int)∧0≤x.2.1):=by
   cases u with
   | nil=>
    simp at hs
    refine ⟨[],rest,rfl,trivial,by rw [← hs] at h2;simp at h2;omega,fun h5=>?_⟩
    obtain ⟨n,hn,_⟩:=form_node (zdd h.form).1 h5
    have:=zce hn
    simp;omega
   | cons y u'=>
    simp at hs
    obtain ⟨e1,e2⟩:=hs
    subst e1
    exact ⟨u',v,e2,h1.2.2,h2,fun _=>⟨h1.1,h1.2.1⟩⟩
  obtain ⟨u',v',rfl,k1,k2,k3⟩:=key
  rcases opn_cases hd h.form hr ht with rfl | ⟨n,hn,h5,hc⟩
  ·exact ⟨u',v',rfl,k1,k2⟩
  ·obtain ⟨k4,k5⟩:=k3 h5
   rcases hc with ⟨a,h0,h1,rfl⟩ | ⟨a,b,h0,h1,h2,h3,rfl⟩ | ⟨a,lo,hi,k,h0,h1,rfl,h2⟩ | ⟨k,lo,hi,rfl,h2⟩
   ·exact ⟨(1,a,0,0)::u',v',rfl,⟨by simp only;omega,h0,k1⟩,k2⟩
   ·exact ⟨(1,a,0,0)::(1,b,0,0)::u',v',rfl,⟨by simp only [List.length_cons];omega,h0,by simp only;omega,h2,k1⟩,k2⟩
   ·exact ⟨(1,a,0,0)::(k,x.2.1,lo,hi)::u',v',rfl,⟨by simp only [List.length_cons];omega,h0,by simp only;omega,k5,k1⟩,k2⟩
   ·exact ⟨(k,x.2.1,lo,hi)::u',v',rfl,⟨by simp only;omega,k5,k1⟩,k2⟩
section
variable {κ ν : Type} [DecidableEq κ]
theorem mput_mem {xs:List (κ × ν)} {k:κ} {v:ν} {p:κ × ν}:p∈mput xs k v↔p=(k,v)∨(p.1≠k∧p∈xs):=by
 unfold mput
 cases h:mhas xs k
 ·rw [cond_false,List.mem_append,List.mem_singleton]
  constructor
  ·rintro (hp | hp)
   ·exact .inr ⟨fun e=>(by have:=zei.2 ⟨p,hp,e⟩;rw [h] at this;cases this),hp⟩
   ·exact .inl hp
  ·rintro (hp | hp)
   ·exact .inr hp
   ·exact .inl hp.2
 ·rw [cond_true,List.mem_map]
  constructor
  ·rintro ⟨q,hq,e⟩
   by_cases hk:q.1=k
   ·simp [hk] at e;exact .inl e.symm
   ·have:(q.1==k)=false:=by simpa using hk
    rw [this] at e
    simp at e
    subst e;exact .inr ⟨hk,hq⟩
  ·rintro (hp | ⟨hk,hp⟩)
   ·obtain ⟨q,hq,e⟩:=zei.1 h
    exact ⟨q,hq,by simp [e,hp]⟩
   ·have:(p.1==k)=false:=by simpa using hk
    exact ⟨p,hp,by simp [this]⟩
theorem mput_kn {xs:List (κ × ν)} (hn:KN xs) (k:κ) (v:ν):KN (mput xs k v):=by
 unfold mput KN
 cases h:mhas xs k
 ·rw [cond_false,List.map_append,List.nodup_append]
  refine ⟨hn,by simp,fun a ha b hb=>?_⟩
  simp at hb
  subst hb
  intro e
  subst e
  obtain ⟨p,hp,e⟩:=List.mem_map.1 ha
  have:=zei.2 ⟨p,hp,e⟩
  rw [h] at this;cases this
 ·rw [cond_true,List.map_map]
  have:(xs.map ((fun x=>x.1) ∘ fun p=>bif p.1==k then (k,v) else p))=xs.map (·.1):=by
   apply List.map_congr_left
   intro p _
   simp only [Function.comp]
   by_cases hk:p.1=k
   ·simp [hk]
   ·have:(p.1==k)=false:=by simpa using hk
    rw [this];rfl
  rw [this];exact hn
theorem mget_in {xs:List (κ × ν)} {k:κ} (h:mhas xs k=true) (z:ν):(k,mget xs k z)∈xs:=by
 unfold mget
 cases hf:xs.find? (fun p=>p.1==k) with
 | none=>
  obtain ⟨p,hp,e⟩:=zei.1 h
  have:=List.find?_eq_none.1 hf p hp
  simp [e] at this
 | some q=>
  have h1:=List.find?_some hf
  have h2:=List.mem_of_find?_eq_some hf
  have e:q.1=k:=by simpa using h1
  rw [← e];exact h2
end
structure MapF (f:List SItem→Nat) (m:List (Str × SBranch)):Prop where
 kn:KN m
 mem:∀k b,(k,b)∈m↔k=keyS b.1∧f b.1≠0∧b.2=sat (f b.1)
theorem MapF.nil:MapF (fun _=>0) []:=⟨List.nodup_nil,by simp⟩
theorem MapF.congr {f g:List SItem→Nat} {m} (h:MapF f m) (e:∀t,sat (f t)=sat (g t)):MapF g m:=⟨h.kn,fun k b=>by rw [h.mem,sat_ne (e b.1),e b.1]⟩
theorem MapF.get {f:List SItem→Nat} {m} (h:MapF f m) (u:List SItem):(mget m (keyS u) (([],0):SBranch)).2=sat (f u):=by
 by_cases hu:f u=0
 ·rw [mget_none fun p hp e=>?_]
  ·rw [hu];rfl
  ·obtain ⟨k,b⟩:=p
   obtain ⟨h1,h2,_⟩:=(h.mem k b).1 hp
   simp only at e
   rw [e] at h1
   rw [keyS_iff.1 h1] at hu
   exact h2 hu
 ·have hm:=(h.mem (keyS u) (u,sat (f u))).2 ⟨rfl,hu,rfl⟩
  have:=mget_mem h.kn hm (([],0):SBranch)
  simp only at this
  rw [this]
theorem MapF.put {f:List SItem→Nat} {m} (h:MapF f m) (u:List SItem) {n:Nat} (hn:n≠0):MapF (fun t=>f t+if t=u then n else 0) (mput m (keyS u) (u,min ((mget m (keyS u) (([],0):SBranch)).2+sat n) 2)):=by
 refine ⟨mput_kn h.kn _ _,fun k b=>?_⟩
 rw [mput_mem,h.get,h.mem]
 have e:min (sat (f u)+sat n) 2=sat (f u+n):=by unfold sat;omega
 rw [e]
 by_cases hb:b.1=u
 ·subst hb
  simp only [if_true,Prod.mk.injEq]
  constructor
  ·rintro (⟨h1,h2⟩ | ⟨h1,h2,_⟩)
   ·exact ⟨h1,by omega,by rw [h2]⟩
   ·exact absurd h2 h1
  ·rintro ⟨h1,_,h2⟩
   exact .inl ⟨h1,by rw [← h2]⟩
 ·simp only [if_neg hb,Nat.add_zero,Prod.mk.injEq]
  constructor
  ·rintro (⟨h1,h2⟩ | ⟨h1,h2⟩)
   ·rw [h2] at hb;exact absurd rfl hb
   ·exact h2
  ·rintro ⟨h1,h2⟩
   exact .inr ⟨fun e=>hb (keyS_iff.1 (h1.symm.trans e)),h1,h2⟩
theorem MapF.one (s:List SItem):MapF (fun t=>[s].count t) (mput [] (keyS s) (s,1)):=by
 have:=MapF.nil.put s (n:=1) (by omega)
 have e:(mput ([]:List (Str × SBranch)) (keyS s) (s,min ((mget [] (keyS s) (([],0):SBranch)).2+sat 1) 2))=mput [] (keyS s) (s,1):=rfl
 rw [e] at this
 refine this.congr fun t=>?_
 simp only [List.count_singleton,Nat.zero_add,beq_iff_eq]
 by_cases ht:t=s
 ·subst ht;simp
 ·simp [ht,Ne.symm ht]
theorem insB_perm (b:SBranch):∀l:List SBranch,(insB b l).Perm (b::l)
 | []=>.refl _
 | c::l=>by
  unfold insB
  split
  ·exact .refl _
  ·exact ((insB_perm b l).cons c).trans (List.Perm.swap _ _ _)
theorem srtB_perm:∀l:List SBranch,(srtB l).Perm l
 | []=>.refl _
 | b::l=>(insB_perm b _).trans ((srtB_perm l).cons b)
theorem insB_srt {b:SBranch}:∀{l:List SBranch},(∀c∈l,c.1≠b.1)→l.Pairwise (fun a b=>cmpS a.1 b.1<0)→(insB b l).Pairwise (fun a b=>cmpS a.1 b.1<0)
 | [],_,_=>by simp [insB]
 | c::l,hn,h=>by
  rw [List.pairwise_cons] at h
  unfold insB
  split
  ·rename_i hlt
   refine List.pairwise_cons.2 ⟨fun x hx=>?_,List.pairwise_cons.2 h⟩
   rcases List.mem_cons.1 hx with rfl | hx
   ·exact hlt
   ·exact cmpS_trans hlt (h.1 x hx)
  ·rename_i hge
   refine List.pairwise_cons.2 ⟨fun x hx=>?_,insB_srt (fun x hx=>hn x (by simp [hx])) h.2⟩
   rcases List.mem_cons.1 ((insB_perm b l).mem_iff.1 hx) with rfl | hx
   ·have h1:=cmpS_anti x.1 c.1
    have h2:cmpS x.1 c.1≠0:=fun e=>hn c (by simp) (zdl.1 e).symm
    omega
   ·exact h.1 x hx
theorem srtB_srt:∀{l:List SBranch},(l.map (·.1)).Nodup→(srtB l).Pairwise (fun a b=>cmpS a.1 b.1<0)
 | [],_=>List.Pairwise.nil
 | b::l,h=>by
  rw [List.map_cons,List.nodup_cons] at h
  refine insB_srt (fun c hc e=>h.1 ?_) (srtB_srt h.2)
  rw [← e]
  exact List.mem_map.2 ⟨c,(srtB_perm l).mem_iff.1 hc,rfl⟩
theorem MapF.can {f:List SItem→Nat} {m:List (Str × SBranch)} (h:MapF f m) {out:List SBranch} (hp:out.Perm (m.map (·.2))):(out.map (·.1)).Nodup∧Can f (srtB out):=by
 have hk:m.map (·.1)=(m.map (·.2)).map (fun b=>keyS b.1):=by
  rw [List.map_map]
  apply List.map_congr_left
  rintro ⟨k,b⟩ hm
  exact ((h.mem k b).1 hm).1
 have hn:((m.map (·.2)).map (·.1)).Nodup:=by
  have h1:=h.kn
  unfold KN at h1
  rw [hk] at h1
  have e:(m.map (·.2)).map (fun b=>keyS b.1)=((m.map (·.2)).map (·.1)).map keyS:=by rw [List.map_map (f:=fun b:SBranch=>b.1)];rfl
  rw [e] at h1
  exact List.Pairwise.imp (fun {a b} hab he=>hab (by rw [he])) (List.pairwise_map.1 h1)
 have hn2:(out.map (·.1)).Nodup:=(hp.map (·.1)).nodup_iff.2 hn
 refine ⟨hn2,srtB_srt hn2,fun t c=>?_⟩
 rw [(srtB_perm out).mem_iff,hp.mem_iff,List.mem_map]
 constructor
 ·rintro ⟨⟨k,b⟩,hm,e⟩
  simp only at e
  subst e
  exact ((h.mem k _).1 hm).2
 ·rintro h1
  exact ⟨(keyS t,(t,c)),(h.mem _ _).2 ⟨rfl,h1⟩,rfl⟩
end Go.Proofs.YtahgmdbioafmbaaGreatDoor.V
namespace Go.Proofs.YtahgmdbioafmbaaGreatDoor.VD
open Go
set_option linter.unusedVariables false
def En.cat {α β:Type} (E:En α) (F:En β):En (α × β) where
 sz:=E.sz+F.sz
 agg:=true
 R:=fun w S cs x=>∃a b,cs=a++b∧E.R w S a x.1∧F.R w S b x.2
 sc:=fun h=>by cases h
 pos:=Nat.add_pos_left E.pos _
 len:=by rintro _ _ _ _ ⟨a,b,rfl,h1,h2⟩;rw [List.length_append,E.len h1,F.len h2]
 one:=by
  rintro _ _ _ _ ⟨a,b,rfl,h1,h2⟩ u hu
  rcases List.mem_append.1 hu with h | h
  ·exact E.one h1 u h
  ·exact F.one h2 u h
 mono:=by rintro w S S' cs x h ⟨a,b,rfl,h1,h2⟩;exact ⟨a,b,rfl,E.mono h h1,F.mono h h2⟩
 move:=by rintro w w' S cs x h ⟨a,b,rfl,h1,h2⟩;exact ⟨a,b,rfl,E.move h h1,F.move h h2⟩
structure Prt {α β:Type} (E:En α) (off:Nat) (E':En β) (x:α) (y:β):Prop where
 le:off+E'.sz≤E.sz
 get:∀w S cs,E.R w S cs x→E'.R w S ((cs.drop off).take E'.sz) y
section
variable {α β γ : Type} {E : En α} {E' : En β} {F : En γ} {off off' : Nat} {y : β}
theorem zj (E:En α) (x:α):Prt E 0 E x x:=⟨by simp,fun w S cs h=>by rw [List.drop_zero,List.take_of_length_le (by rw [E.len h];exact Nat.le_refl _)];exact h⟩
theorem zn {x:α × γ} (h:Prt E off E' x.1 y):Prt (E.cat F) off E' x y:=
 ⟨Nat.le_trans h.le (Nat.le_add_right _ _),fun w S cs ⟨a,b,e,h1,h2⟩=>by
  subst e
  have hl:=E.len h1
  have:=h.le
  have e:((a++b).drop off).take E'.sz=(a.drop off).take E'.sz:=by
   rw [List.drop_append_of_le_length (by omega),List.take_append_of_le_length (by simp;omega)]
  rw [e];exact h.get w S a h1⟩
theorem zg {x:γ × α} (h:Prt E off E' x.2 y) (ho:off'=F.sz+off):Prt (F.cat E) off' E' x y:=
 ⟨by rw [ho,Nat.add_assoc];exact Nat.add_le_add_left h.le _,fun w S cs ⟨a,b,e,h1,h2⟩=>by
  subst e
  rw [ho,← F.len h1,List.drop_length_add_append]
  exact h.get w S b h2⟩
end
theorem zcm.sub {w:World} {b o:Nat} {cs:List Value} (h:zcm w b o cs) (off n:Nat):zcm w b (o+off) ((cs.drop off).take n):=fun j u hu=>by
 rw [Nat.add_assoc]
 refine h (off+j) u ?_
 rw [List.getElem?_take] at hu
 split at hu
 ·rwa [List.getElem?_drop] at hu
 ·cases hu
section
variable {P : Program} {ops : Array Oper} {o : Oper} {L : Lst}
theorem run_fieldAt {β:Type} {E':En β} {t:TypeId} {fs:Array Field} {f:Nat} {fd:Field} (ht:P.underlying t=some (.struct fs)) (hf:fs[f]?=some fd) (hE:Ty P fd.type E') (b o:Nat) (w:World):
  (Instr.fieldAt t (.pointer (some ⟨b,o,none⟩)) f).run P w = .ok (.pointer (some ⟨b,o+fd.offset,none⟩)) w:=by
 unfold Instr.fieldAt
 simp only [Sem.run_bind,run_underlying ht,Result.andThen_ok,hf,Instr.sureAddr,Sem.run_pure,fieldPlace,zbd hE]
 rw [if_neg (by have:=E'.pos;omega)]
 simp [zdo]
theorem t_fa {α β:Type} {E:En α} {E':En β} {a:α} {y:β} {x:Operand} {t:TypeId} {fs:Array Field} {f off:Nat} {fd:Field} (hx:Opn L x (Pd.ptr E a)) (ht:P.underlying t=some (.struct fs)) (hf:fs[f]?=some fd) (hp:Prt E off E' a y) (hq:fd.offset=off) (hE:Ty P fd.type E')
  (ho:o.op = .fieldAddr t x f) (hg:o.guard=none):T P ops o L (Pd.ptr E' y):=
 T.pure hg fun M n s0 ac s hL=>by
  obtain ⟨b,o',cs,hv,hb,hc,hR⟩:=hx M n s0 ac s hL
  refine ⟨.pointer (some ⟨b,o'+fd.offset,none⟩), ?_,b,o'+fd.offset,_,rfl,hb,hq ▸ hc.sub off E'.sz,hp.get _ _ _ hR⟩
  unfold execOp;rw [ho]
  simp only [hv,Sem.run_bind,run_fieldAt ht hf hE,Result.andThen_ok,Sem.run_pure]
end
section
variable {P : Program} {ops : Array Oper} {o : Oper} {L : Lst}
end
end Go.Proofs.YtahgmdbioafmbaaGreatDoor.VD
namespace Go.Proofs.YtahgmdbioafmbaaGreatDoor.VD
open Go Go.Proofs.YtahgmdbioafmbaaGreatDoor.V
set_option linter.unusedVariables false
set_option maxRecDepth 100000
noncomputable abbrev En.SItem:En SItem:=(En.cat (En.int .i64) (En.cat (En.int .i64) (En.cat (En.int .i64) (En.int .i64))))
noncomputable abbrev EnF137:En (SItem × SItem × Int→Prop):=En.fun Tryz.prog (fun q=>[Pd.rep En.SItem q.1,Pd.rep En.SItem q.2.1]) (fun q=>Rq (Pd.rep (En.int .i64) q.2.2))
noncomputable abbrev En.SBranch:En SBranch:=(En.cat (En.slice En.SItem) (En.int .i64))
theorem ty3:Ty Tryz.prog 3 (En.int .i64):=⟨⟨_,_,rfl,rfl,rfl,rfl,by decide⟩,_,rfl,rfl⟩
theorem ty47:Ty Tryz.prog 47 (En.slice En.SItem):=⟨⟨_,_,rfl,rfl,rfl,rfl,by decide⟩,_,rfl,rfl⟩
theorem ty77:Ty Tryz.prog 77 En.SItem:=⟨⟨_,_,rfl,rfl,rfl,rfl,by decide⟩,_,rfl,rfl⟩
theorem tyz77:TyZ Tryz.prog 77 En.SItem ((0,0,0,0):SItem):=⟨_,_,([.int .i64 0]++([.int .i64 0]++([.int .i64 0]++[.int .i64 0]))),rfl,rfl,by rfl,fun _ _=>⟨_,_,rfl,⟨rfl,by decide⟩,⟨_,_,rfl,⟨rfl,by decide⟩,⟨_,_,rfl,⟨rfl,by decide⟩,⟨rfl,by decide⟩⟩⟩⟩⟩
end Go.Proofs.YtahgmdbioafmbaaGreatDoor.VD
namespace Go.Proofs.YtahgmdbioafmbaaGreatDoor.V
open Go
set_option linter.unusedVariables false
def next_frame (nv_:SNode) (ahead_:Int) (r_:(List SItem)):Prop:=r_=[(1,nv_.2.1,0,0),(5,0,ahead_,0)]
def next_step_node (s_:Sstep_next) (r_:((List SItem) × Bool)):Prop:=(((s_.1.1==8))=true→∃r6:(List SItem),next_frame s_.1 s_.2.2 r6∧r_=(r6,true))∧(((s_.1.1==8))=false→(((s_.1.1==9))=true→r_=([(4,s_.2.1.2.1,s_.2.2,0)],true))∧(((s_.1.1==9))=false→∃r13:Bool,class_Has s_.1.2.2.2.2.2.1 s_.2.2 r13∧r_=(([]:(List SItem)),r13)))
def next_step_text (s_:Sstep_next) (r_:((List SItem) × Bool)):Prop:=(InR .i64 (s_.2.1.2.2.1+1))∧∃b8:Bool,b8=((s_.2.1.2.2.1+1)==(s_.1.2.2.2.2.2.2.length:Int))∧((b8)=true→∃c11:Int,byte? s_.1.2.2.2.2.2.2 s_.2.1.2.2.1=some c11∧r_=(([]:(List SItem)),(c11==s_.2.2)))∧((b8)=false→∃c16:Int,byte? s_.1.2.2.2.2.2.2 s_.2.1.2.2.1=some c16∧r_=([(s_.2.1.1,s_.2.1.2.1,s_.2.1.2.2.1+1,s_.2.1.2.2.2)],(c16==s_.2.2)))
def next_step_half (s_:Sstep_next) (r_:((List SItem) × Bool)):Prop:=(InR .i64 (256*s_.2.1.2.2.1))∧(InR .i64 ((256*s_.2.1.2.2.1)+s_.2.2))∧∃r5:(List SItem),next_frame s_.1 ((256*s_.2.1.2.2.1)+s_.2.2) r5∧r_=(r5,true)
def next_On_1 (a_:SBranch) (b_:SBranch) (r_:Int):Prop:=∃r3:Int,item_Compare a_.1 b_.1 r3∧r_=r3
def dyn0 (f_:Option Nat) (x0_:Sstep_next) (r_:((List SItem) × Bool)):Prop:=(f_=some 209∧next_step_node x0_ r_)∨(f_=some 210∧next_step_text x0_ r_)∨(f_=some 207∧next_step_half x0_ r_)
def next_Read (d_:SDesc) (s_:(List SItem)) (cv_:Int) (r_:((List SItem) × Bool)):Prop:=((((s_.length:Int)==0))=true→r_=(([]:(List SItem)),false))∧((((s_.length:Int)==0))=false→((0:Int)≤1∧1≤(s_.length:Int))∧∃r7:((List SItem) × Bool),zch (s_.drop (1:Int).toNat) r7∧∃e10:SItem,at? s_ 0=some e10∧((((!r7.2)||(!(mhas gfm0 e10.1))))=true→r_=(([]:(List SItem)),false))∧((((!r7.2)||(!(mhas gfm0 e10.1))))=false→∃e16:SItem,at? s_ 0=some e16∧∃e18:SNode,at? d_ e16.2.1=some e18∧∃e20:SItem,at? s_ 0=some e20∧∃r22:((List SItem) × Bool),dyn0 (mget gfm0 e10.1 none) (e18,e20,cv_) r22∧(((!r22.2))=true→r_=(([]:(List SItem)),false))∧(((!r22.2))=false→∃r28:(List SItem),zi [r22.1,r7.1] r28∧r_=(r28,true))))
def zbn.j1 (r_:(List SBranch)) (out17:(List SBranch)):Prop:=∃r21:(List SBranch),sort_next_On_1 out17 r21∧r_=r21
def zbn.l1 (many9:(List (Str × Int))) (out11:(List SBranch)) (X1:(List SBranch)→Prop):Nat→(List SBranch)→Int→Prop
 | 0,_,_=>False
 | k_0+1,out24,v26=>((decide (v26<(out11.length:Int)))=true→∃e35:SBranch,at? out24 v26=some e35∧∃r37:Str,item_Key e35.1 r37∧∃e39:SBranch,at? out24 v26=some e39∧(InR .i64 (v26+1))∧zbn.l1 many9 out11 X1 k_0 (out24.set (v26:Int).toNat (e39.1,(mget many9 r37 0))) (v26+1))∧((decide (v26<(out11.length:Int)))=false→X1 out24)
def zbn.j2 (r_:(List SBranch)) (many9:(List (Str × Int))) (out11:(List SBranch)):Prop:=∃k27,zbn.l1 many9 out11 (zbn.j1 r_) k27 out11 0
def zbn.j3 (L2_:(List (Str × Int))→(List SBranch)→Int→Prop) (many42:(List (Str × Int))) (v46:Int) (e55:SBranch) (r67:Str) (out71:(List SBranch)):Prop:=(InR .i64 ((mget many42 r67 0)+e55.2))∧(InR .i64 (v46+1))∧L2_ (mput many42 r67 (min ((mget many42 r67 0)+e55.2) 2)) out71 (v46+1)
def zbn.l2 (d_:SDesc) (cv_:Int) (r7:(List SBranch)) (X2:(List (Str × Int))→(List SBranch)→Prop):Nat→(List (Str × Int))→(List SBranch)→Int→Prop
 | 0,_,_,_=>False
 | k_0+1,many42,out44,v46=>((decide (v46<(r7.length:Int)))=true→∃e55:SBranch,at? r7 v46=some e55∧∃r61:((List SItem) × Bool),next_Read d_ e55.1 cv_ r61∧(((!r61.2))=true→(InR .i64 (v46+1))∧zbn.l2 d_ cv_ r7 X2 k_0 many42 out44 (v46+1))∧(((!r61.2))=false→∃r67:Str,item_Key r61.1 r67∧((((mget many42 r67 0)==0))=true→(out44.length+[(r61.1,0)].length≤2147483648)∧(zbn.j3 (zbn.l2 d_ cv_ r7 X2 k_0) many42 v46 e55 r67) (out44++[(r61.1,0)]))∧((((mget many42 r67 0)==0))=false→(zbn.j3 (zbn.l2 d_ cv_ r7 X2 k_0) many42 v46 e55 r67) out44)))∧((decide (v46<(r7.length:Int)))=false→X2 many42 out44)
def zbn (d_:SDesc) (s_:(List SItem)) (cv_:Int) (r_:(List SBranch)):Prop:=∃r7:(List SBranch),heads_Heads d_ s_ r7∧∃k47,zbn.l2 d_ cv_ r7 (zbn.j2 r_) k47 ([]:(List (Str × Int))) ([]:(List SBranch)) 0
def zcq.j1 (r_:Int):Prop:=r_=0
def zcq.l1 (r4:(List SBranch)) (r_:Int) (X1:Prop):Nat→Int→Prop
 | 0,_=>False
 | k_0+1,v8=>((decide (v8<(r4.length:Int)))=true→∃e16:SBranch,at? r4 v8=some e16∧((((e16.1.length:Int)==0))=true→r_=e16.2)∧((((e16.1.length:Int)==0))=false→(InR .i64 (v8+1))∧zcq.l1 r4 r_ X1 k_0 (v8+1)))∧((decide (v8<(r4.length:Int)))=false→X1)
def zcq (d_:SDesc) (s_:(List SItem)) (r_:Int):Prop:=∃r4:(List SBranch),heads_Heads d_ s_ r4∧∃k9,zcq.l1 r4 r_ (zcq.j1 r_) k9 0
def zbq.j1 (r_:(List Cl)) (out5:(List Cl)):Prop:=r_=out5
def zbq.l1 (X1:(List Cl)→Prop):Nat→(List Cl)→Int→Prop
 | 0,_,_=>False
 | k_0+1,out9,v11=>((decide (v11<256))=true→∃r19:Cl,zda (v11 % 256) (v11 % 256) r19∧(out9.length+[r19].length≤2147483648)∧(InR .i64 (v11+1))∧zbq.l1 X1 k_0 (out9++[r19]) (v11+1))∧((decide (v11<256))=false→X1 out9)
def zbq  (r_:(List Cl)):Prop:=∃k12,zbq.l1 (zbq.j1 r_) k12 ([]:(List Cl)) 0
def zba.j1 (r_:(List Cl)) (out7:(List Cl)):Prop:=r_=out7
def zba.l1 (d_:SDesc) (r5:(List SBranch)) (X1:(List Cl)→Prop):Nat→(List Cl)→Int→Prop
 | 0,_,_=>False
 | k_0+1,out11,v13=>((decide (v13<(r5.length:Int)))=true→∃e21:SBranch,at? r5 v13=some e21∧((((e21.1.length:Int)==0))=true→(InR .i64 (v13+1))∧zba.l1 d_ r5 X1 k_0 out11 (v13+1))∧((((e21.1.length:Int)==0))=false→∃e29:SItem,at? e21.1 0=some e29∧∃e35:SNode,at? d_ e29.2.1=some e35∧(((e29.1==3))=true→∃c41:Int,byte? e35.2.2.2.2.2.2 e29.2.2.1=some c41∧∃c43:Int,byte? e35.2.2.2.2.2.2 e29.2.2.1=some c43∧∃r45:Cl,zda c41 c43 r45∧(out11.length+[r45].length≤2147483648)∧(InR .i64 (v13+1))∧zba.l1 d_ r5 X1 k_0 (out11++[r45]) (v13+1))∧(((e29.1==3))=false→(((e35.1==2))=true→(out11.length+[e35.2.2.2.2.2.1].length≤2147483648)∧(InR .i64 (v13+1))∧zba.l1 d_ r5 X1 k_0 (out11++[e35.2.2.2.2.2.1]) (v13+1))∧(((e35.1==2))=false→∃r54:(List Cl),zbq  r54∧(out11.length+r54.length≤2147483648)∧(InR .i64 (v13+1))∧zba.l1 d_ r5 X1 k_0 (out11++r54) (v13+1)))))∧((decide (v13<(r5.length:Int)))=false→X1 out11)
def zba (d_:SDesc) (s_:(List SItem)) (r_:(List Cl)):Prop:=∃r5:(List SBranch),heads_Heads d_ s_ r5∧∃k14,zba.l1 d_ r5 (zba.j1 r_) k14 ([]:(List Cl)) 0
def ref15_Read (d_:SDesc) (s_:(List SItem)) (cv_:Int) (r_:((List SItem) × Bool)):Prop:=((((s_.length:Int)==0))=true→r_=(([]:(List SItem)),false))∧((((s_.length:Int)==0))=false→((0:Int)≤1∧1≤(s_.length:Int))∧∃r7:((List SItem) × Bool),zbu (s_.drop (1:Int).toNat) r7∧(((!r7.2))=true→r_=(([]:(List SItem)),false))∧(((!r7.2))=false→∃e13:SItem,at? s_ 0=some e13∧∃e17:SNode,at? d_ e13.2.1=some e17∧(((e13.1==3))=true→∃c30:Int,byte? e17.2.2.2.2.2.2 e13.2.2.1=some c30∧(((c30 != cv_))=true→r_=(([]:(List SItem)),false))∧(((c30 != cv_))=false→(InR .i64 (e13.2.2.1+1))∧∃b35:Bool,b35=(decide (e13.2.2.1+1<(e17.2.2.2.2.2.2.length:Int)))∧((b35)=true→(InR .i64 (e13.2.2.1+1))∧([(3,e13.2.1,e13.2.2.1+1,0)].length+r7.1.length≤2147483648)∧r_=([(3,e13.2.1,e13.2.2.1+1,0)]++r7.1,true))∧((b35)=false→(([]:(List SItem)).length+r7.1.length≤2147483648)∧r_=(([]:(List SItem))++r7.1,true))))∧(((e13.1==3))=false→(((e13.1==4))=true→(InR .i64 (256*e13.2.2.1))∧(InR .i64 ((256*e13.2.2.1)+cv_))∧([(1,e17.2.1,0,0),(5,0,(256*e13.2.2.1)+cv_,0)].length+r7.1.length≤2147483648)∧r_=([(1,e17.2.1,0,0),(5,0,(256*e13.2.2.1)+cv_,0)]++r7.1,true))∧(((e13.1==4))=false→(((e17.1==8))=true→([(1,e17.2.1,0,0),(5,0,cv_,0)].length+r7.1.length≤2147483648)∧r_=([(1,e17.2.1,0,0),(5,0,cv_,0)]++r7.1,true))∧(((e17.1==8))=false→(((e17.1==9))=true→([(4,e13.2.1,cv_,0)].length+r7.1.length≤2147483648)∧r_=([(4,e13.2.1,cv_,0)]++r7.1,true))∧(((e17.1==9))=false→∃r75:Bool,zcp e17.2.2.2.2.2.1 cv_ r75∧(((!r75))=true→r_=(([]:(List SItem)),false))∧(((!r75))=false→(([]:(List SItem)).length+r7.1.length≤2147483648)∧r_=(([]:(List SItem))++r7.1,true))))))))
def zd6.j1 (r_:(List SBranch)) (out8:(List SBranch)):Prop:=r_=out8
def zd6.l1 (d_:SDesc) (cv_:Int) (r3:(List SBranch)) (X1:(List SBranch)→Prop):Nat→(List SBranch)→Int→Prop
 | 0,_,_=>False
 | k_0+1,out12,i14=>((decide (i14<(r3.length:Int)))=true→∃e22:SBranch,at? r3 i14=some e22∧∃r24:((List SItem) × Bool),ref15_Read d_ e22.1 cv_ r24∧((r24.2)=true→∃e29:SBranch,at? r3 i14=some e29∧∃r31:(List SBranch),zc8 out12 r24.1 e29.2 r31∧(InR .i64 (i14+1))∧zd6.l1 d_ cv_ r3 X1 k_0 r31 (i14+1))∧((r24.2)=false→(InR .i64 (i14+1))∧zd6.l1 d_ cv_ r3 X1 k_0 out12 (i14+1)))∧((decide (i14<(r3.length:Int)))=false→X1 out12)
def zd6 (d_:SDesc) (s_:(List SItem)) (cv_:Int) (r_:(List SBranch)):Prop:=∃r3:(List SBranch),ref14_Heads d_ s_ r3∧∃k15,zd6.l1 d_ cv_ r3 (zd6.j1 r_) k15 ([]:(List SBranch)) 0
def zdw.j1 (r_:Int):Prop:=r_=0
def zdw.l1 (r3:(List SBranch)) (r_:Int) (X1:Prop):Nat→Int→Prop
 | 0,_=>False
 | k_0+1,i9=>((decide (i9<(r3.length:Int)))=true→∃e17:SBranch,at? r3 i9=some e17∧((((e17.1.length:Int)==0))=true→∃e20:SBranch,at? r3 i9=some e20∧r_=e20.2)∧((((e17.1.length:Int)==0))=false→(InR .i64 (i9+1))∧zdw.l1 r3 r_ X1 k_0 (i9+1)))∧((decide (i9<(r3.length:Int)))=false→X1)
def zdw (d_:SDesc) (s_:(List SItem)) (r_:Int):Prop:=∃r3:(List SBranch),ref14_Heads d_ s_ r3∧∃k10,zdw.l1 r3 r_ (zdw.j1 r_) k10 0
def z8.j1 (r_:(List Cl)) (out8:(List Cl)):Prop:=r_=out8
def z8.j2 (L1_:(List Cl)→Int→Prop) (i14:Int) (out54:(List Cl)):Prop:=(InR .i64 (i14+1))∧L1_ out54 (i14+1)
def z8.l2 (X2:(List Cl)→Prop):Nat→(List Cl)→Int→Prop
 | 0,_,_=>False
 | k_0+1,out58,c60=>((decide (c60<256))=true→∃r67:Cl,zco (c60 % 256) (c60 % 256) r67∧(out58.length+[r67].length≤2147483648)∧(InR .i64 (c60+1))∧z8.l2 X2 k_0 (out58++[r67]) (c60+1))∧((decide (c60<256))=false→X2 out58)
def z8.l1 (d_:SDesc) (r3:(List SBranch)) (X1:(List Cl)→Prop):Nat→(List Cl)→Int→Prop
 | 0,_,_=>False
 | k_0+1,out12,i14=>((decide (i14<(r3.length:Int)))=true→∃e23:SBranch,at? r3 i14=some e23∧((((e23.1.length:Int)==0))=true→(InR .i64 (i14+1))∧z8.l1 d_ r3 X1 k_0 out12 (i14+1))∧((((e23.1.length:Int)==0))=false→∃e27:SBranch,at? r3 i14=some e27∧∃e29:SItem,at? e27.1 0=some e29∧∃e34:SNode,at? d_ e29.2.1=some e34∧(((e29.1==3))=true→∃c40:Int,byte? e34.2.2.2.2.2.2 e29.2.2.1=some c40∧∃c42:Int,byte? e34.2.2.2.2.2.2 e29.2.2.1=some c42∧∃r44:Cl,zco c40 c42 r44∧(out12.length+[r44].length≤2147483648)∧(InR .i64 (i14+1))∧z8.l1 d_ r3 X1 k_0 (out12++[r44]) (i14+1))∧(((e29.1==3))=false→((((e29.1==1)&&(e34.1==2)))=true→(out12.length+[e34.2.2.2.2.2.1].length≤2147483648)∧(InR .i64 (i14+1))∧z8.l1 d_ r3 X1 k_0 (out12++[e34.2.2.2.2.2.1]) (i14+1))∧((((e29.1==1)&&(e34.1==2)))=false→∃k61,z8.l2 (z8.j2 (z8.l1 d_ r3 X1 k_0) i14) k61 out12 0))))∧((decide (i14<(r3.length:Int)))=false→X1 out12)
def z8 (d_:SDesc) (s_:(List SItem)) (r_:(List Cl)):Prop:=∃r3:(List SBranch),ref14_Heads d_ s_ r3∧∃k15,z8.l1 d_ r3 (z8.j1 r_) k15 ([]:(List Cl)) 0
end Go.Proofs.YtahgmdbioafmbaaGreatDoor.V
namespace Go.Proofs.YtahgmdbioafmbaaGreatDoor.VD
open Go Go.Proofs.YtahgmdbioafmbaaGreatDoor.V
set_option linter.unusedVariables false
set_option maxRecDepth 100000
theorem cmp_isNaN_int_ok {x_:Int} {r_:Bool} (h:zd0 x_ r_):Fn Tryz.prog 132 [(Pd.rep (En.int .i64) x_)] (Rq (Pd.rep En.bool r_)):=by
 unfold zd0 at h
 refine fn_of Tryz.func132 J Tryz.ntmps132 (by rfl) (by simp) fun s0 a L=>?_
 refine wp_seq_k fun K1 hK1=>rg (sx 2 (zd o_b J J) L fun a s _ L=>?_)
 refine en' (hK1 _ _ ?_)
 refine wp_seq_k fun K2 hK2=>rg (sx 3 (zb (o_t 0 J) J J) L fun a s _ L=>?_)
 refine sx 4 (zb (o_t 0 J) J J) L fun a s _ L=>sx 5 (t_nei (o_t 3 J) (o_t 4 J) J J) L fun a s _ L=>sx 2 (zd (o_t 5 J) J J) L fun a s _ L=>en' (hK2 _ _ ?_)
 subst h
 exact wp_ret (retq J L J)
theorem zc9 {x_:Int} {y_:Int} {r_:Int} (h:zcr x_ y_ r_):Fn Tryz.prog 96 [(Pd.rep (En.int .i64) x_),(Pd.rep (En.int .i64) y_)] (Rq (Pd.rep (En.int .i64) r_)):=by
 unfold zcr at h
 refine fn_of Tryz.func96 J Tryz.ntmps96 (by rfl) (by simp) fun s0 a L=>?_
 refine wp_seq_k fun K1 hK1=>rg (sx 4 (zd oI J J) L fun a s _ L=>?_)
 refine en' (hK1 _ _ ?_)
 refine wp_seq_k fun K2 hK2=>?_
 obtain ⟨r3,h4,h⟩:=h
 refine rg (sx 7 (zb (o_t 0 J) J J) L fun a s _ L=>?_)
 refine sx 8 (zu (cmp_isNaN_int_ok h4) (xs:=[.tmp 7]) (.cons (o_t 7 J) .nil) J J) L fun a s _ L=>sx 5 (zd (o_t 8 J) J J) L fun a s _ L=>en' (hK2 _ _ ?_)
 refine wp_seq_k fun K5 hK5=>?_
 obtain ⟨r6,h7,h⟩:=h
 refine rg (sx 9 (zb (o_t 1 J) J J) L fun a s _ L=>?_)
 refine sx 10 (zu (cmp_isNaN_int_ok h7) (xs:=[.tmp 9]) (.cons (o_t 9 J) .nil) J J) L fun a s _ L=>sx 6 (zd (o_t 10 J) J J) L fun a s _ L=>en' (hK5 _ _ ?_)
 refine wp_seq_k fun K8 hK8=>wp_seq_k fun K9 hK9=>rg (sx 11 (zb (o_t 5 J) J J) L fun a s _ L=>?_)
 refine en' (hK9 _ _ ?_)
 refine cnd L J (fun hb_=>?_) (fun hb_=>?_)
 ·replace h:=h.1 hb_
  refine wp_seq_k fun K10 hK10=>wp_seq_k fun K11 hK11=>rg (sx 12 (zb (o_t 6 J) J J) L fun a s _ L=>?_)
  refine en' (hK11 _ _ ?_)
  refine cnd L J (fun hb_=>?_) (fun hb_=>?_)
  ·replace h:=h.1 hb_
   refine wp_seq_k fun K12 hK12=>rg (sx 4 (zd oI J J) L fun a s _ L=>?_)
   refine en' (hK12 _ _ ?_)
   subst h
   exact wp_ret (retq J L J)
  ·replace h:=h.2 hb_
   refine wp_skip ?_
   show K10 a s.w
   refine hK10 _ _ (wp_seq_k fun K13 hK13=>?_)
   refine rg (sx 4 (zd oI J J) L fun a s _ L=>?_)
   refine en' (hK13 _ _ ?_)
   subst h
   exact wp_ret (retq J L J)
 ·replace h:=h.2 hb_
  refine wp_skip ?_
  show K8 a s.w
  refine hK8 _ _ (wp_seq_k fun K14 hK14=>?_)
  refine wp_seq_k fun K15 hK15=>rg (sx 13 (zb (o_t 6 J) J J) L fun a s _ L=>?_)
  refine en' (hK15 _ _ ?_)
  refine cnd L J (fun hb_=>?_) (fun hb_=>?_)
  ·replace h:=h.1 hb_
   refine wp_seq_k fun K16 hK16=>rg (sx 4 (zd oI J J) L fun a s _ L=>?_)
   refine en' (hK16 _ _ ?_)
   subst h
   exact wp_ret (retq J L J)
  ·replace h:=h.2 hb_
   refine wp_skip ?_
   show K14 a s.w
   refine hK14 _ _ (wp_seq_k fun K17 hK17=>?_)
   refine wp_seq_k fun K18 hK18=>rg (sx 14 (zb (o_t 0 J) J J) L fun a s _ L=>?_)
   refine sx 15 (zb (o_t 1 J) J J) L fun a s _ L=>sx 16 (t_lss (o_t 14 J) (o_t 15 J) J J) L fun a s _ L=>en' (hK18 _ _ ?_)
   refine cnd L J (fun hb_=>?_) (fun hb_=>?_)
   ·replace h:=h.1 hb_
    refine wp_seq_k fun K19 hK19=>rg (sx 4 (zd oI J J) L fun a s _ L=>?_)
    refine en' (hK19 _ _ ?_)
    subst h
    exact wp_ret (retq J L J)
   ·replace h:=h.2 hb_
    refine wp_skip ?_
    show K17 a s.w
    refine hK17 _ _ (wp_seq_k fun K20 hK20=>?_)
    refine wp_seq_k fun K21 hK21=>rg (sx 17 (zb (o_t 0 J) J J) L fun a s _ L=>?_)
    refine sx 18 (zb (o_t 1 J) J J) L fun a s _ L=>sx 19 (t_gtr (o_t 17 J) (o_t 18 J) J J) L fun a s _ L=>en' (hK21 _ _ ?_)
    refine cnd L J (fun hb_=>?_) (fun hb_=>?_)
    ·replace h:=h.1 hb_
     refine wp_seq_k fun K22 hK22=>rg (sx 4 (zd oI J J) L fun a s _ L=>?_)
     refine en' (hK22 _ _ ?_)
     subst h
     exact wp_ret (retq J L J)
    ·replace h:=h.2 hb_
     refine wp_skip ?_
     show K20 a s.w
     refine hK20 _ _ (wp_seq_k fun K23 hK23=>?_)
     refine rg (sx 4 (zd oI J J) L fun a s _ L=>?_)
     refine en' (hK23 _ _ ?_)
     subst h
     exact wp_ret (retq J L J)
theorem zck {s1_:(List SItem)} {s2_:(List SItem)} {cmp_:(SItem × SItem × Int→Prop)} {r_:Int} (h:zh s1_ s2_ cmp_ r_):Fn Tryz.prog 97 [(Pd.rep (En.slice En.SItem) s1_),(Pd.rep (En.slice En.SItem) s2_),(Pd.rep EnF137 cmp_)] (Rq (Pd.rep (En.int .i64) r_)):=by
 unfold zh at h
 refine fn_of Tryz.func97 J Tryz.ntmps97 (by rfl) (by simp) fun s0 a L=>?_
 refine wp_seq_k fun K1 hK1=>rg (sx 6 (zd oI J J) L fun a s _ L=>?_)
 refine en' (hK1 _ _ ?_)
 refine wp_seq_k fun K2 hK2=>wp_seq_k fun K3 hK3=>rg (sx 11 (zb (o_t 0 J) J J) L fun a s _ L=>?_)
 refine sx 12 (t_len (o_t 11 J) Tryz.underlying47 J J) L fun a s _ L=>sx 13 (zb oI J J) L fun a s _ L=>en' (hK3 _ _ ?_)
 refine wp_block ?_
 have J4:∀(a:Act) (s:St),Has N0 39 s0 a s [(0,(Pd.rep (En.slice En.SItem) s1_)),(1,(Pd.rep (En.slice En.SItem) s2_))]→((zh.j1 s1_ s2_ r_))→K2 a s.w:=by
  intro a s L h
  unfold zh.j1 at h
  show K2 a s.w
  refine hK2 _ _ (wp_seq_k fun K5 hK5=>?_)
  refine wp_seq_k fun K6 hK6=>rg (sx 34 (zb (o_t 0 J) J J) L fun a s _ L=>?_)
  refine sx 35 (t_len (o_t 34 J) Tryz.underlying47 J J) L fun a s _ L=>sx 36 (zb (o_t 1 J) J J) L fun a s _ L=>sx 37 (t_len (o_t 36 J) Tryz.underlying47 J J) L fun a s _ L=>sx 38 (t_lss (o_t 35 J) (o_t 37 J) J J) L fun a s _ L=>en' (hK6 _ _ ?_)
  refine cnd L J (fun hb_=>?_) (fun hb_=>?_)
  ·replace h:=h.1 hb_
   refine wp_seq_k fun K7 hK7=>rg (sx 6 (zd oI J J) L fun a s _ L=>?_)
   refine en' (hK7 _ _ ?_)
   subst h
   exact wp_ret (retq J L J)
  ·replace h:=h.2 hb_
   refine wp_skip ?_
   show K5 a s.w
   refine hK5 _ _ (wp_seq_k fun K8 hK8=>?_)
   refine rg (sx 6 (zd oI J J) L fun a s _ L=>?_)
   refine en' (hK8 _ _ ?_)
   subst h
   exact wp_ret (retq J L J)
 obtain ⟨k10,h⟩:=h
 refine lpg (fun k11 a s=>∃(v9:Int),Has N0 39 s0 a s [(0,(Pd.rep (En.slice En.SItem) s1_)),(1,(Pd.rep (En.slice En.SItem) s2_)),(2,(Pd.rep EnF137 cmp_)),(11,(Pd.rep (En.slice En.SItem) s1_)),(12,(Pd.rep (En.int .i64) (s1_.length:Int))),(13,(Pd.rep (En.int .i64) v9))]∧zh.l1 s1_ s2_ cmp_ r_ (zh.j1 s1_ s2_ r_) k11 v9) k10 ⟨0,L.keep (.k 0 (.k 1 (.k 2 (.k 11 (.k 12 (.k 13 .nil)))))),h⟩ ?_
 rintro k11 a s ⟨v9,L,h⟩ KL12 hKL12
 cases k11 with
 | zero=>exact h.elim
 | succ k11=>
 unfold zh.l1 at h
 refine wp_seq_k fun K13 hK13=>rg (sx 14 (t_lss (o_t 13 J) (o_t 12 J) J J) L fun a s _ L=>?_)
 refine en' (hK13 _ _ ?_)
 refine wp_seq_k fun K14 hK14=>cnd L J (fun hb_=>?_) (fun hb_=>?_)
 ·replace h:=h.1 hb_
  refine wp_skip ?_
  show K14 a s.w
  refine hK14 _ _ (wp_seq_k fun K15 hK15=>?_)
  refine wp_block (wp_seq_k fun K16 hK16=>?_)
  obtain ⟨e17,h18,h⟩:=h
  refine rg (sx 15 (zb (o_t 13 J) J J) L fun a s _ L=>?_)
  refine sx 16 (t_idx (o_t 11 J) (o_t 13 J) h18 Tryz.underlying47 ty77 J J) L fun a s _ L=>sx 17 (zo ty77 (o_t 16 J) J J) L fun a s _ L=>zbb En.SItem (z:=(0,0,0,0)) 8 L tyz77 J J J J fun a s g19 hg_ L=>?_
  refine sx 7 (zd (o_t 15 J) J J) L fun a s _ L=>zca (L':=[(0,(Pd.rep (En.slice En.SItem) s1_)),(1,(Pd.rep (En.slice En.SItem) s2_)),(2,(Pd.rep EnF137 cmp_)),(7,(Pd.rep (En.int .i64) v9)),(11,(Pd.rep (En.slice En.SItem) s1_)),(12,(Pd.rep (En.int .i64) (s1_.length:Int))),(13,(Pd.rep (En.int .i64) v9))]) 8 L J (o_t 17 J) ty77 J J J (.k 0 (.k 1 (.k 2 (.k 7 (.k 11 (.k 12 (.k 13 .nil))))))) fun s L=>?_
  refine en' (hK16 _ _ ?_)
  refine wp_seq_k fun K20 hK20=>wp_seq_k fun K21 hK21=>rg (sx 18 (zb (o_t 7 J) J J) L fun a s _ L=>?_)
  refine sx 19 (zb (o_t 1 J) J J) L fun a s _ L=>sx 20 (t_len (o_t 19 J) Tryz.underlying47 J J) L fun a s _ L=>sx 21 (t_geq (o_t 18 J) (o_t 20 J) J J) L fun a s _ L=>en' (hK21 _ _ ?_)
  refine cnd L J (fun hb_=>?_) (fun hb_=>?_)
  ·replace h:=h.1 hb_
   refine wp_seq_k fun K22 hK22=>rg (sx 6 (zd oI J J) L fun a s _ L=>?_)
   refine en' (hK22 _ _ ?_)
   subst h
   exact wp_ret (retq J L J)
  ·replace h:=h.2 hb_
   refine wp_skip ?_
   show K20 a s.w
   refine hK20 _ _ (wp_seq_k fun K23 hK23=>?_)
   obtain ⟨e24,h25,h⟩:=h
   refine rg (sx 22 (zb (o_t 1 J) J J) L fun a s _ L=>?_)
   refine sx 23 (zb (o_t 7 J) J J) L fun a s _ L=>sx 24 (t_idx (o_t 22 J) (o_t 23 J) h25 Tryz.underlying47 ty77 J J) L fun a s _ L=>sx 25 (zo ty77 (o_t 24 J) J J) L fun a s _ L=>?_
   have lt_d27:=L.blt 8 rfl
   refine zbb En.SItem (z:=(0,0,0,0)) 9 L tyz77 J J J J fun a s g26 hg_ L=>?_
   have d27:Dis (some g26) (some g19):=Dis.newg hg_ lt_d27
   refine zca (L':=[(0,(Pd.rep (En.slice En.SItem) s1_)),(1,(Pd.rep (En.slice En.SItem) s2_)),(2,(Pd.rep EnF137 cmp_)),(8,(Pd.box En.SItem s0.w.heap.size g19 e17)),(11,(Pd.rep (En.slice En.SItem) s1_)),(12,(Pd.rep (En.int .i64) (s1_.length:Int))),(13,(Pd.rep (En.int .i64) v9))]) 9 L J (o_t 25 J) ty77 J J J (.k 0 (.k 1 (.k 2 (.cons (t:=8) J (Dis.bx (Dis.symm d27)) (.k 11 (.k 12 (.k 13 .nil))))))) fun s L=>?_
   refine en' (hK23 _ _ ?_)
   refine wp_seq_k fun K28 hK28=>?_
   obtain ⟨r29,h30,h⟩:=h
   refine rg (sx 26 (zb (o_t 2 J) J J) L fun a s _ L=>?_)
   refine sx 27 (zbh ty77 (o_t 8 J) J J) L fun a s _ L=>sx 28 (zbh ty77 (o_t 9 J) J J) L fun a s _ L=>sx 29 (t_callf (q:=(e17,e24,r29)) (o_t 26 J) h30 (xs:=[.tmp 27,.tmp 28]) (.cons (o_t 27 J) (.cons (o_t 28 J) .nil)) (fun _ _ _ h_=>h_) J J) L fun a s _ L=>sx 10 (zd (o_t 29 J) J J) L fun a s _ L=>en' (hK28 _ _ ?_)
   refine wp_seq_k fun K31 hK31=>rg (sx 30 (zb (o_t 10 J) J J) L fun a s _ L=>?_)
   refine sx 31 (t_nei (o_t 30 J) oI J J) L fun a s _ L=>en' (hK31 _ _ ?_)
   refine cnd L J (fun hb_=>?_) (fun hb_=>?_)
   ·replace h:=h.1 hb_
    refine wp_seq_k fun K32 hK32=>rg (sx 32 (zb (o_t 10 J) J J) L fun a s _ L=>?_)
    refine sx 6 (zd (o_t 32 J) J J) L fun a s _ L=>en' (hK32 _ _ ?_)
    subst h
    exact wp_ret (retq J L J)
   ·replace h:=h.2 hb_
    refine wp_skip ?_
    show K15 a s.w
    refine hK15 _ _ ?_
    obtain ⟨h33,h⟩:=h
    refine rg (sx 33 (t_add (o_t 13 J) oI h33 J J) L fun a s _ L=>?_)
    refine sx 13 (zb (o_t 33 J) J J) L fun a s _ L=>en' ?_
    exact hKL12 k11 a s (Nat.lt_succ_self _) ⟨(v9+1),L.keep (.k 0 (.k 1 (.k 2 (.k 11 (.k 12 (.k 13 .nil)))))),h⟩
 ·replace h:=h.2 hb_
  refine wp_exit ?_
  exact J4 a s (L.keep (.k 0 (.k 1 .nil))) h
theorem cmp_Or_int_ok {vals_:(List Int)} {r_:Int} (h:zcl vals_ r_):Fn Tryz.prog 99 [(Pd.rep (En.slice (En.int .i64)) vals_)] (Rq (Pd.rep (En.int .i64) r_)):=by
 unfold zcl at h
 refine fn_of Tryz.func99 J Tryz.ntmps99 (by rfl) (by simp) fun s0 a L=>?_
 refine wp_seq_k fun K1 hK1=>rg (sx 2 (zd oI J J) L fun a s _ L=>?_)
 refine en' (hK1 _ _ ?_)
 refine wp_seq_k fun K2 hK2=>rg (sx 3 (zd oI J J) L fun a s _ L=>?_)
 refine en' (hK2 _ _ ?_)
 refine wp_seq_k fun K3 hK3=>wp_seq_k fun K4 hK4=>rg (sx 6 (zb (o_t 0 J) J J) L fun a s _ L=>?_)
 refine sx 7 (t_len (o_t 6 J) Tryz.underlying91 J J) L fun a s _ L=>sx 8 (zb oI J J) L fun a s _ L=>en' (hK4 _ _ ?_)
 refine wp_block ?_
 have J5:∀(a:Act) (s:St),Has N0 18 s0 a s [(3,(Pd.rep (En.int .i64) 0))]→((zcl.j1 r_))→K3 a s.w:=by
  intro a s L h
  unfold zcl.j1 at h
  show K3 a s.w
  refine hK3 _ _ (wp_seq_k fun K6 hK6=>?_)
  refine rg (sx 17 (zb (o_t 3 J) J J) L fun a s _ L=>?_)
  refine sx 2 (zd (o_t 17 J) J J) L fun a s _ L=>en' (hK6 _ _ ?_)
  subst h
  exact wp_ret (retq J L J)
 obtain ⟨k8,h⟩:=h
 refine lpg (fun k9 a s=>∃(v7:Int),Has N0 18 s0 a s [(3,(Pd.rep (En.int .i64) 0)),(6,(Pd.rep (En.slice (En.int .i64)) vals_)),(7,(Pd.rep (En.int .i64) (vals_.length:Int))),(8,(Pd.rep (En.int .i64) v7))]∧zcl.l1 vals_ r_ (zcl.j1 r_) k9 v7) k8 ⟨0,L.keep (.k 3 (.k 6 (.k 7 (.k 8 .nil)))),h⟩ ?_
 rintro k9 a s ⟨v7,L,h⟩ KL10 hKL10
 cases k9 with
 | zero=>exact h.elim
 | succ k9=>
 unfold zcl.l1 at h
 refine wp_seq_k fun K11 hK11=>rg (sx 9 (t_lss (o_t 8 J) (o_t 7 J) J J) L fun a s _ L=>?_)
 refine en' (hK11 _ _ ?_)
 refine wp_seq_k fun K12 hK12=>cnd L J (fun hb_=>?_) (fun hb_=>?_)
 ·replace h:=h.1 hb_
  refine wp_skip ?_
  show K12 a s.w
  refine hK12 _ _ (wp_seq_k fun K13 hK13=>?_)
  refine wp_block (wp_seq_k fun K14 hK14=>?_)
  obtain ⟨e15,h16,h⟩:=h
  refine rg (sx 10 (t_idx (o_t 6 J) (o_t 8 J) h16 Tryz.underlying91 ty3 J J) L fun a s _ L=>?_)
  refine sx 11 (zo ty3 (o_t 10 J) J J) L fun a s _ L=>sx 5 (zd (o_t 11 J) J J) L fun a s _ L=>en' (hK14 _ _ ?_)
  refine wp_seq_k fun K17 hK17=>rg (sx 12 (zb (o_t 5 J) J J) L fun a s _ L=>?_)
  refine sx 13 (zb (o_t 3 J) J J) L fun a s _ L=>sx 14 (t_nei (o_t 12 J) (o_t 13 J) J J) L fun a s _ L=>en' (hK17 _ _ ?_)
  refine cnd L J (fun hb_=>?_) (fun hb_=>?_)
  ·replace h:=h.1 hb_
   refine wp_seq_k fun K18 hK18=>rg (sx 15 (zb (o_t 5 J) J J) L fun a s _ L=>?_)
   refine sx 2 (zd (o_t 15 J) J J) L fun a s _ L=>en' (hK18 _ _ ?_)
   subst h
   exact wp_ret (retq J L J)
  ·replace h:=h.2 hb_
   refine wp_skip ?_
   show K13 a s.w
   refine hK13 _ _ ?_
   obtain ⟨h19,h⟩:=h
   refine rg (sx 16 (t_add (o_t 8 J) oI h19 J J) L fun a s _ L=>?_)
   refine sx 8 (zb (o_t 16 J) J J) L fun a s _ L=>en' ?_
   exact hKL10 k9 a s (Nat.lt_succ_self _) ⟨(v7+1),L.keep (.k 3 (.k 6 (.k 7 (.k 8 .nil)))),h⟩
 ·replace h:=h.2 hb_
  refine wp_exit ?_
  exact J5 a s (L.keep (.k 3 .nil)) h
theorem item_Compare_1_ok {x_:SItem} {y_:SItem} {r_:Int} (h:zdb x_ y_ r_):Fn Tryz.prog 98 [(Pd.rep En.SItem x_),(Pd.rep En.SItem y_)] (Rq (Pd.rep (En.int .i64) r_)):=by
 unfold zdb at h
 refine fn_of Tryz.func98 J Tryz.ntmps98 (by rfl) (by simp) fun s0 a L=>?_
 refine wp_seq_k fun K1 hK1=>rg (sx 2 (t_box (o_t 0 J) J J) L fun a s _ L=>?_)
 refine sx 3 (t_box (o_t 1 J) J J) L fun a s _ L=>sx 4 (zd oI J J) L fun a s _ L=>en' (hK1 _ _ ?_)
 refine wp_seq_k fun K2 hK2=>?_
 obtain ⟨r3,h4,r5,h6,r7,h8,r9,h10,r11,h12,h⟩:=h
 refine rda zbk 22 [(Pd.ptr (En.int .i64) x_.1),(Pd.rep (En.int .i64) x_.1),(Pd.ptr (En.int .i64) y_.1),(Pd.rep (En.int .i64) y_.1),(Pd.rep (En.int .i64) r3),(Pd.ptr (En.int .i64) x_.2.1),(Pd.rep (En.int .i64) x_.2.1),(Pd.ptr (En.int .i64) y_.2.1),(Pd.rep (En.int .i64) y_.2.1),(Pd.rep (En.int .i64) r5),(Pd.ptr (En.int .i64) x_.2.2.1),(Pd.rep (En.int .i64) x_.2.2.1),(Pd.ptr (En.int .i64) y_.2.2.1),(Pd.rep (En.int .i64) y_.2.2.1),(Pd.rep (En.int .i64) r7),(Pd.ptr (En.int .i64) x_.2.2.2),(Pd.rep (En.int .i64) x_.2.2.2),(Pd.ptr (En.int .i64) y_.2.2.2),(Pd.rep (En.int .i64) y_.2.2.2),(Pd.rep (En.int .i64) r9),(Pd.rep (En.slice (En.int .i64)) [r3,r5,r7,r9]),(Pd.rep (En.int .i64) r11)] L (by kernel_rfl) J J ?_ ?_
 ·refine AllT.cons (t_fa (off:=0) (o_t 2 J) Tryz.underlying77 J (zn (zj _ _)) J ty3 J J) ?_
  refine AllT.cons (zo ty3 (o_t 5 J) J J) (AllT.cons (t_fa (off:=0) (o_t 3 J) Tryz.underlying77 J (zn (zj _ _)) J ty3 J J) ?_)
  refine AllT.cons (zo ty3 (o_t 7 J) J J) (AllT.cons (zu (zc9 h4) (xs:=[.tmp 6,.tmp 8]) (.cons (o_t 6 J) (.cons (o_t 8 J) .nil)) J J) ?_)
  refine AllT.cons (t_fa (off:=1) (o_t 2 J) Tryz.underlying77 J (zg (zn (zj _ _)) J) J ty3 J J) (AllT.cons (zo ty3 (o_t 10 J) J J) ?_)
  refine AllT.cons (t_fa (off:=1) (o_t 3 J) Tryz.underlying77 J (zg (zn (zj _ _)) J) J ty3 J J) (AllT.cons (zo ty3 (o_t 12 J) J J) ?_)
  refine AllT.cons (zu (zc9 h6) (xs:=[.tmp 11,.tmp 13]) (.cons (o_t 11 J) (.cons (o_t 13 J) .nil)) J J) (AllT.cons (t_fa (off:=2) (o_t 2 J) Tryz.underlying77 J (zg (zg (zn (zj _ _)) J) J) J ty3 J J) ?_)
  refine AllT.cons (zo ty3 (o_t 15 J) J J) (AllT.cons (t_fa (off:=2) (o_t 3 J) Tryz.underlying77 J (zg (zg (zn (zj _ _)) J) J) J ty3 J J) ?_)
  refine AllT.cons (zo ty3 (o_t 17 J) J J) (AllT.cons (zu (zc9 h8) (xs:=[.tmp 16,.tmp 18]) (.cons (o_t 16 J) (.cons (o_t 18 J) .nil)) J J) ?_)
  refine AllT.cons (t_fa (off:=3) (o_t 2 J) Tryz.underlying77 J (zg (zg (zg (zj _ _) J) J) J) J ty3 J J) (AllT.cons (zo ty3 (o_t 20 J) J J) ?_)
  refine AllT.cons (t_fa (off:=3) (o_t 3 J) Tryz.underlying77 J (zg (zg (zg (zj _ _) J) J) J) J ty3 J J) (AllT.cons (zo ty3 (o_t 22 J) J J) ?_)
  refine AllT.cons (zu (zc9 h10) (xs:=[.tmp 21,.tmp 23]) (.cons (o_t 21 J) (.cons (o_t 23 J) .nil)) J J) (AllT.cons (t_lit (xs:=[.tmp 9,.tmp 14,.tmp 19,.tmp 24]) (.cons (o_t 9 J) (.cons (o_t 14 J) (.cons (o_t 19 J) (.cons (o_t 24 J) .nil)))) Tryz.underlying91 ty3 J J (by decide) J J) ?_)
  refine AllT.cons (zu (cmp_Or_int_ok h12) (xs:=[.tmp 25]) (.cons (o_t 25 J) .nil) J J) ?_
  exact AllT.nil
 intro a s _ L
 refine sx 4 (zd (o_t 26 J) J J) L fun a s _ L=>en' (hK2 _ _ ?_)
 subst h
 exact wp_ret (retq J L J)
theorem item_Compare_ok {a_:(List SItem)} {b_:(List SItem)} {r_:Int} (h:item_Compare a_ b_ r_):Fn Tryz.prog 58 [(Pd.rep (En.slice En.SItem) a_),(Pd.rep (En.slice En.SItem) b_)] (Rq (Pd.rep (En.int .i64) r_)):=by
 unfold item_Compare at h
 refine fn_of Tryz.func58 J Tryz.ntmps58 (by rfl) (by simp) fun s0 a L=>?_
 refine wp_seq_k fun K1 hK1=>rg (sx 4 (zd oI J J) L fun a s _ L=>?_)
 refine en' (hK1 _ _ ?_)
 refine wp_seq_k fun K2 hK2=>wp_seq_k fun K3 hK3=>?_
 obtain ⟨r4,h5,h⟩:=h
 refine rg (sx 6 (zb (o_t 0 J) J J) L fun a s _ L=>?_)
 refine sx 7 (t_len (o_t 6 J) Tryz.underlying47 J J) L fun a s _ L=>sx 8 (zb (o_t 1 J) J J) L fun a s _ L=>sx 9 (t_len (o_t 8 J) Tryz.underlying47 J J) L fun a s _ L=>sx 10 (zu (zc9 h5) (xs:=[.tmp 7,.tmp 9]) (.cons (o_t 7 J) (.cons (o_t 9 J) .nil)) J J) L fun a s _ L=>sx 5 (zd (o_t 10 J) J J) L fun a s _ L=>en' (hK3 _ _ ?_)
 refine wp_seq_k fun K6 hK6=>rg (sx 11 (zb (o_t 5 J) J J) L fun a s _ L=>?_)
 refine sx 12 (t_nei (o_t 11 J) oI J J) L fun a s _ L=>en' (hK6 _ _ ?_)
 refine cnd L J (fun hb_=>?_) (fun hb_=>?_)
 ·replace h:=h.1 hb_
  refine wp_seq_k fun K7 hK7=>rg (sx 13 (zb (o_t 5 J) J J) L fun a s _ L=>?_)
  refine sx 4 (zd (o_t 13 J) J J) L fun a s _ L=>en' (hK7 _ _ ?_)
  subst h
  exact wp_ret (retq J L J)
 ·replace h:=h.2 hb_
  refine wp_skip ?_
  show K2 a s.w
  refine hK2 _ _ (wp_seq_k fun K8 hK8=>?_)
  obtain ⟨r9,h10,h⟩:=h
  refine rg (sx 14 (zb (o_t 0 J) J J) L fun a s _ L=>?_)
  refine sx 15 (zb (o_t 1 J) J J) L fun a s _ L=>sx 16 (zu (zck h10) (xs:=[.tmp 14,.tmp 15,.func 98]) (.cons (o_t 14 J) (.cons (o_t 15 J) (.cons (o_q (Pd.rep EnF137 (fun q_=>zdb q_.1 q_.2.1 q_.2.2)) (o_fun (call_of Tryz.func98 J (by rfl)) (fun q_ h_=>item_Compare_1_ok h_))) .nil))) J J) L fun a s _ L=>sx 4 (zd (o_t 16 J) J J) L fun a s _ L=>en' (hK8 _ _ ?_)
  subst h
  exact wp_ret (retq J L J)
theorem heads_Heads_1_ok {a_:SBranch} {b_:SBranch} {r_:Int} (h:heads_Heads_1 a_ b_ r_):Fn Tryz.prog 117 [(Pd.rep En.SBranch a_),(Pd.rep En.SBranch b_)] (Rq (Pd.rep (En.int .i64) r_)):=by
 unfold heads_Heads_1 at h
 refine fn_of Tryz.func117 J Tryz.ntmps117 (by rfl) (by simp) fun s0 a L=>?_
 refine wp_seq_k fun K1 hK1=>rg (sx 2 (t_box (o_t 0 J) J J) L fun a s _ L=>?_)
 refine sx 3 (t_box (o_t 1 J) J J) L fun a s _ L=>sx 4 (zd oI J J) L fun a s _ L=>en' (hK1 _ _ ?_)
 refine wp_seq_k fun K2 hK2=>?_
 obtain ⟨r3,h4,h⟩:=h
 refine rg (sx 5 (t_fa (off:=0) (o_t 2 J) Tryz.underlying82 J (zn (zj _ _)) J ty47 J J) L fun a s _ L=>?_)
 refine sx 6 (zo ty47 (o_t 5 J) J J) L fun a s _ L=>sx 7 (t_fa (off:=0) (o_t 3 J) Tryz.underlying82 J (zn (zj _ _)) J ty47 J J) L fun a s _ L=>sx 8 (zo ty47 (o_t 7 J) J J) L fun a s _ L=>sx 9 (zu (item_Compare_ok h4) (xs:=[.tmp 6,.tmp 8]) (.cons (o_t 6 J) (.cons (o_t 8 J) .nil)) J J) L fun a s _ L=>sx 4 (zd (o_t 9 J) J J) L fun a s _ L=>en' (hK2 _ _ ?_)
 subst h
 exact wp_ret (retq J L J)
theorem next_On_1_ok {a_:SBranch} {b_:SBranch} {r_:Int} (h:next_On_1 a_ b_ r_):Fn Tryz.prog 92 [(Pd.rep En.SBranch a_),(Pd.rep En.SBranch b_)] (Rq (Pd.rep (En.int .i64) r_)):=by
 unfold next_On_1 at h
 refine fn_of Tryz.func92 J Tryz.ntmps92 (by rfl) (by simp) fun s0 a L=>?_
 refine wp_seq_k fun K1 hK1=>rg (sx 2 (t_box (o_t 0 J) J J) L fun a s _ L=>?_)
 refine sx 3 (t_box (o_t 1 J) J J) L fun a s _ L=>sx 4 (zd oI J J) L fun a s _ L=>en' (hK1 _ _ ?_)
 refine wp_seq_k fun K2 hK2=>?_
 obtain ⟨r3,h4,h⟩:=h
 refine rg (sx 5 (t_fa (off:=0) (o_t 2 J) Tryz.underlying82 J (zn (zj _ _)) J ty47 J J) L fun a s _ L=>?_)
 refine sx 6 (zo ty47 (o_t 5 J) J J) L fun a s _ L=>sx 7 (t_fa (off:=0) (o_t 3 J) Tryz.underlying82 J (zn (zj _ _)) J ty47 J J) L fun a s _ L=>sx 8 (zo ty47 (o_t 7 J) J J) L fun a s _ L=>sx 9 (zu (item_Compare_ok h4) (xs:=[.tmp 6,.tmp 8]) (.cons (o_t 6 J) (.cons (o_t 8 J) .nil)) J J) L fun a s _ L=>sx 4 (zd (o_t 9 J) J J) L fun a s _ L=>en' (hK2 _ _ ?_)
 subst h
 exact wp_ret (retq J L J)
end Go.Proofs.YtahgmdbioafmbaaGreatDoor.VD
namespace Go.Proofs.YtahgmdbioafmbaaGreatDoor.V
open Go Go.Shelf Go.Sort
set_option linter.unusedVariables false
theorem cmpS_le {x y z:List SItem} (h1:cmpS x y≤0) (h2:cmpS y z≤0):cmpS x z≤0:=by
 rcases Int.lt_or_le (cmpS x y) 0 with a | a
 ·rcases Int.lt_or_le (cmpS y z) 0 with b | b
  ·have:=cmpS_trans a b;omega
  ·have e:cmpS y z=0:=by omega
   rw [← zdl.1 e];exact h1
 ·have e:cmpS x y=0:=by omega
  rw [zdl.1 e];exact h2
theorem swo_branch:SWO (Go.Proofs.ltOf fun x y:SBranch=>cmpS x.1 y.1):=swo_cmp (fun x=>cmpS_self _) (fun x y=>cmpS_anti _ _) fun x y z h1 h2=>cmpS_le h1 h2
theorem srtB_uniq {x y:List SBranch} (hn:(x.map (·.1)).Nodup) (hp:y.Perm x) (hs:y.Pairwise (fun a b=>¬ cmpS b.1 a.1<0)):y=srtB x:=by
 have hny:(y.map (·.1)).Nodup:=(hp.map (·.1)).nodup_iff.2 hn
 refine srt_uniq ?_ (srtB_srt hn) fun b=>by rw [hp.mem_iff,(srtB_perm x).mem_iff]
 have h2:y.Pairwise (fun a b=>a.1≠b.1):=List.pairwise_map.1 hny
 refine (hs.and h2).imp fun {a b} h=>?_
 have h3:=cmpS_anti b.1 a.1
 have h4:cmpS a.1 b.1≠0:=fun e=>h.2 (zdl.1 e)
 omega
theorem fm_branch {g:FuncId} (eg:∀(args:Array Value) (w:World),(callFunc g args).run Tryz.prog w = .ok (.enter g args) w) {x r:List SBranch} (hn:(x.map (·.1)).Nodup) (hl:x.length≤2147483648) (hr:r=srtB x)
  (hc:∀a∈x,∀b∈x,VD.Fn Tryz.prog g [VD.Pd.rep VD.En.SBranch a,VD.Pd.rep VD.En.SBranch b] (VD.Rq (VD.Pd.rep (VD.En.int .i64) (cmpS a.1 b.1)))) (v0:Value):
  Fm Tryz.prog 91 (fun b=>v0.ownBlock=some b) [Pd.prow En.SBranch 82 v0 x,Pd.is (.func (.func g) #[] #[])] (fun _ s' _=>(Pd.prow En.SBranch 82 v0 r).p s' v0):=by
 have h:=fm_sort slsort (E:=En.SBranch) (E':=VD.En.SBranch) (te:=82) (g:=g) (cf:=fun a b:SBranch=>cmpS a.1 b.1) rfl ty82 rfl rfl (fun h=>h) (call_of Tryz.func91 rfl (by rfl)) eg swo_branch hl hc v0
 refine ⟨h.call,fun s vs hg hM hv=>(h.run s vs hg hM hv).mono fun e w' ⟨v,s',he,hw,hfr,ys,hp,hs,hrow⟩=>⟨v,s',he,hw,hfr, ?_⟩⟩
 rw [hr,← srtB_uniq hn hp hs];exact hrow
theorem sort_heads_Heads_1_ok (v0:Value) {x r:List SBranch} (h:sort_heads_Heads_1 x r):Fm Tryz.prog 91 (fun b=>v0.ownBlock=some b) [Pd.prow En.SBranch 82 v0 x,Pd.is (.func (.func 117) #[] #[])] (fun _ s' _=>(Pd.prow En.SBranch 82 v0 r).p s' v0):=fm_branch (call_of Tryz.func117 rfl (by rfl)) h.1 h.2.2.1 h.2.2.2 (fun a ha b hb=>VD.heads_Heads_1_ok ⟨_,item_Compare_in (h.2.1 a ha),rfl⟩) v0
theorem o_isf {L:Lst} {f:FuncId}:Opn L (.func f) (Pd.is (.func (.func f) #[] #[])):=fun _ _ _ _ _ _=>rfl
end Go.Proofs.YtahgmdbioafmbaaGreatDoor.V
namespace Go.Proofs.YtahgmdbioafmbaaGreatDoor.V
open Go
set_option linter.unusedVariables false
set_option maxRecDepth 100000
noncomputable abbrev Efmp:En (List (Str × SBranch)):=En.fmap En.str kvStr En.SBranch
noncomputable abbrev Efinder:En (SDesc × Option Nat):=En.cat En.SDesc En.mref
theorem tyzFinder:TyZ Tryz.prog 161 Efinder (([],none):SDesc × Option Nat):=⟨_,_,([.slice none 0 0]++[.map none]),rfl,rfl,by rfl,fun _ _=>⟨[.slice none 0 0],[.map none],rfl,⟨_,rfl,slV_nil _ _ _⟩,rfl⟩⟩
theorem sttFinder:Stt Tryz.prog 161 [(0,1),(1,1)]:=⟨_,Tryz.underlying161,by kernel_rfl⟩
theorem tyMap:Ty Tryz.prog 159 En.mref:=⟨⟨_,_,rfl,rfl,rfl,rfl,by decide⟩,_,rfl,rfl⟩
theorem tyvMap:TyV Tryz.prog 162 Efmp []:=⟨_,[.map none],rfl,by rfl,fun _ _=>⟨_,rfl,.inl ⟨rfl,rfl⟩⟩⟩
theorem tyvBranch:TyV Tryz.prog 82 En.SBranch (([],0):SBranch):=⟨_,[.slice none 0 0]++[.int .i64 0],rfl,by rfl,fun _ _=>⟨_,_,rfl,⟨_,rfl,slV_nil _ _ _⟩,⟨rfl,by decide⟩⟩⟩
def GoodM (d:List SNode) (t:List SItem) (m:List (Str × SBranch)):Prop:=∃h l,lv d h t=some l∧MapF (fun u=>l.count u) m
def InvS (d:List SNode) (xs:List (Str × List (Str × SBranch))):Prop:=∀k m,(k,m)∈xs→∃t,k=keyS t∧GoodM d t m
theorem InvS.get {d:List SNode} {xs} (h:InvS d xs) {t:List SItem} (hm:mhas xs (keyS t)=true):GoodM d t (mget xs (keyS t) []):=by
 obtain ⟨t',e,hg⟩:=h _ _ (mget_in hm [])
 have:=keyS_iff.1 e
 subst this;exact hg
theorem InvS.put {d:List SNode} {xs} (h:InvS d xs) {t:List SItem} {m} (hg:GoodM d t m):InvS d (mput xs (keyS t) m):=by
 intro k m' hm
 rcases mput_mem.1 hm with e | ⟨_,hm⟩
 ·cases e;exact ⟨t,rfl,hg⟩
 ·exact h k m' hm
theorem InvS.nil (d:List SNode):InvS d []:=fun k m h=>by cases h
abbrev FndOk (d:List SNode) (g:Nat) (t:List SItem) (xs:List (Str × List (Str × SBranch))):Prop:=
 Fc Tryz.prog 116 En.str kvStr Efmp g xs [Pd.ptr Efinder (d,some g),Pd.rep (En.slice En.SItem) t] (fun i:List (Str × SBranch) × List (Str × List (Str × SBranch))=>GoodM d t i.1∧InvS d i.2) (fun i=>Pd.rep Efmp i.1) (fun i=>i.2)
theorem no_g {og:Option Nat} {g N:Nat} (hg:g<N) (h:∀b,og=some b→N≤b):∀b,og=some b→¬ some g=some b:=fun b hb e=>by cases e;have:=h g hb;omega
theorem no_o {og:Option Nat} {g N:Nat} (hg:g<N) (h:∀b,og=some b→N≤b):∀b,some g=some b→¬ og=some b:=fun b e hb=>by cases e;have:=h g hb;omega
structure Left (c:List SItem→Nat) (rem:List (Str × SBranch)):Prop where
 kn:KN rem
 ent:∀p∈rem,p.1=keyS p.2.1∧c p.2.1≠0∧p.2.2=sat (c p.2.1)
theorem MapF.left {c:List SItem→Nat} {m:List (Str × SBranch)} (h:MapF c m):Left c m:=⟨h.kn,fun p hp=>(h.mem p.1 p.2).1 hp⟩
theorem Left.perm {c:List SItem→Nat} {l m:List (Str × SBranch)} (h:Left c l) (hp:l.Perm m):Left c m:=⟨h.kn.perm hp,fun p hm=>h.ent p (hp.mem_iff.2 hm)⟩
theorem Left.tail {c:List SItem→Nat} {p:Str × SBranch} {l:List (Str × SBranch)} (h:Left c (p::l)):Left c l∧keyS p.2.1 ∉ l.map (·.1):=by
 have hk:=h.kn
 unfold KN at hk
 rw [List.map_cons,List.nodup_cons] at hk
 exact ⟨⟨hk.2,fun q hq=>h.ent q (by simp [hq])⟩,by rw [← (h.ent p (by simp)).1];exact hk.1⟩
def cnt (f c:List SItem→Nat) (rem:List (Str × SBranch)) (u:List SItem):Nat:=f u+if keyS u∈rem.map (·.1) then 0 else c u
theorem cnt_start {f c:List SItem→Nat} {m rem:List (Str × SBranch)} (h:MapF c m) (hp:m.Perm rem) (u:List SItem):cnt f c rem u=f u:=by
 unfold cnt
 by_cases hc:c u=0
 ·simp [hc]
 ·rw [if_pos];· rfl
  exact List.mem_map.2 ⟨(keyS u,(u,sat (c u))),hp.mem_iff.1 ((h.mem _ _).2 ⟨rfl,hc,rfl⟩),rfl⟩
theorem cnt_perm {f c:List SItem→Nat} {l m:List (Str × SBranch)} (hp:l.Perm m) (u:List SItem):cnt f c l u=cnt f c m u:=by
 unfold cnt
 have h:=(hp.map (·.1)).mem_iff (a:=keyS u)
 by_cases hu:keyS u∈l.map (·.1)
 ·rw [if_pos hu,if_pos (h.1 hu)]
 ·rw [if_neg hu,if_neg (fun k=>hu (h.2 k))]
theorem cnt_nil {f c:List SItem→Nat} (u:List SItem):cnt f c [] u=f u+c u:=by simp [cnt]
theorem cnt_step {f c:List SItem→Nat} {p:Str × SBranch} {l:List (Str × SBranch)} (h:Left c (p::l)) {out:List (Str × SBranch)} (ho:MapF (cnt f c (p::l)) out):
  MapF (cnt f c l) (mput out p.1 (p.2.1,min ((mget out p.1 (([],0):SBranch)).2+p.2.2) 2)):=by
 obtain ⟨h1,h2⟩:=h.tail
 obtain ⟨e1,e2,e3⟩:=h.ent p (by simp)
 rw [e1,e3]
 refine (ho.put p.2.1 e2).congr fun t=>?_
 unfold cnt
 simp only [List.map_cons,List.mem_cons,e1,keyS_iff]
 by_cases ht:t=p.2.1
 ·subst ht
  rw [if_pos (.inl rfl),if_neg h2,if_pos rfl];rfl
 ·simp only [ht,false_or,if_false,Nat.add_zero]
theorem mapM_len {α β:Type} {f:α→Option β}:∀{l:List α} {r:List β},l.mapM f=some r→r.length=l.length
 | [],r,h=>by simp at h;subst h;rfl
 | a::l,r,h=>by
  rw [List.mapM_cons] at h
  cases ha:f a with
  | none=>rw [ha] at h;simp at h
  | some b=>
   rw [ha] at h
   cases hl:l.mapM f with
   | none=>rw [hl] at h;simp at h
   | some bs=>
    rw [hl] at h
    have e:b::bs=r:=by simpa using h
    rw [← e];simp [mapM_len hl]
theorem mapM_at {α β:Type} {f:α→Option β}:∀{l:List α} {r:List β},l.mapM f=some r→∀{i:Nat} (hi:i<l.length),∃b,f l[i]=some b∧r[i]?=some b
 | [],r,_,i,hi=>by simp at hi
 | a::l,r,h,i,hi=>by
  rw [List.mapM_cons] at h
  cases ha:f a with
  | none=>rw [ha] at h;simp at h
  | some b=>
   rw [ha] at h
   cases hl:l.mapM f with
   | none=>rw [hl] at h;simp at h
   | some bs=>
    rw [hl] at h
    have e:b::bs=r:=by simpa using h
    subst e
    cases i with
    | zero=>exact ⟨b,ha,rfl⟩
    | succ i=>
     obtain ⟨b',h1,h2⟩:=mapM_at hl (i:=i) (by simpa using hi)
     exact ⟨b',by simpa using h1,by simpa using h2⟩
theorem take_flat {α:Type} {ls:List (List α)} {i:Nat} {l:List α} (h:ls[i]?=some l):(ls.take (i+1)).flatten=(ls.take i).flatten++l:=by
 have hi:=(List.getElem?_eq_some_iff.1 h).1
 have e:=(List.getElem?_eq_some_iff.1 h).2
 rw [List.take_succ_eq_append_getElem hi,e,List.flatten_append]
 simp
theorem find_step {d:List SNode} (hd:ROk d) (hk:DOk d) (hl4:d.length≤400) (g:Nat) {h:Nat} (ih:∀(t:List SItem) (l:List (List SItem)),lv d h t=some l→Vs d 400 t→∀xs,InvS d xs→FndOk d g t xs) (hd0:∃n,at? d 0=some n)
  {t:List SItem} {l:List (List SItem)} (hl:lv d (h+1) t=some l) (hv:Vs d 400 t) {xs:List (Str × List (Str × SBranch))} (hxs:InvS d xs):FndOk d g t xs:=by
 have htl:=hv.len
 refine fc_of Tryz.func116 rfl Tryz.ntmps116 (by rfl) (by simp) fun s0 a hL=>?_
 have hgs:g<s0.w.heap.size:=by
  obtain ⟨hX,_⟩:=hL.get 999902 rfl
  exact s0.lt g hX
 refine wp_seq_k fun K0 hK0=>?_
 refine rg ?_
 refine st 4 (zd (q:=Pd.any) (fun _ _ _ _ _ _=>trivial) rfl rfl) rfl rfl hL fun a s e_ hL=>?_
 refine en' ?_
 show K0 a s.w;refine hK0 _ _ ?_
 refine wp_seq_k fun K1 hK1=>?_
 refine rg ?_
 refine st 14 (zb (o_t 1 rfl) rfl rfl) rfl rfl hL fun a s e_ hL=>?_
 refine st 15 (zu (item_Key_ok (item_Key_in (s:=t) (by omega))) (xs:=[.tmp 14]) (.cons (o_t 14 rfl) .nil) rfl rfl) rfl rfl hL fun a s e_ hL=>?_
 refine st 5 (zd (o_t 15 rfl) rfl rfl) rfl rfl hL fun a s e_ hL=>?_
 refine en' ?_
 show K1 a s.w;refine hK1 _ _ ?_
 refine wp_seq_k fun K2 hK2=>?_
 refine wp_seq_k fun K3 hK3=>?_
 refine rg ?_
 refine st 17 (zb (o_t 0 rfl) rfl rfl) rfl rfl hL fun a s e_ hL=>?_
 refine st 18 (t_nc (o_t 17 rfl) ptr_some rfl rfl) rfl rfl hL fun a s e_ hL=>?_
 refine st 19 (t_fa (off:=1) (o_t 18 rfl) Tryz.underlying161 rfl (zg (zj _ _) rfl) rfl tyMap rfl rfl) rfl rfl hL fun a s e_ hL=>?_
 refine st 20 (zo tyMap (o_t 19 rfl) rfl rfl) rfl rfl hL fun a s e_ hL=>?_
 refine st 21 (zb (o_t 5 rfl) rfl rfl) rfl rfl hL fun a s e_ hL=>?_
 refine st 22 (t_mgetcok (m:=999902) rfl (o_t 20 rfl) (o_t 21 rfl) Tryz.underlying159 (zej Tryz.underlying9) tyvMap rfl rfl) rfl rfl hL fun a s e_ hL=>?_
 refine st 16 (zb (o_t 22 rfl) rfl rfl) rfl rfl hL fun a s e_ hL=>?_
 refine st 23 (t_ext0 (o_t 16 rfl) rfl rfl) rfl rfl hL fun a s e_ hL=>?_
 refine st 24 (t_ext1 (o_t 16 rfl) rfl rfl) rfl rfl hL fun a s e_ hL=>?_
 refine st 6 (zd (o_t 23 rfl) rfl rfl) rfl rfl hL fun a s e_ hL=>?_
 refine st 7 (zd (o_t 24 rfl) rfl rfl) rfl rfl hL fun a s e_ hL=>?_
 refine en' ?_
 show K3 a s.w;refine hK3 _ _ ?_
 refine wp_seq_k fun K4 hK4=>?_
 refine rg ?_
 refine st 25 (zb (o_t 7 rfl) rfl rfl) rfl rfl hL fun a s e_ hL=>?_
 refine en' ?_
 show K4 a s.w;refine hK4 _ _ ?_
 refine cnd hL rfl (fun hb_=>?_) (fun hb_=>?_)
 ·refine wp_seq_k fun K5 hK5=>?_
  refine rg ?_
  refine st 26 (zb (o_t 6 rfl) rfl rfl) rfl rfl hL fun a s e_ hL=>?_
  refine st 4 (zd (o_t 26 rfl) rfl rfl) rfl rfl hL fun a s e_ hL=>?_
  refine en' ?_
  show K5 a s.w;refine hK5 _ _ ?_
  exact wp_ret (retc (mget xs (keyS t) [],xs) ⟨hxs.get hb_,hxs⟩ rfl hL rfl rfl)
 refine wp_skip ?_
 show K2 a s.w;refine hK2 _ _ ?_
 refine wp_seq_k fun K6 hK6=>?_
 refine rg ?_
 refine st_mkmap 27 En.str kvStr En.SBranch hL rfl rfl rfl rfl fun a s g8 hg8 hL=>?_
 have hng:∀b,some g8=some b→s0.w.heap.size≤b:=fun b hb=>(map_lt (hL.get 27 rfl) b hb).1
 refine st 8 (zd (o_t 27 rfl) rfl rfl) rfl rfl hL fun a s e_ hL=>?_
 refine en' ?_
 show K6 a s.w;refine hK6 _ _ ?_
 refine wp_seq_k fun K7 hK7=>?_
 refine wp_seq_k fun K8 hK8=>?_
 refine rg ?_
 refine st 28 (zb (o_t 0 rfl) rfl rfl) rfl rfl hL fun a s e_ hL=>?_
 refine st 29 (t_nc (o_t 28 rfl) ptr_some rfl rfl) rfl rfl hL fun a s e_ hL=>?_
 refine st 30 (t_fa (off:=0) (o_t 29 rfl) Tryz.underlying161 rfl (zn (zj _ _)) rfl ty24 rfl rfl) rfl rfl hL fun a s e_ hL=>?_
 refine st 31 (zo ty24 (o_t 30 rfl) rfl rfl) rfl rfl hL fun a s e_ hL=>?_
 refine st 32 (zb (o_t 1 rfl) rfl rfl) rfl rfl hL fun a s e_ hL=>?_
 refine st 33 (zu (heads_Ready_ok (heads_Ready_in hd hv.form)) (xs:=[.tmp 31,.tmp 32]) (.cons (o_t 31 rfl) (.cons (o_t 32 rfl) .nil)) rfl rfl) rfl rfl hL fun a s e_ hL=>?_
 refine en' ?_
 show K8 a s.w;refine hK8 _ _ ?_
 refine cnd hL rfl (fun hb_=>?_) (fun hb_=>?_)
 ·have hgood:GoodM d t (mput [] (keyS t) (t,1)):=⟨1,[t],by simp [lv,hb_],MapF.one t⟩
  refine wp_seq_k fun K9 hK9=>?_
  refine rg ?_
  refine st 34 (zb (o_t 8 rfl) rfl rfl) rfl rfl hL fun a s e_ hL=>?_
  refine st 35 (zb (o_t 5 rfl) rfl rfl) rfl rfl hL fun a s e_ hL=>?_
  refine st 36 (zb (o_t 1 rfl) rfl rfl) rfl rfl hL fun a s e_ hL=>?_
  refine st 37 (zu (zc4 (clone_in (s:=t) (by omega))).frz (xs:=[.tmp 36]) (.cons (o_t 36 rfl) .nil) rfl rfl) rfl rfl hL fun a s e_ hL=>?_
  refine st 38 (zdn (x:=((t,1):SBranch)) (ps:=[(0,.tmp 37),(1,.const (.int .i64 1))]) tyz82 rfl stt82 (.cons (i:=0) (o_t 37 rfl) rfl (zbl (zy _ _ _)) (.cons (i:=1) (o_i (k:=.i64) (by decide)) rfl (z6 (zy _ _ _) rfl) .nil)) rfl rfl) rfl rfl hL fun a s e_ hL=>?_
  refine st_mputC (L':=[(0,Pd.ptr Efinder (d,some g)),(5,Pd.rep En.str (keyS t)),(8,Pd.map En.str kvStr En.SBranch s0.w.heap.size (some g8) (mput [] (keyS t) (t,1))),(999902,Pd.mapc En.str kvStr Efmp g xs)]) hL (o_t 34 rfl) (o_t 35 rfl) (o_t 38 rfl) Tryz.underlying162 (zej Tryz.underlying9) (.inl rfl) rfl rfl
   (.cons (t:=0) rfl (fun _ h_=>h_.elim) (.cons (t:=5) rfl (fun _ h_=>h_.elim) (.turn (t:=8) rfl (.cons (t:=999902) rfl (no_o hgs hng) .nil)))) fun s hL=>?_
  refine en' ?_
  show K9 a s.w;refine hK9 _ _ ?_
  refine wp_seq_k fun K10 hK10=>?_
  refine rg ?_
  obtain ⟨s2,hw2,hL⟩:=hL.freezem (L':=[(0,Pd.ptr Efinder (d,some g)),(5,Pd.rep En.str (keyS t)),(999902,Pd.mapc En.str kvStr Efmp g xs)]) 8 rfl (.cons (t:=0) rfl (fun _ h_=>h_.elim) (.cons (t:=5) rfl (fun _ h_=>h_.elim) (.cons (t:=999902) rfl (no_o hgs hng) .nil)))
  rw [← hw2];clear hw2;generalize s2=s at *
  refine st 39 (zb (o_t 0 rfl) rfl rfl) rfl rfl hL fun a s e_ hL=>?_
  refine st 40 (t_nc (o_t 39 rfl) ptr_some rfl rfl) rfl rfl hL fun a s e_ hL=>?_
  refine st 41 (t_fa (off:=1) (o_t 40 rfl) Tryz.underlying161 rfl (zg (zj _ _) rfl) rfl tyMap rfl rfl) rfl rfl hL fun a s e_ hL=>?_
  refine st 42 (zo tyMap (o_t 41 rfl) rfl rfl) rfl rfl hL fun a s e_ hL=>?_
  refine st 43 (zb (o_t 5 rfl) rfl rfl) rfl rfl hL fun a s e_ hL=>?_
  refine st 44 (zb (o_t 8 rfl) rfl rfl) rfl rfl hL fun a s e_ hL=>?_
  refine st_mputc (m:=999902) (L':=[(8,Pd.rep Efmp (mput [] (keyS t) (t,1)))]) hL rfl (.inl rfl) (o_t 42 rfl) (o_t 43 rfl) (o_t 44 rfl) Tryz.underlying159 (zej Tryz.underlying9) (.inl rfl) rfl rfl (.cons (t:=8) rfl (fun _ h_=>h_.elim) .nil) fun s hL=>?_
  refine en' ?_
  show K10 a s.w;refine hK10 _ _ ?_
  refine wp_seq_k fun K11 hK11=>?_
  refine rg ?_
  refine st 45 (zb (o_t 8 rfl) rfl rfl) rfl rfl hL fun a s e_ hL=>?_
  refine st 4 (zd (o_t 45 rfl) rfl rfl) rfl rfl hL fun a s e_ hL=>?_
  refine en' ?_
  show K11 a s.w;refine hK11 _ _ ?_
  exact wp_ret (retc (mput [] (keyS t) (t,1),mput xs (keyS t) (mput [] (keyS t) (t,1))) ⟨hgood,hxs.put hgood⟩ rfl hL rfl rfl)
 refine wp_skip ?_
 show K7 a s.w;refine hK7 _ _ ?_
 have hrd:rdy d t=false:=hb_
 have hopn:=hv.opn hd hrd
 obtain ⟨ls,hls,hlf⟩:∃ls,(opn d t).mapM (lv d h)=some ls∧ls.flatten=l:=by
  unfold lv at hl
  rw [if_neg (by rw [hrd];simp)] at hl
  exact Option.map_eq_some_iff.1 hl
 have hlen2:=opn_len (d:=d) t
 have hlsl:ls.length=(opn d t).length:=mapM_len hls
 refine wp_seq_k fun K12 hK12=>?_
 refine wp_seq_k fun K13 hK13=>?_
 refine rg ?_
 refine st 46 (zb (o_t 0 rfl) rfl rfl) rfl rfl hL fun a s e_ hL=>?_
 refine st 47 (t_nc (o_t 46 rfl) ptr_some rfl rfl) rfl rfl hL fun a s e_ hL=>?_
 refine st 48 (t_fa (off:=0) (o_t 47 rfl) Tryz.underlying161 rfl (zn (zj _ _)) rfl ty24 rfl rfl) rfl rfl hL fun a s e_ hL=>?_
 refine st 49 (zo ty24 (o_t 48 rfl) rfl rfl) rfl rfl hL fun a s e_ hL=>?_
 refine st 50 (zb (o_t 1 rfl) rfl rfl) rfl rfl hL fun a s e_ hL=>?_
 refine st 51 (zu (heads_Open_ok (heads_Open_in hd hv.form hrd (by omega) hd0)).frz (xs:=[.tmp 49,.tmp 50]) (.cons (o_t 49 rfl) (.cons (o_t 50 rfl) .nil)) rfl rfl) rfl rfl hL fun a s e_ hL=>?_
 refine st 52 (t_len (o_t 51 rfl) Tryz.underlying25 rfl rfl) rfl rfl hL fun a s e_ hL=>?_
 refine st 53 (zb (o_i (k:=.i64) (by decide)) rfl rfl) rfl rfl hL fun a s e_ hL=>?_
 refine en' ?_
 show K13 a s.w;refine hK13 _ _ ?_
 refine wp_block ?_
 have hg8s:=hng g8 rfl
 have J:∀(a:Act) (s:St) (out:List (Str × SBranch)) (ys:List (Str × List (Str × SBranch))),Has (fun b=>some g=some b) 88 s0 a s [(0,Pd.ptr Efinder (d,some g)),(5,Pd.rep En.str (keyS t)),(8,Pd.map En.str kvStr En.SBranch s0.w.heap.size (some g8) out),(999902,Pd.mapc En.str kvStr Efmp g ys)] →
   MapF (fun u=>l.count u) out→InvS d ys→K12 a s.w:=by
  intro a s out ys hL hout hys
  have hgood:GoodM d t out:=⟨h+1,l,hl,hout⟩
  refine hK12 _ _ ?_
  refine wp_seq_k fun K19 hK19=>?_
  refine rg ?_
  obtain ⟨s2,hw2,hL⟩:=hL.freezem (L':=[(0,Pd.ptr Efinder (d,some g)),(5,Pd.rep En.str (keyS t)),(999902,Pd.mapc En.str kvStr Efmp g ys)]) 8 rfl (.cons (t:=0) rfl (fun _ h_=>h_.elim) (.cons (t:=5) rfl (fun _ h_=>h_.elim) (.cons (t:=999902) rfl (no_o hgs hng) .nil)))
  rw [← hw2];clear hw2;generalize s2=s at *
  refine st 81 (zb (o_t 0 rfl) rfl rfl) rfl rfl hL fun a s e_ hL=>?_
  refine st 82 (t_nc (o_t 81 rfl) ptr_some rfl rfl) rfl rfl hL fun a s e_ hL=>?_
  refine st 83 (t_fa (off:=1) (o_t 82 rfl) Tryz.underlying161 rfl (zg (zj _ _) rfl) rfl tyMap rfl rfl) rfl rfl hL fun a s e_ hL=>?_
  refine st 84 (zo tyMap (o_t 83 rfl) rfl rfl) rfl rfl hL fun a s e_ hL=>?_
  refine st 85 (zb (o_t 5 rfl) rfl rfl) rfl rfl hL fun a s e_ hL=>?_
  refine st 86 (zb (o_t 8 rfl) rfl rfl) rfl rfl hL fun a s e_ hL=>?_
  refine st_mputc (m:=999902) (L':=[(8,Pd.rep Efmp out)]) hL rfl (.inl rfl) (o_t 84 rfl) (o_t 85 rfl) (o_t 86 rfl) Tryz.underlying159 (zej Tryz.underlying9) (.inl rfl) rfl rfl (.cons (t:=8) rfl (fun _ h_=>h_.elim) .nil) fun s hL=>?_
  refine en' ?_
  show K19 a s.w;refine hK19 _ _ ?_
  refine wp_seq_k fun K20 hK20=>?_
  refine rg ?_
  refine st 87 (zb (o_t 8 rfl) rfl rfl) rfl rfl hL fun a s e_ hL=>?_
  refine st 4 (zd (o_t 87 rfl) rfl rfl) rfl rfl hL fun a s e_ hL=>?_
  refine en' ?_
  show K20 a s.w;refine hK20 _ _ ?_
  exact wp_ret (retc (out,mput ys (keyS t) out) ⟨hgood,hys.put hgood⟩ rfl hL rfl rfl)
 refine lpg (fun k a s=>∃(i:Nat) (out:List (Str × SBranch)) (ys:List (Str × List (Str × SBranch))),i+k=(opn d t).length+1∧Has (fun b=>some g=some b) 88 s0 a s [(0,Pd.ptr Efinder (d,some g)),(5,Pd.rep En.str (keyS t)),(8,Pd.map En.str kvStr En.SBranch s0.w.heap.size (some g8) out),(51,Pd.rep (En.slice (En.slice En.SItem)) (opn d t)),(52,Pd.rep (En.int .i64) ((opn d t).length:Int)),(53,Pd.rep (En.int .i64) (i:Int)),(999902,Pd.mapc En.str kvStr Efmp g ys)] ∧
   MapF (fun u=>(ls.take i).flatten.count u) out∧InvS d ys) ((opn d t).length+1) ⟨0,[],xs,by omega,hL.keep (.cons (t:=0) rfl (fun _ h_=>h_.elim) (.cons (t:=5) rfl (fun _ h_=>h_.elim) (.cons (t:=8) rfl (fun _ _ h_=>h_) (.cons (t:=51) rfl (fun _ h_=>h_.elim) (.cons (t:=52) rfl (fun _ h_=>h_.elim) (.cons (t:=53) rfl (fun _ h_=>h_.elim) (.cons (t:=999902) rfl (fun _ _ h_=>h_) .nil))))))),MapF.nil,hxs⟩ ?_
 rintro k a s ⟨i,out,ys,hik,hL,hout,hys⟩ KL hKL
 refine wp_seq_k fun K14 hK14=>?_
 refine rg ?_
 refine st 54 (t_lss (o_t 53 rfl) (o_t 52 rfl) rfl rfl) rfl rfl hL fun a s e_ hL=>?_
 refine en' ?_
 show K14 a s.w;refine hK14 _ _ ?_
 refine wp_seq_k fun K15 hK15=>?_
 refine cnd hL rfl (fun hb2_=>?_) (fun hb2_=>?_)
 case refine_2=>
  refine wp_exit ?_
  have hi:(opn d t).length≤i:=by have:=df hb2_;omega
  refine J a s out ys (hL.keep (.cons (t:=0) rfl (fun _ h_=>h_.elim) (.cons (t:=5) rfl (fun _ h_=>h_.elim) (.cons (t:=8) rfl (fun _ _ h_=>h_) (.cons (t:=999902) rfl (fun _ _ h_=>h_) .nil))))) ?_ hys
  rw [List.take_of_length_le (by omega),hlf] at hout
  exact hout
 refine wp_skip ?_
 show K15 a s.w;refine hK15 _ _ ?_
 have hi:i<(opn d t).length:=by have:=dt hb2_;omega
 have hti:at? (opn d t) (i:Int)=some (opn d t)[i]:=by rw [zbw];simp [hi]
 have hmem:(opn d t)[i]∈opn d t:=List.getElem_mem hi
 obtain ⟨li,hli,hlsi⟩:=mapM_at hls hi
 refine wp_seq_k fun K18 hK18=>?_
 refine wp_block ?_
 refine wp_seq_k fun K21 hK21=>?_
 refine rg ?_
 refine st 55 (t_idx (o_t 51 rfl) (o_t 53 rfl) hti Tryz.underlying25 ty47 rfl rfl) rfl rfl hL fun a s e_ hL=>?_
 refine st 56 (zo ty47 (o_t 55 rfl) rfl rfl) rfl rfl hL fun a s e_ hL=>?_
 refine st 10 (zd (o_t 56 rfl) rfl rfl) rfl rfl hL fun a s e_ hL=>?_
 refine en' ?_
 show K21 a s.w;refine hK21 _ _ ?_
 refine wp_seq_k fun K22 hK22=>?_
 refine rg ?_
 refine st 57 (zb (o_t 0 rfl) rfl rfl) rfl rfl hL fun a s e_ hL=>?_
 refine st 58 (zb (o_t 10 rfl) rfl rfl) rfl rfl hL fun a s e_ hL=>?_
 refine st_callc (L':=[(0,Pd.ptr Efinder (d,some g)),(5,Pd.rep En.str (keyS t)),(8,Pd.map En.str kvStr En.SBranch s0.w.heap.size (some g8) out),(51,Pd.rep (En.slice (En.slice En.SItem)) (opn d t)),(52,Pd.rep (En.int .i64) ((opn d t).length:Int)),(53,Pd.rep (En.int .i64) (i:Int))]) 59 999902 hL (ih _ li hli (hopn _ hmem) ys hys) rfl (.inl rfl) (zs:=[.tmp 57,.tmp 58]) (.cons (o_t 57 rfl) (.cons (o_t 58 rfl) .nil)) rfl rfl rfl rfl
  (.cons (t:=0) rfl (fun _ h_=>h_.elim) (.cons (t:=5) rfl (fun _ h_=>h_.elim) (.cons (t:=8) rfl (no_g hgs hng) (.cons (t:=51) rfl (fun _ h_=>h_.elim) (.cons (t:=52) rfl (fun _ h_=>h_.elim) (.cons (t:=53) rfl (fun _ h_=>h_.elim) .nil)))))) fun a s im him hL=>?_
 obtain ⟨m,ys2⟩:=im
 obtain ⟨⟨hh,l2,hl2,hm⟩,hys2⟩:=him
 simp only at hl2 hm hys2
 have hl2e:l2=li:=by
  have h1:=lv_mono (Nat.le_max_left hh h) hl2
  have h2:=lv_mono (Nat.le_max_right hh h) hli
  rw [h1] at h2;exact Option.some.inj h2
 subst hl2e
 have hg8lt:=(map_lt (hL.get 8 rfl) g8 rfl).2
 refine st_range 60 hL (o_t 59 rfl) Tryz.underlying162 rfl rfl rfl rfl fun a s r hr hL=>?_
 have hr8:g8<r:=Nat.lt_of_lt_of_le hg8lt hr
 refine en' ?_
 show K22 a s.w;refine hK22 _ _ ?_
 refine wp_block ?_
 let f:=fun u=>(ls.take i).flatten.count u
 let c:=fun u=>l2.count u
 have J2:∀(a:Act) (s:St) (out:List (Str × SBranch)),Has (fun b=>some g=some b) 88 s0 a s [(0,Pd.ptr Efinder (d,some g)),(5,Pd.rep En.str (keyS t)),(8,Pd.map En.str kvStr En.SBranch s0.w.heap.size (some g8) out),(51,Pd.rep (En.slice (En.slice En.SItem)) (opn d t)),(52,Pd.rep (En.int .i64) ((opn d t).length:Int)),(53,Pd.rep (En.int .i64) (i:Int)),(999902,Pd.mapc En.str kvStr Efmp g ys2)] →
   MapF (fun u=>f u+c u) out→K18 a s.w:=by
  intro a s out hL hout
  refine hK18 _ _ ?_
  refine rg ?_
  refine st 80 (t_add (o_t 53 rfl) (o_i (k:=.i64) (by decide)) (zk (by omega) (by omega)) rfl rfl) rfl rfl hL fun a s e_ hL=>?_
  refine st 53 (zb (o_t 80 rfl) rfl rfl) rfl rfl hL fun a s e_ hL=>?_
  refine en' ?_
  refine hKL (k-1) a s (by omega) ⟨i+1,out,ys2,by omega,hL.keep (.cons (t:=0) rfl (fun _ h_=>h_.elim) (.cons (t:=5) rfl (fun _ h_=>h_.elim) (.cons (t:=8) rfl (fun _ _ h_=>h_) (.cons (t:=51) rfl (fun _ h_=>h_.elim) (.cons (t:=52) rfl (fun _ h_=>h_.elim) (.cons (t:=53) rfl (fun _ h_=>h_.elim) (.cons (t:=999902) rfl (fun _ _ h_=>h_) .nil))))))), ?_,hys2⟩
  refine hout.congr fun u=>?_
  rw [take_flat hlsi,List.count_append]
 refine lpg (fun k a s=>∃(rem:List (Str × SBranch)) (cur:Option (Str × SBranch)) (out:List (Str × SBranch)),rem.length+1=k∧Has (fun b=>some g=some b) 88 s0 a s [(0,Pd.ptr Efinder (d,some g)),(5,Pd.rep En.str (keyS t)),(8,Pd.map En.str kvStr En.SBranch s0.w.heap.size (some g8) out),(51,Pd.rep (En.slice (En.slice En.SItem)) (opn d t)),(52,Pd.rep (En.int .i64) ((opn d t).length:Int)),(53,Pd.rep (En.int .i64) (i:Int)),(60,Pd.iter En.str kvStr En.SBranch s0.w.heap.size r rem cur),(999902,Pd.mapc En.str kvStr Efmp g ys2)] ∧
   Left c rem∧MapF (cnt f c rem) out) (m.length+1) ⟨m,none,out,rfl,hL.keep (.cons (t:=0) rfl (fun _ h_=>h_.elim) (.cons (t:=5) rfl (fun _ h_=>h_.elim) (.cons (t:=8) rfl (fun _ _ h_=>h_) (.cons (t:=51) rfl (fun _ h_=>h_.elim) (.cons (t:=52) rfl (fun _ h_=>h_.elim) (.cons (t:=53) rfl (fun _ h_=>h_.elim) (.cons (t:=60) rfl (fun _ _ h_=>h_) (.cons (t:=999902) rfl (fun _ _ h_=>h_) .nil)))))))),hm.left,hout.congr fun u=>by rw [cnt_start hm (.refl _)]⟩ ?_
 rintro k2 a s ⟨rem,cur,out,hrk,hL,hleft,hout⟩ KM hKM
 refine wp_seq_k fun K23 hK23=>?_
 refine rg ?_
 have hrs0:s0.w.heap.size≤r:=(hL.get 60 rfl).2.1
 refine st_next (L':=[(0,Pd.ptr Efinder (d,some g)),(5,Pd.rep En.str (keyS t)),(8,Pd.map En.str kvStr En.SBranch s0.w.heap.size (some g8) out),(51,Pd.rep (En.slice (En.slice En.SItem)) (opn d t)),(52,Pd.rep (En.int .i64) ((opn d t).length:Int)),(53,Pd.rep (En.int .i64) (i:Int)),(999902,Pd.mapc En.str kvStr Efmp g ys2)]) 61 hL (x:=60) rfl rfl rfl rfl rfl (by decide)
  (.cons (t:=0) rfl (fun _ h_=>h_.elim) (.cons (t:=5) rfl (fun _ h_=>h_.elim) (.cons (t:=8) rfl (fun b hb e=>by cases hb;cases e;omega) (.cons (t:=51) rfl (fun _ h_=>h_.elim) (.cons (t:=52) rfl (fun _ h_=>h_.elim) (.cons (t:=53) rfl (fun _ h_=>h_.elim) (.cons (t:=999902) rfl (fun b hb e=>by cases hb;cases e;omega) .nil))))))) (fun a hrem hL=>?_) (fun a s p rem' hp hL=>?_)
 ·subst hrem
  refine st 62 (t_nx (o_t 61 rfl) rfl rfl) rfl rfl hL fun a s e_ hL=>?_
  refine en' ?_
  show K23 a s.w;refine hK23 _ _ ?_
  refine wp_seq_k fun K24 hK24=>?_
  refine cnd hL rfl (fun hb3_=>by cases hb3_) (fun _=>?_)
  refine wp_exit ?_
  refine J2 a s out (hL.keep (.cons (t:=0) rfl (fun _ h_=>h_.elim) (.cons (t:=5) rfl (fun _ h_=>h_.elim) (.cons (t:=8) rfl (fun _ _ h_=>h_) (.cons (t:=51) rfl (fun _ h_=>h_.elim) (.cons (t:=52) rfl (fun _ h_=>h_.elim) (.cons (t:=53) rfl (fun _ h_=>h_.elim) (.cons (t:=999902) rfl (fun _ _ h_=>h_) .nil)))))))) (hout.congr fun u=>by rw [cnt_nil])
 have hleft2:=hleft.perm hp
 have hout2:MapF (cnt f c (p::rem')) out:=hout.congr fun u=>by rw [cnt_perm hp]
 obtain ⟨e1,e2,e3⟩:=hleft2.ent p (by simp)
 have hp2:1≤p.2.2∧p.2.2≤2:=by rw [e3];unfold sat;omega
 have hmg:0≤(mget out p.1 (([],0):SBranch)).2∧(mget out p.1 (([],0):SBranch)).2≤2:=by rw [e1,hout2.get];unfold sat;omega
 refine st 62 (t_nx (o_t 61 rfl) rfl rfl) rfl rfl hL fun a s e_ hL=>?_
 refine en' ?_
 show K23 a s.w;refine hK23 _ _ ?_
 refine wp_seq_k fun K24 hK24=>?_
 refine cnd hL rfl (fun _=>?_) (fun hb3_=>by cases hb3_)
 refine wp_skip ?_
 show K24 a s.w;refine hK24 _ _ ?_
 refine wp_block ?_
 refine wp_seq_k fun K25 hK25=>?_
 refine rg ?_
 refine st 63 (t_entry (o_t 60 rfl) (zej Tryz.underlying9) rfl rfl) rfl rfl hL fun a s e_ hL=>?_
 refine st 64 (t_ext0 (o_t 63 rfl) rfl rfl) rfl rfl hL fun a s e_ hL=>?_
 refine st 65 (t_ext1 (o_t 63 rfl) rfl rfl) rfl rfl hL fun a s e_ hL=>?_
 have l8:=(map_lt (hL.get 8 rfl) g8 rfl).2
 have lr:=hL.ilt 60 rfl r rfl
 have lg:g<s.w.heap.size:=Nat.lt_of_lt_of_le hgs hL.ent.mv.size
 refine zbb En.SBranch (z:=(([],0):SBranch)) 12 hL tyz82 rfl rfl rfl rfl fun a s g12 hg12 hL=>?_
 refine st 11 (zd (o_t 64 rfl) rfl rfl) rfl rfl hL fun a s e_ hL=>?_
 refine zca (L':=[(0,Pd.ptr Efinder (d,some g)),(5,Pd.rep En.str (keyS t)),(8,Pd.map En.str kvStr En.SBranch s0.w.heap.size (some g8) out),(11,Pd.rep En.str p.1),(51,Pd.rep (En.slice (En.slice En.SItem)) (opn d t)),(52,Pd.rep (En.int .i64) ((opn d t).length:Int)),(53,Pd.rep (En.int .i64) (i:Int)),(60,Pd.iter En.str kvStr En.SBranch s0.w.heap.size r rem' (some p)),(999902,Pd.mapc En.str kvStr Efmp g ys2)]) 12 hL rfl (o_t 65 rfl) ty82 rfl rfl rfl
  (.cons (t:=0) rfl (fun _ h_=>h_.elim) (.cons (t:=5) rfl (fun _ h_=>h_.elim) (.cons (t:=8) rfl (fun b hb e=>by cases hb;cases e;omega) (.cons (t:=11) rfl (fun _ h_=>h_.elim) (.cons (t:=51) rfl (fun _ h_=>h_.elim) (.cons (t:=52) rfl (fun _ h_=>h_.elim) (.cons (t:=53) rfl (fun _ h_=>h_.elim) (.cons (t:=60) rfl (fun b hb e=>by cases hb;cases e;omega) (.cons (t:=999902) rfl (fun b hb e=>by cases hb;cases e;omega) .nil))))))))) fun s hL=>?_
 refine en' ?_
 show K25 a s.w;refine hK25 _ _ ?_
 refine wp_seq_k fun K26 hK26=>?_
 refine rg ?_
 refine st 66 (zb (o_t 8 rfl) rfl rfl) rfl rfl hL fun a s e_ hL=>?_
 refine st 67 (zb (o_t 11 rfl) rfl rfl) rfl rfl hL fun a s e_ hL=>?_
 refine st 68 (t_mget (z:=(([],0):SBranch)) (o_t 66 rfl) (o_t 67 rfl) Tryz.underlying162 (zej Tryz.underlying9) tyvBranch rfl rfl) rfl rfl hL fun a s e_ hL=>?_
 have l8:=(map_lt (hL.get 8 rfl) g8 rfl).2
 have lr:=hL.ilt 60 rfl r rfl
 have lg:g<s.w.heap.size:=Nat.lt_of_lt_of_le hgs hL.ent.mv.size
 have l12:=hL.blt 12 rfl g12 rfl
 refine zbb En.SBranch (z:=(([],0):SBranch)) 13 hL tyz82 rfl rfl rfl rfl fun a s g13 hg13 hL=>?_
 refine zca (L':=[(0,Pd.ptr Efinder (d,some g)),(5,Pd.rep En.str (keyS t)),(8,Pd.map En.str kvStr En.SBranch s0.w.heap.size (some g8) out),(11,Pd.rep En.str p.1),(12,Pd.box En.SBranch s0.w.heap.size g12 p.2),(51,Pd.rep (En.slice (En.slice En.SItem)) (opn d t)),(52,Pd.rep (En.int .i64) ((opn d t).length:Int)),(53,Pd.rep (En.int .i64) (i:Int)),(60,Pd.iter En.str kvStr En.SBranch s0.w.heap.size r rem' (some p)),(999902,Pd.mapc En.str kvStr Efmp g ys2)]) 13 hL rfl (o_t 68 rfl) ty82 rfl rfl rfl
  (.cons (t:=0) rfl (fun _ h_=>h_.elim) (.cons (t:=5) rfl (fun _ h_=>h_.elim) (.cons (t:=8) rfl (fun b hb e=>by cases hb;cases e;omega) (.cons (t:=11) rfl (fun _ h_=>h_.elim) (.cons (t:=12) rfl (fun b hb e=>by cases hb;cases e;omega) (.cons (t:=51) rfl (fun _ h_=>h_.elim) (.cons (t:=52) rfl (fun _ h_=>h_.elim) (.cons (t:=53) rfl (fun _ h_=>h_.elim) (.cons (t:=60) rfl (fun b hb e=>by cases hb;cases e;omega) (.cons (t:=999902) rfl (fun b hb e=>by cases hb;cases e;omega) .nil)))))))))) fun s hL=>?_
 refine en' ?_
 show K26 a s.w;refine hK26 _ _ ?_
 refine rg ?_
 refine st 69 (zb (o_t 8 rfl) rfl rfl) rfl rfl hL fun a s e_ hL=>?_
 refine st 70 (zb (o_t 11 rfl) rfl rfl) rfl rfl hL fun a s e_ hL=>?_
 refine st 71 (t_fab (off:=0) (o_t 12 rfl) Tryz.underlying82 rfl (zn (zj _ _)) rfl ty47 rfl rfl) rfl rfl hL fun a s e_ hL=>?_
 refine st 72 (zt ty47 (o_t 71 rfl) rfl rfl) rfl rfl hL fun a s e_ hL=>?_
 refine st 73 (t_fab (off:=1) (o_t 13 rfl) Tryz.underlying82 rfl (zg (zj _ _) rfl) rfl ty3 rfl rfl) rfl rfl hL fun a s e_ hL=>?_
 refine st 74 (zt ty3 (o_t 73 rfl) rfl rfl) rfl rfl hL fun a s e_ hL=>?_
 refine st 75 (t_fab (off:=1) (o_t 12 rfl) Tryz.underlying82 rfl (zg (zj _ _) rfl) rfl ty3 rfl rfl) rfl rfl hL fun a s e_ hL=>?_
 refine st 76 (zt ty3 (o_t 75 rfl) rfl rfl) rfl rfl hL fun a s e_ hL=>?_
 refine st 77 (t_add (o_t 74 rfl) (o_t 76 rfl) (zk (by omega) (by omega)) rfl rfl) rfl rfl hL fun a s e_ hL=>?_
 refine st 78 (t_min (o_t 77 rfl) (o_i (k:=.i64) (by decide)) rfl rfl) rfl rfl hL fun a s e_ hL=>?_
 refine st 79 (zdn (x:=((p.2.1,min ((mget out p.1 (([],0):SBranch)).2+p.2.2) 2):SBranch)) (ps:=[(0,.tmp 72),(1,.tmp 78)]) tyz82 rfl stt82 (.cons (i:=0) (o_t 72 rfl) rfl (zbl (zy _ _ _)) (.cons (i:=1) (o_t 78 rfl) rfl (z6 (zy _ _ _) rfl) .nil)) rfl rfl) rfl rfl hL fun a s e_ hL=>?_
 refine st_mputC (L':=[(0,Pd.ptr Efinder (d,some g)),(5,Pd.rep En.str (keyS t)),(8,Pd.map En.str kvStr En.SBranch s0.w.heap.size (some g8) (mput out p.1 (p.2.1,min ((mget out p.1 (([],0):SBranch)).2+p.2.2) 2))),(51,Pd.rep (En.slice (En.slice En.SItem)) (opn d t)),(52,Pd.rep (En.int .i64) ((opn d t).length:Int)),(53,Pd.rep (En.int .i64) (i:Int)),(60,Pd.iter En.str kvStr En.SBranch s0.w.heap.size r rem' (some p)),(999902,Pd.mapc En.str kvStr Efmp g ys2)]) hL (o_t 69 rfl) (o_t 70 rfl) (o_t 79 rfl) Tryz.underlying162 (zej Tryz.underlying9) (.inl rfl) rfl rfl
  (.cons (t:=0) rfl (fun _ h_=>h_.elim) (.cons (t:=5) rfl (fun _ h_=>h_.elim) (.turn (t:=8) rfl (.cons (t:=51) rfl (fun _ h_=>h_.elim) (.cons (t:=52) rfl (fun _ h_=>h_.elim) (.cons (t:=53) rfl (fun _ h_=>h_.elim) (.cons (t:=60) rfl (fun b hb e=>by cases hb;cases e;omega) (.cons (t:=999902) rfl (fun b hb e=>by cases hb;cases e;omega) .nil)))))))) fun s hL=>?_
 refine en' ?_
 have hpl:=hp.length_eq
 simp only [List.length_cons] at hpl
 exact hKM (k2-1) a s (by omega) ⟨rem',some p,_,by omega,hL,hleft2.tail.1,cnt_step hleft2 hout2⟩
theorem find_ok {d:List SNode} (hd:ROk d) (hk:DOk d) (hl4:d.length≤400) (g:Nat) (hd0:∃n,at? d 0=some n):∀(h:Nat) (t:List SItem) (l:List (List SItem)),lv d h t=some l→Vs d 400 t→∀xs,InvS d xs→FndOk d g t xs
 | 0,t,l,hl,_,_,_=>by simp [lv] at hl
 | h+1,t,l,hl,hv,xs,hxs=>find_step hd hk hl4 g (find_ok hd hk hl4 g hd0 h) hd0 hl hv hxs
theorem lv_vs {d:List SNode} (hd:ROk d) {n0:Nat}:∀(h:Nat) (t:List SItem) (l:List (List SItem)),lv d h t=some l→Vs d n0 t→∀u∈l,Vs d n0 u∧rdy d u=true
 | 0,t,l,hl,_=>by simp [lv] at hl
 | h+1,t,l,hl,hv=>by
  intro u hu
  unfold lv at hl
  by_cases hr:rdy d t=true
  ·rw [if_pos hr] at hl
   cases hl
   rw [List.mem_singleton.1 hu];exact ⟨hv,hr⟩
  ·rw [if_neg hr] at hl
   obtain ⟨ls,h1,h2⟩:=Option.map_eq_some_iff.1 hl
   subst h2
   obtain ⟨l',hl',hu'⟩:=List.mem_flatten.1 hu
   obtain ⟨i,hi⟩:=List.getElem?_of_mem hl'
   have hil:i<(opn d t).length:=by rw [← mapM_len h1];exact (List.getElem?_eq_some_iff.1 hi).1
   obtain ⟨b,hb1,hb2⟩:=mapM_at h1 hil
   rw [hi] at hb2
   cases hb2
   exact lv_vs hd h _ _ hb1 (hv.opn hd (by simpa using hr) _ (List.getElem_mem hil)) u hu'
theorem heads_Heads_ok {d_:SDesc} {s_:List SItem} {r_:List SBranch} (hh:heads_Heads d_ s_ r_):Fn Tryz.prog 89 [Pd.rep En.SDesc d_,Pd.rep (En.slice En.SItem) s_] (Ro En.SBranch 82 r_):=by
 obtain ⟨hd,hk,hl4,hne,hf,hs4,hr31,h,l,hl,hcan⟩:=hh
 have hv:Vs d_ 400 s_:=Vs.start hf hs4
 refine fn_of Tryz.func89 rfl Tryz.ntmps89 (by rfl) (by simp) fun s0 a hL=>?_
 refine wp_seq_k fun K0 hK0=>?_
 refine rg ?_
 refine st 2 (t_box (o_t 0 rfl) rfl rfl) rfl rfl hL fun a s e_ hL=>?_
 refine st 4 (zd (q:=Pd.any) (fun _ _ _ _ _ _=>trivial) rfl rfl) rfl rfl hL fun a s e_ hL=>?_
 refine en' ?_
 show K0 a s.w;refine hK0 _ _ ?_
 refine wp_seq_k fun K1 hK1=>?_
 refine rg ?_
 refine st 9 (zo ty24 (o_t 2 rfl) rfl rfl) rfl rfl hL fun a s e_ hL=>?_
 refine st_mkmap 10 En.str kvStr Efmp hL rfl rfl rfl rfl fun a s g hg hL=>?_
 have hgN:s0.w.heap.size≤g:=(map_lt (hL.get 10 rfl) g rfl).1
 have hL:=hL.mapc 10 999902 rfl
 refine st 11 (zdn (x:=((d_,some g):SDesc × Option Nat)) (ps:=[(0,.tmp 9),(1,.tmp 10)]) tyzFinder rfl sttFinder (.cons (i:=0) (o_t 9 rfl) rfl (zbl (zy _ _ _)) (.cons (i:=1) (o_t 10 rfl) rfl (z6 (zy _ _ _) rfl) .nil)) rfl rfl) rfl rfl hL fun a s e_ hL=>?_
 refine st 12 (t_box (o_t 11 rfl) rfl rfl) rfl rfl hL fun a s e_ hL=>?_
 refine st 5 (zd (o_t 12 rfl) rfl rfl) rfl rfl hL fun a s e_ hL=>?_
 refine en' ?_
 show K1 a s.w;refine hK1 _ _ ?_
 refine wp_seq_k fun K2 hK2=>?_
 refine rg ?_
 refine st 6 (zd (o_nil (E:=En.SBranch) (N:=s0.w.heap.size) (te:=82)) rfl rfl) rfl rfl hL fun a s e_ hL=>?_
 refine en' ?_
 show K2 a s.w;refine hK2 _ _ ?_
 refine wp_seq_k fun K3 hK3=>?_
 refine wp_seq_k fun K4 hK4=>?_
 refine rg ?_
 refine st 13 (zb (o_t 5 rfl) rfl rfl) rfl rfl hL fun a s e_ hL=>?_
 refine st 14 (zb (o_t 1 rfl) rfl rfl) rfl rfl hL fun a s e_ hL=>?_
 have hd0:∃n,at? d_ 0=some n:=by
  cases d_ with
  | nil=>exact absurd rfl hne
  | cons n d=>exact ⟨n,rfl⟩
 refine st_callc (L':=[(6,Pd.row En.SBranch s0.w.heap.size 82 none [])]) 15 999902 hL (find_ok hd hk hl4 g hd0 h s_ l hl hv [] (InvS.nil _)) rfl (.inr hgN) (zs:=[.tmp 13,.tmp 14]) (.cons (o_t 13 rfl) (.cons (o_t 14 rfl) .nil)) rfl rfl rfl rfl
  (.cons (t:=6) rfl no_own .nil) fun a s im him hL=>?_
 obtain ⟨m,ys2⟩:=im
 obtain ⟨⟨h2,l2,hl2,hm⟩,hys2⟩:=him
 simp only at hl2 hm hys2
 have hl2e:l2=l:=by
  have h3:=lv_mono (Nat.le_max_left h2 h) hl2
  have h4:=lv_mono (Nat.le_max_right h2 h) hl
  rw [h3] at h4;exact Option.some.inj h4
 subst hl2e
 refine st_range 16 hL (o_t 15 rfl) Tryz.underlying162 rfl rfl rfl rfl fun a s r hr hL=>?_
 refine en' ?_
 show K4 a s.w;refine hK4 _ _ ?_
 refine wp_block ?_
 have J:∀(a:Act) (s:St) (og:Option Nat) (out:List SBranch),Has N0 28 s0 a s [(6,Pd.row En.SBranch s0.w.heap.size 82 og out)]→out.Perm (m.map (·.2))→K3 a s.w:=by
  intro a s og out hL hp
  obtain ⟨hnd,hc2⟩:=hm.can hp
  have hrr:r_=srtB out:=hcan.uniq hc2
  have hlen:out.length≤2147483648:=by
   have:=(srtB_perm out).length_eq
   rw [hrr] at hr31;omega
  have hsrt:sort_heads_Heads_1 out r_:=by
   refine ⟨hnd,fun b hb=>?_,hlen,hrr⟩
   obtain ⟨p,hp1,hp2⟩:=List.mem_map.1 (hp.mem_iff.1 hb)
   obtain ⟨k,b'⟩:=p
   simp only at hp2
   subst hp2
   have hc:=((hm.mem k _).1 hp1).2.1
   have hmem:b'.1∈l2:=by
    rcases Nat.eq_zero_or_pos (l2.count b'.1) with h0 | h0
    ·exact absurd h0 hc
    ·exact List.count_pos_iff.1 h0
   have:=(lv_vs hd h s_ l2 hl hv _ hmem).1.len
   omega
  refine hK3 _ _ ?_
  refine wp_seq_k fun K7 hK7=>?_
  refine rg ?_
  refine st 25 (zb (o_t 6 rfl) rfl rfl) rfl rfl hL fun a s e_ hL=>?_
  refine st_callr (L':=[(6,Pd.row En.SBranch s0.w.heap.size 82 og r_)]) 26 (fun v0=>sort_heads_Heads_1_ok v0 hsrt) hL (o_t 25 rfl) (zs:=[.func 117]) (.cons o_isf .nil) rfl rfl rfl rfl (.turn (t:=6) rfl .nil) fun a s hL=>?_
  refine en' ?_
  show K7 a s.w;refine hK7 _ _ ?_
  refine wp_seq_k fun K8 hK8=>?_
  refine rg ?_
  refine st 27 (zb (o_t 6 rfl) rfl rfl) rfl rfl hL fun a s e_ hL=>?_
  refine st 4 (zd (o_t 27 rfl) rfl rfl) rfl rfl hL fun a s e_ hL=>?_
  refine en' ?_
  show K8 a s.w;refine hK8 _ _ ?_
  exact wp_ret (reto rfl hL rfl)
 have hmlen:m.length≤2147483648:=by
  have hp:=(hm.can (List.Perm.refl (m.map (·.2)))).2
  have e:=hcan.uniq hp
  have:=(srtB_perm (m.map (·.2))).length_eq
  rw [e] at hr31
  rw [List.length_map] at this
  omega
 refine lpg (fun k a s=>∃(rem:List (Str × SBranch)) (cur:Option (Str × SBranch)) (og:Option Nat) (out:List SBranch),rem.length+1=k∧Has N0 28 s0 a s [(6,Pd.row En.SBranch s0.w.heap.size 82 og out),(16,Pd.iter En.str kvStr En.SBranch s0.w.heap.size r rem cur)]∧(∀b,og=some b→¬ some r=some b)∧(out++rem.map (·.2)).Perm (m.map (·.2)))
  (m.length+1) ⟨m,none,none,[],rfl,hL.keep (.cons (t:=6) rfl (fun _ _ h_=>h_) (.cons (t:=16) rfl (fun _ _ h_=>h_) .nil)),(fun b hb=>by cases hb),by simp⟩ ?_
 rintro k a s ⟨rem,cur,og,out,hrk,hL,hdis,hperm⟩ KL hKL
 refine wp_seq_k fun K5 hK5=>?_
 refine rg ?_
 refine st_next (L':=[(6,Pd.row En.SBranch s0.w.heap.size 82 og out)]) 17 hL (x:=16) rfl rfl rfl rfl rfl (by decide) (.cons (t:=6) rfl hdis .nil) (fun a hrem hL=>?_) (fun a s p rem' hp hL=>?_)
 ·subst hrem
  refine st 18 (t_nx (o_t 17 rfl) rfl rfl) rfl rfl hL fun a s e_ hL=>?_
  refine en' ?_
  show K5 a s.w;refine hK5 _ _ ?_
  refine wp_seq_k fun K6 hK6=>?_
  refine cnd hL rfl (fun hb3_=>by cases hb3_) (fun _=>?_)
  refine wp_exit ?_
  exact J a s og out (hL.keep (.cons (t:=6) rfl (fun _ _ h_=>h_) .nil)) (by simpa using hperm)
 refine st 18 (t_nx (o_t 17 rfl) rfl rfl) rfl rfl hL fun a s e_ hL=>?_
 refine en' ?_
 show K5 a s.w;refine hK5 _ _ ?_
 refine wp_seq_k fun K6 hK6=>?_
 refine cnd hL rfl (fun _=>?_) (fun hb3_=>by cases hb3_)
 refine wp_skip ?_
 show K6 a s.w;refine hK6 _ _ ?_
 refine wp_block ?_
 refine wp_seq_k fun K9 hK9=>?_
 refine rg ?_
 refine st 19 (t_entry (o_t 16 rfl) (zej Tryz.underlying9) rfl rfl) rfl rfl hL fun a s e_ hL=>?_
 refine st 20 (t_ext1 (o_t 19 rfl) rfl rfl) rfl rfl hL fun a s e_ hL=>?_
 have l6:=hL.rlt 6 rfl
 have lr:=hL.ilt 16 rfl r rfl
 refine zbb En.SBranch (z:=(([],0):SBranch)) 8 hL tyz82 rfl rfl rfl rfl fun a s g8 hg8 hL=>?_
 have d6:∀b,og=some b→¬ some g8=some b:=fun b hb e=>by cases e;have:=l6 g8 hb;omega
 refine zca (L':=[(6,Pd.row En.SBranch s0.w.heap.size 82 og out),(16,Pd.iter En.str kvStr En.SBranch s0.w.heap.size r rem' (some p))]) 8 hL rfl (o_t 20 rfl) ty82 rfl rfl rfl (.cons (t:=6) rfl d6 (.cons (t:=16) rfl (fun b hb e=>by cases hb;cases e;omega) .nil)) fun s hL=>?_
 refine en' ?_
 show K9 a s.w;refine hK9 _ _ ?_
 refine rg ?_
 have hpl:=hp.length_eq
 simp only [List.length_cons] at hpl
 have hol:out.length+(rem.length:Nat)=m.length:=by
  have:=hperm.length_eq
  simpa using this
 refine st 21 (zb (o_t 6 rfl) rfl rfl) rfl rfl hL fun a s e_ hL=>?_
 refine st 22 (zbh ty82 (o_t 8 rfl) rfl rfl) rfl rfl hL fun a s e_ hL=>?_
 refine st 23 (t_lit (xs:=[.tmp 22]) (.cons (o_t 22 rfl) .nil) Tryz.underlying79 ty82 rfl rfl (by decide) rfl rfl) rfl rfl hL fun a s e_ hL=>?_
 have lr:=hL.ilt 16 rfl r rfl
 refine zd2 (L':=[(16,Pd.iter En.str kvStr En.SBranch s0.w.heap.size r rem' (some p))]) 24 hL (o_t 21 rfl) (o_t 23 rfl) Tryz.underlying79 ty82 (by simp;omega) rfl rfl rfl rfl (.cons (t:=16) rfl (fun b hb e=>hdis b e hb) .nil) fun a s og' hg' hL=>?_
 refine st 6 (zd (o_t 24 rfl) rfl rfl) rfl rfl hL fun a s e_ hL=>?_
 refine en' ?_
 refine hKL (k-1) a s (by omega) ⟨rem',some p,og',out++[p.2],by omega,hL.keep (.cons (t:=6) rfl (fun _ _ h_=>h_) (.cons (t:=16) rfl (fun _ _ h_=>h_) .nil)),fun b hb e=>?_, ?_⟩
 ·rcases hg' b hb with h3 | h3
  ·exact hdis b h3 e
  ·cases e;omega
 ·refine List.Perm.trans ?_ hperm
  have h5:=hp.map (·.2)
  rw [List.map_cons] at h5
  rw [List.append_assoc,List.singleton_append]
  exact (h5.symm.append_left out)
open Go.Shelf Go.Sort
theorem sort_next_On_1_ok (v0:Value) {x r:List SBranch} (h:sort_next_On_1 x r):Fm Tryz.prog 91 (fun b=>v0.ownBlock=some b) [Pd.prow En.SBranch 82 v0 x,Pd.is (.func (.func 92) #[] #[])] (fun _ s' _=>(Pd.prow En.SBranch 82 v0 r).p s' v0):=fm_branch (call_of Tryz.func92 rfl (by rfl)) h.1 h.2.2.1 h.2.2.2 (fun a ha b hb=>VD.next_On_1_ok ⟨_,item_Compare_in (h.2.1 a ha),rfl⟩) v0
end Go.Proofs.YtahgmdbioafmbaaGreatDoor.V
namespace Go.Proofs.YtahgmdbioafmbaaGreatDoor.V
open Go
set_option linter.unusedVariables false
set_option maxRecDepth 100000
theorem next_frame_ok {nv_:SNode} {ahead_:Int} {r_:(List SItem)} (h:next_frame nv_ ahead_ r_):Fn Tryz.prog 211 [(Pd.rep En.SNode nv_),(Pi ahead_)] (Ro En.SItem 77 r_):=by
 unfold next_frame at h
 refine fn_of Tryz.func211 J Tryz.ntmps211 (by rfl) (by simp) fun s0 a L=>?_
 refine wp_seq_k fun K1 hK1=>rg (sx 2 (t_box (o_t 0 J) J J) L fun a s _ L=>?_)
 refine sx 4 (zd (o_nil (E:=En.SItem) (N:=s0.w.heap.size) (te:=77)) J J) L fun a s _ L=>en' (hK1 _ _ ?_)
 refine wp_seq_k fun K2 hK2=>rg (sx 5 (t_fa (off:=1) (o_t 2 J) Tryz.underlying68 J (zg (zn (zj _ _)) J) J ty3 J J) L fun a s _ L=>?_)
 refine sx 6 (zo ty3 (o_t 5 J) J J) L fun a s _ L=>sx 7 (zdn (x:=(1,nv_.2.1,0,0)) (ps:=[(0,.const (.int .i64 1)),(1,.tmp 6)]) tyz77 J stt77 (.cons (i:=0) oI J (zbl (zy _ _ _)) (.cons (i:=1) (o_t 6 J) J (z6 (zbl (zy _ _ _)) J) .nil)) J J) L fun a s _ L=>sx 8 (zb (o_t 1 J) J J) L fun a s _ L=>sx 9 (zdn (x:=(5,0,ahead_,0)) (ps:=[(0,.const (.int .i64 5)),(2,.tmp 8)]) tyz77 J stt77 (.cons (i:=0) oI J (zbl (zy _ _ _)) (.cons (i:=2) (o_t 8 J) J (z6 (z6 (zbl (zy _ _ _)) J) J) .nil)) J J) L fun a s _ L=>st_lito (xs:=[.tmp 7,.tmp 9]) 10 L (.cons (o_t 7 J) (.cons (o_t 9 J) .nil)) Tryz.underlying46 ty77 J J (by decide) J J J J fun a s g3 hg_ L=>?_
 refine sx 4 (zd (o_t 10 J) J J) L fun a s _ L=>en' (hK2 _ _ ?_)
 subst h
 exact wp_ret (reto J L J)
theorem next_step_node_ok {s_:Sstep_next} {r_:((List SItem) × Bool)} (h:next_step_node s_ r_):Fn Tryz.prog 209 [(Pd.rep En.Sstep_next s_)] (Ro2 En.SItem 77 r_.1 (Pd.rep En.bool r_.2)):=by
 unfold next_step_node at h
 refine fn_of Tryz.func209 J Tryz.ntmps209 (by rfl) (by simp) fun s0 a L=>?_
 refine wp_seq_k fun K1 hK1=>rg (sx 1 (t_box (o_t 0 J) J J) L fun a s _ L=>?_)
 refine sx 2 (zd (o_nil (E:=En.SItem) (N:=s0.w.heap.size) (te:=77)) J J) L fun a s _ L=>sx 3 (zd o_b J J) L fun a s _ L=>en' (hK1 _ _ ?_)
 refine wp_seq_k fun K2 hK2=>wp_seq_k fun K3 hK3=>rg (sx 4 (t_fa (off:=0) (o_t 1 J) Tryz.underlying170 J (zn (zj _ _)) J ty68 J J) L fun a s _ L=>?_)
 refine sx 5 (t_fa (off:=0) (o_t 4 J) Tryz.underlying68 J (zn (zj _ _)) J ty3 J J) L fun a s _ L=>sx 6 (zo ty3 (o_t 5 J) J J) L fun a s _ L=>en' (hK3 _ _ ?_)
 refine wp_block (wp_seq_k fun K4 hK4=>?_)
 refine rg (sx 8 (t_eqi (o_t 6 J) oI J J) L fun a s _ L=>?_)
 refine sx 7 (zd (o_t 8 J) J J) L fun a s _ L=>en' (hK4 _ _ ?_)
 refine cnd L J (fun hb_=>?_) (fun hb_=>?_)
 ·replace h:=h.1 hb_
  refine wp_seq_k fun K5 hK5=>?_
  obtain ⟨r6,h7,h⟩:=h
  refine rg (sx 9 (t_fa (off:=0) (o_t 1 J) Tryz.underlying170 J (zn (zj _ _)) J ty68 J J) L fun a s _ L=>?_)
  refine sx 10 (zo ty68 (o_t 9 J) J J) L fun a s _ L=>sx 11 (t_fa (off:=14) (o_t 1 J) Tryz.underlying170 J (zg (zg (zj _ _) J) J) J ty5 J J) L fun a s _ L=>sx 12 (zo ty5 (o_t 11 J) J J) L fun a s _ L=>sx 13 (t_up (o_t 12 J) (by decide) Tryz.underlying5 Tryz.underlying3 J J) L fun a s _ L=>zcb 14 L (next_frame_ok h7) (xs:=[.tmp 10,.tmp 13]) (.cons (o_t 10 J) (.cons (o_t 13 J) .nil)) J J J J fun a s og8 hg_ L=>?_
  refine sx 2 (zd (o_t 14 J) J J) L fun a s _ L=>sx 3 (zd o_b J J) L fun a s _ L=>en' (hK5 _ _ ?_)
  subst h
  exact wp_ret (reto2 J L J J)
 ·replace h:=h.2 hb_
  refine wp_seq_k fun K9 hK9=>rg (sx 16 (t_eqi (o_t 6 J) oI J J) L fun a s _ L=>?_)
  refine sx 15 (zd (o_t 16 J) J J) L fun a s _ L=>en' (hK9 _ _ ?_)
  refine cnd L J (fun hb_=>?_) (fun hb_=>?_)
  ·replace h:=h.1 hb_
   refine wp_seq_k fun K10 hK10=>rg (sx 17 (t_fa (off:=10) (o_t 1 J) Tryz.underlying170 J (zg (zn (zj _ _)) J) J ty77 J J) L fun a s _ L=>?_)
   refine sx 18 (t_fa (off:=1) (o_t 17 J) Tryz.underlying77 J (zg (zn (zj _ _)) J) J ty3 J J) L fun a s _ L=>sx 19 (zo ty3 (o_t 18 J) J J) L fun a s _ L=>sx 20 (t_fa (off:=14) (o_t 1 J) Tryz.underlying170 J (zg (zg (zj _ _) J) J) J ty5 J J) L fun a s _ L=>sx 21 (zo ty5 (o_t 20 J) J J) L fun a s _ L=>sx 22 (t_up (o_t 21 J) (by decide) Tryz.underlying5 Tryz.underlying3 J J) L fun a s _ L=>sx 23 (zdn (x:=(4,s_.2.1.2.1,s_.2.2,0)) (ps:=[(0,.const (.int .i64 4)),(1,.tmp 19),(2,.tmp 22)]) tyz77 J stt77 (.cons (i:=0) oI J (zbl (zy _ _ _)) (.cons (i:=1) (o_t 19 J) J (z6 (zbl (zy _ _ _)) J) (.cons (i:=2) (o_t 22 J) J (z6 (z6 (zbl (zy _ _ _)) J) J) .nil))) J J) L fun a s _ L=>st_lito (xs:=[.tmp 23]) 24 L (.cons (o_t 23 J) .nil) Tryz.underlying46 ty77 J J (by decide) J J J J fun a s g11 hg_ L=>?_
   refine sx 2 (zd (o_t 24 J) J J) L fun a s _ L=>sx 3 (zd o_b J J) L fun a s _ L=>en' (hK10 _ _ ?_)
   subst h
   exact wp_ret (reto2 J L J J)
  ·replace h:=h.2 hb_
   refine wp_skip ?_
   show K2 a s.w
   refine hK2 _ _ (wp_seq_k fun K12 hK12=>?_)
   obtain ⟨r13,h14,h⟩:=h
   refine rg (sx 25 (t_fa (off:=0) (o_t 1 J) Tryz.underlying170 J (zn (zj _ _)) J ty68 J J) L fun a s _ L=>?_)
   refine sx 26 (t_fa (off:=5) (o_t 25 J) Tryz.underlying68 J (zg (zg (zg (zg (zg (zn (zj _ _)) J) J) J) J) J) J ty51 J J) L fun a s _ L=>sx 27 (zo ty51 (o_t 26 J) J J) L fun a s _ L=>sx 28 (t_fa (off:=14) (o_t 1 J) Tryz.underlying170 J (zg (zg (zj _ _) J) J) J ty5 J J) L fun a s _ L=>sx 29 (zo ty5 (o_t 28 J) J J) L fun a s _ L=>sx 30 (zu (class_Has_ok h14) (xs:=[.tmp 27,.tmp 29]) (.cons (o_t 27 J) (.cons (o_t 29 J) .nil)) J J) L fun a s _ L=>sx 2 (zd (o_nil (E:=En.SItem) (N:=s0.w.heap.size) (te:=77)) J J) L fun a s _ L=>sx 3 (zd (o_t 30 J) J J) L fun a s _ L=>en' (hK12 _ _ ?_)
   subst h
   exact wp_ret (reto2 J L J J)
theorem next_step_text_ok {s_:Sstep_next} {r_:((List SItem) × Bool)} (h:next_step_text s_ r_):Fn Tryz.prog 210 [(Pd.rep En.Sstep_next s_)] (Ro2 En.SItem 77 r_.1 (Pd.rep En.bool r_.2)):=by
 unfold next_step_text at h
 refine fn_of Tryz.func210 J Tryz.ntmps210 (by rfl) (by simp) fun s0 a L=>?_
 refine wp_seq_k fun K1 hK1=>rg (sx 1 (t_box (o_t 0 J) J J) L fun a s _ L=>?_)
 refine sx 2 (zd (o_nil (E:=En.SItem) (N:=s0.w.heap.size) (te:=77)) J J) L fun a s _ L=>sx 3 (zd o_b J J) L fun a s _ L=>en' (hK1 _ _ ?_)
 refine wp_seq_k fun K2 hK2=>rg (sx 5 (t_fa (off:=10) (o_t 1 J) Tryz.underlying170 J (zg (zn (zj _ _)) J) J ty77 J J) L fun a s _ L=>?_)
 refine sx 6 (zo ty77 (o_t 5 J) J J) L fun a s _ L=>zbb En.SItem (z:=(0,0,0,0)) 4 L tyz77 J J J J fun a s g3 hg_ L=>?_
 refine zca (L':=[(1,(Pd.ptr En.Sstep_next s_))]) 4 L J (o_t 6 J) ty77 J J J (.k 1 .nil) fun s L=>?_
 refine en' (hK2 _ _ ?_)
 refine wp_seq_k fun K4 hK4=>?_
 obtain ⟨h5,h⟩:=h
 refine rg (sx 7 (t_fab (off:=2) (o_t 4 J) Tryz.underlying77 J (zg (zg (zn (zj _ _)) J) J) J ty3 J J) L fun a s _ L=>?_)
 refine sx 8 (zt ty3 (o_t 7 J) J J) L fun a s _ L=>sx 9 (t_add (o_t 8 J) oI h5 J J) L fun a s _ L=>sx 10 (t_fab (off:=2) (o_t 4 J) Tryz.underlying77 J (zg (zg (zn (zj _ _)) J) J) J ty3 J J) L fun a s _ L=>zdp (L':=[(1,(Pd.ptr En.Sstep_next s_))]) 4 L J (o_t 10 J) (o_t 9 J) (z6 (z6 (zbl (zy _ _ _)) J) J) ty3 J J J (.k 1 .nil) fun s L=>?_
 refine en' (hK4 _ _ ?_)
 refine wp_seq_k fun K6 hK6=>wp_seq_k fun K7 hK7=>?_
 obtain ⟨b8,h9,h⟩:=h
 refine rg (sx 11 (t_fab (off:=2) (o_t 4 J) Tryz.underlying77 J (zg (zg (zn (zj _ _)) J) J) J ty3 J J) L fun a s _ L=>?_)
 refine sx 12 (zt ty3 (o_t 11 J) J J) L fun a s _ L=>sx 13 (t_fa (off:=0) (o_t 1 J) Tryz.underlying170 J (zn (zj _ _)) J ty68 J J) L fun a s _ L=>sx 14 (t_fa (off:=9) (o_t 13 J) Tryz.underlying68 J (zg (zg (zg (zg (zg (zg (zj _ _) J) J) J) J) J) J) J ty9 J J) L fun a s _ L=>sx 15 (zo ty9 (o_t 14 J) J J) L fun a s _ L=>sx 16 (t_slen (o_t 15 J) Tryz.underlying9 J J) L fun a s _ L=>sx 17 (h9 ▸ (t_eqi (o_t 12 J) (o_t 16 J) J J)) L fun a s _ L=>en' (hK7 _ _ ?_)
 refine cnd L J (fun hb_=>?_) (fun hb_=>?_)
 ·replace h:=h.1 hb_
  refine wp_seq_k fun K10 hK10=>?_
  obtain ⟨c11,h12,h⟩:=h
  refine rda zbk 12 [(Pd.ptr En.SNode s_.1),(Pd.ptr En.str s_.1.2.2.2.2.2.2),(Pd.rep En.str s_.1.2.2.2.2.2.2),(Pd.ptr En.SItem s_.2.1),(Pd.ptr (En.int .i64) s_.2.1.2.2.1),(Pi s_.2.1.2.2.1),(Pd.rep (En.int .u8) c11),(Pd.ptr (En.int .u8) s_.2.2),(Pd.rep (En.int .u8) s_.2.2),(Pd.rep En.bool (c11==s_.2.2)),(Pd.row En.SItem s0.w.heap.size 77 none ([]:(List SItem))),(Pd.rep En.bool (c11==s_.2.2))] L (by kernel_rfl) J J ?_ ?_
  ·refine AllT.cons (t_fa (off:=0) (o_t 1 J) Tryz.underlying170 J (zn (zj _ _)) J ty68 J J) ?_
   refine AllT.cons (t_fa (off:=9) (o_t 18 J) Tryz.underlying68 J (zg (zg (zg (zg (zg (zg (zj _ _) J) J) J) J) J) J) J ty9 J J) (AllT.cons (zo ty9 (o_t 19 J) J J) ?_)
   refine AllT.cons (t_fa (off:=10) (o_t 1 J) Tryz.underlying170 J (zg (zn (zj _ _)) J) J ty77 J J) (AllT.cons (t_fa (off:=2) (o_t 21 J) Tryz.underlying77 J (zg (zg (zn (zj _ _)) J) J) J ty3 J J) ?_)
   refine AllT.cons (zo ty3 (o_t 22 J) J J) (AllT.cons (t_sidx (o_t 20 J) (o_t 23 J) h12 Tryz.underlying9 J J) ?_)
   refine AllT.cons (t_fa (off:=14) (o_t 1 J) Tryz.underlying170 J (zg (zg (zj _ _) J) J) J ty5 J J) (AllT.cons (zo ty5 (o_t 25 J) J J) ?_)
   refine AllT.cons (t_eqi (o_t 24 J) (o_t 26 J) J J) (AllT.cons (zd (o_nil (E:=En.SItem) (N:=s0.w.heap.size) (te:=77)) J J) ?_)
   refine AllT.cons (zd (o_t 27 J) J J) ?_
   exact AllT.nil
  intro a s _ L
  refine en' (hK10 _ _ ?_)
  subst h
  exact wp_ret (reto2 J L J J)
 ·replace h:=h.2 hb_
  refine wp_skip ?_
  show K6 a s.w
  refine hK6 _ _ (wp_seq_k fun K13 hK13=>?_)
  obtain ⟨c16,h17,h⟩:=h
  obtain ⟨K14,hK14,nK14,L⟩:=L.mark 999983
  have lt15:∀k,(some g3)=some k→k<K14:=by rw [hK14];exact L.blt 4 rfl
  refine rda zbk 14 [(Pd.rep En.SItem (s_.2.1.1,s_.2.1.2.1,s_.2.1.2.2.1+1,s_.2.1.2.2.2)),(Pd.erow En.SItem s0.w.heap.size K14 77 [(s_.2.1.1,s_.2.1.2.1,s_.2.1.2.2.1+1,s_.2.1.2.2.2)]),(Pd.ptr En.SNode s_.1),(Pd.ptr En.str s_.1.2.2.2.2.2.2),(Pd.rep En.str s_.1.2.2.2.2.2.2),(Pd.ptr En.SItem s_.2.1),(Pd.ptr (En.int .i64) s_.2.1.2.2.1),(Pi s_.2.1.2.2.1),(Pd.rep (En.int .u8) c16),(Pd.ptr (En.int .u8) s_.2.2),(Pd.rep (En.int .u8) s_.2.2),(Pd.rep En.bool (c16==s_.2.2)),(Pd.erow En.SItem s0.w.heap.size K14 77 [(s_.2.1.1,s_.2.1.2.1,s_.2.1.2.2.1+1,s_.2.1.2.2.2)]),(Pd.rep En.bool (c16==s_.2.2))] L (by kernel_rfl) J J ?_ ?_
  ·refine AllT.cons (zbh ty77 (o_t 4 J) J J) ?_
   refine AllT.cons (t_litx (xs:=[.tmp 28]) (K:=K14) (m:=999983) J nK14 (.cons (o_t 28 J) .nil) Tryz.underlying46 ty77 J J (by decide) J J) (AllT.cons (t_fa (off:=0) (o_t 1 J) Tryz.underlying170 J (zn (zj _ _)) J ty68 J J) ?_)
   refine AllT.cons (t_fa (off:=9) (o_t 30 J) Tryz.underlying68 J (zg (zg (zg (zg (zg (zg (zj _ _) J) J) J) J) J) J) J ty9 J J) (AllT.cons (zo ty9 (o_t 31 J) J J) ?_)
   refine AllT.cons (t_fa (off:=10) (o_t 1 J) Tryz.underlying170 J (zg (zn (zj _ _)) J) J ty77 J J) (AllT.cons (t_fa (off:=2) (o_t 33 J) Tryz.underlying77 J (zg (zg (zn (zj _ _)) J) J) J ty3 J J) ?_)
   refine AllT.cons (zo ty3 (o_t 34 J) J J) (AllT.cons (t_sidx (o_t 32 J) (o_t 35 J) h17 Tryz.underlying9 J J) ?_)
   refine AllT.cons (t_fa (off:=14) (o_t 1 J) Tryz.underlying170 J (zg (zg (zj _ _) J) J) J ty5 J J) (AllT.cons (zo ty5 (o_t 37 J) J J) ?_)
   refine AllT.cons (t_eqi (o_t 36 J) (o_t 38 J) J J) (AllT.cons (zd (o_t 29 J) J J) ?_)
   refine AllT.cons (zd (o_t 39 J) J J) ?_
   exact AllT.nil
  intro a s _ L
  obtain ⟨og18,hg_,L⟩:=L.openr 2 rfl
  have d19:Dis og18 (some g3):=Dis.new hg_ lt15
  refine en' (hK13 _ _ ?_)
  subst h
  exact wp_ret (reto2 J L J J)
theorem next_step_half_ok {s_:Sstep_next} {r_:((List SItem) × Bool)} (h:next_step_half s_ r_):Fn Tryz.prog 207 [(Pd.rep En.Sstep_next s_)] (Ro2 En.SItem 77 r_.1 (Pd.rep En.bool r_.2)):=by
 unfold next_step_half at h
 refine fn_of Tryz.func207 J Tryz.ntmps207 (by rfl) (by simp) fun s0 a L=>?_
 refine wp_seq_k fun K1 hK1=>rg (sx 1 (t_box (o_t 0 J) J J) L fun a s _ L=>?_)
 refine sx 2 (zd (o_nil (E:=En.SItem) (N:=s0.w.heap.size) (te:=77)) J J) L fun a s _ L=>sx 3 (zd o_b J J) L fun a s _ L=>en' (hK1 _ _ ?_)
 refine wp_seq_k fun K2 hK2=>?_
 obtain ⟨h3,h4,r5,h6,h⟩:=h
 refine rg (sx 4 (t_fa (off:=0) (o_t 1 J) Tryz.underlying170 J (zn (zj _ _)) J ty68 J J) L fun a s _ L=>?_)
 refine sx 5 (zo ty68 (o_t 4 J) J J) L fun a s _ L=>sx 6 (t_fa (off:=10) (o_t 1 J) Tryz.underlying170 J (zg (zn (zj _ _)) J) J ty77 J J) L fun a s _ L=>sx 7 (t_fa (off:=2) (o_t 6 J) Tryz.underlying77 J (zg (zg (zn (zj _ _)) J) J) J ty3 J J) L fun a s _ L=>sx 8 (zo ty3 (o_t 7 J) J J) L fun a s _ L=>sx 9 (t_mul oI (o_t 8 J) h3 J J) L fun a s _ L=>sx 10 (t_fa (off:=14) (o_t 1 J) Tryz.underlying170 J (zg (zg (zj _ _) J) J) J ty5 J J) L fun a s _ L=>sx 11 (zo ty5 (o_t 10 J) J J) L fun a s _ L=>sx 12 (t_up (o_t 11 J) (by decide) Tryz.underlying5 Tryz.underlying3 J J) L fun a s _ L=>sx 13 (t_add (o_t 9 J) (o_t 12 J) h4 J J) L fun a s _ L=>?_
 refine zcb 14 L (next_frame_ok h6) (xs:=[.tmp 5,.tmp 13]) (.cons (o_t 5 J) (.cons (o_t 13 J) .nil)) J J J J fun a s og7 hg_ L=>?_
 refine sx 2 (zd (o_t 14 J) J J) L fun a s _ L=>sx 3 (zd o_b J J) L fun a s _ L=>en' (hK2 _ _ ?_)
 subst h
 exact wp_ret (reto2 J L J J)
theorem dyn0_ok {f_:Option Nat} {x0_:Sstep_next} {r_:((List SItem) × Bool)} (h:dyn0 f_ x0_ r_):∃f,f_=some f∧Fn Tryz.prog f [Pd.rep En.Sstep_next x0_] (Rq (Pd.tup2 (Pd.rep (En.slice En.SItem) r_.1) (Pd.rep En.bool r_.2))):=by
 rcases h with ⟨e,h⟩ | ⟨e,h⟩ | ⟨e,h⟩
 ·exact ⟨209,e,((next_step_node_ok h).frz2 (Pd.rep_stable _ _)).tup⟩
 ·exact ⟨210,e,((next_step_text_ok h).frz2 (Pd.rep_stable _ _)).tup⟩
 ·exact ⟨207,e,((next_step_half_ok h).frz2 (Pd.rep_stable _ _)).tup⟩
theorem next_Read_ok {d_:SDesc} {s_:(List SItem)} {cv_:Int} {r_:((List SItem) × Bool)} (h:next_Read d_ s_ cv_ r_):Fn Tryz.prog 90 [(Pd.rep En.SDesc d_),(Pd.rep (En.slice En.SItem) s_),(Pd.rep (En.int .u8) cv_)] (Ro2 En.SItem 77 r_.1 (Pd.rep En.bool r_.2)):=by
 unfold next_Read at h
 refine fn_of Tryz.func90 J Tryz.ntmps90 (by rfl) (by simp) fun s0 a L=>?_
 refine wp_seq_k fun K1 hK1=>rg (sx 3 (t_box (o_t 0 J) J J) L fun a s _ L=>?_)
 refine sx 6 (zd (o_nil (E:=En.SItem) (N:=s0.w.heap.size) (te:=77)) J J) L fun a s _ L=>sx 7 (zd o_b J J) L fun a s _ L=>en' (hK1 _ _ ?_)
 refine wp_seq_k fun K2 hK2=>wp_seq_k fun K3 hK3=>rg (sx 14 (zb (o_t 1 J) J J) L fun a s _ L=>?_)
 refine sx 15 (t_len (o_t 14 J) Tryz.underlying47 J J) L fun a s _ L=>sx 16 (t_eqi (o_t 15 J) oI J J) L fun a s _ L=>en' (hK3 _ _ ?_)
 refine cnd L J (fun hb_=>?_) (fun hb_=>?_)
 ·replace h:=h.1 hb_
  refine wp_seq_k fun K4 hK4=>rg (sx 6 (zd (o_nil (E:=En.SItem) (N:=s0.w.heap.size) (te:=77)) J J) L fun a s _ L=>?_)
  refine sx 7 (zd o_b J J) L fun a s _ L=>en' (hK4 _ _ ?_)
  subst h
  exact wp_ret (reto2 J L J J)
 ·replace h:=h.2 hb_
  refine wp_skip ?_
  show K2 a s.w
  refine hK2 _ _ (wp_seq_k fun K5 hK5=>?_)
  obtain ⟨h6,r7,h8,h⟩:=h
  refine rg (sx 18 (zb (o_t 1 J) J J) L fun a s _ L=>?_)
  refine sx 19 (t_from (o_t 18 J) oI h6 Tryz.underlying47 ty77 J J) L fun a s _ L=>sx 20 (zu (((item_Lower_ok h8).frz2 (Pd.rep_stable _ _)).tup) (xs:=[.tmp 19]) (.cons (o_t 19 J) .nil) J J) L fun a s _ L=>sx 17 (zb (o_t 20 J) J J) L fun a s _ L=>sx 21 (t_ext0 (o_t 17 J) J J) L fun a s _ L=>sx 22 (t_ext1 (o_t 17 J) J J) L fun a s _ L=>sx 8 (zd (o_t 21 J) J J) L fun a s _ L=>sx 9 (zd (o_t 22 J) J J) L fun a s _ L=>en' (hK5 _ _ ?_)
  refine wp_seq_k fun K9 hK9=>?_
  obtain ⟨e10,h11,h⟩:=h
  refine rda zbk 11 [(Pd.rep (En.fmap (En.int .i64) kvI64 En.fid) gfm0),(Pd.rep (En.slice En.SItem) s_),(Pd.ptr En.SItem e10),(Pd.ptr (En.int .i64) e10.1),(Pi e10.1),(Pd.tup2 (Pd.rep En.fid (mget gfm0 e10.1 none)) (Pd.rep En.bool (mhas gfm0 e10.1))),(Pd.tup2 (Pd.rep En.fid (mget gfm0 e10.1 none)) (Pd.rep En.bool (mhas gfm0 e10.1))),(Pd.rep En.fid (mget gfm0 e10.1 none)),(Pd.rep En.bool (mhas gfm0 e10.1)),(Pd.rep En.fid (mget gfm0 e10.1 none)),(Pd.rep En.bool (mhas gfm0 e10.1))] L (by kernel_rfl) J J ?_ ?_
  ·refine AllT.cons (zo (⟨⟨_,_,J,J,J,J,by decide⟩,_,J,J⟩:Ty Tryz.prog 167 (En.fmap (En.int .i64) kvI64 En.fid)) (o_gm (g:=0) (by simp [gmap])) J J) ?_
   refine AllT.cons (zb (o_t 1 J) J J) (AllT.cons (t_idx (o_t 25 J) oI h11 Tryz.underlying47 ty77 J J) ?_)
   refine AllT.cons (t_fa (off:=0) (o_t 26 J) Tryz.underlying77 J (zn (zj _ _)) J ty3 J J) (AllT.cons (zo ty3 (o_t 27 J) J J) ?_)
   refine AllT.cons (t_mgetfok (z:=none) (o_t 24 J) (o_t 28 J) Tryz.underlying167 (key_i64 Tryz.underlying3) (⟨_,[.nilFunc],J,by rfl,fun _ _=>J⟩:TyV Tryz.prog 165 En.fid none) J J) (AllT.cons (zb (o_t 29 J) J J) ?_)
   refine AllT.cons (t_ext0 (o_t 23 J) J J) (AllT.cons (t_ext1 (o_t 23 J) J J) ?_)
   refine AllT.cons (zd (o_t 30 J) J J) (AllT.cons (zd (o_t 31 J) J J) ?_)
   exact AllT.nil
  intro a s _ L
  refine en' (hK9 _ _ ?_)
  refine wp_seq_k fun K12 hK12=>wp_seq_k fun K13 hK13=>rg (sx 32 (zb (o_t 9 J) J J) L fun a s _ L=>?_)
  refine sx 33 (t_not (o_t 32 J) J J) L fun a s _ L=>sx 34 (zb (o_t 33 J) J J) L fun a s _ L=>sx 35 (t_g1 J J J (fun hc_=>zb (o_t 11 J) J J)) L fun a s _ L=>sx 36 (t_g1 J J J (fun hc_=>t_not (o_w hc_ 35 J) J J)) L fun a s _ L=>sx 37 (t_or (o_t 34 J) (fun hc2_=>(o_w hc2_ 36 J)) J J) L fun a s _ L=>en' (hK13 _ _ ?_)
  refine cnd L J (fun hb_=>?_) (fun hb_=>?_)
  ·replace h:=h.1 hb_
   refine wp_seq_k fun K14 hK14=>rg (sx 6 (zd (o_nil (E:=En.SItem) (N:=s0.w.heap.size) (te:=77)) J J) L fun a s _ L=>?_)
   refine sx 7 (zd o_b J J) L fun a s _ L=>en' (hK14 _ _ ?_)
   subst h
   exact wp_ret (reto2 J L J J)
  ·replace h:=h.2 hb_
   refine wp_skip ?_
   show K12 a s.w
   refine hK12 _ _ (wp_seq_k fun K15 hK15=>?_)
   obtain ⟨e16,h17,e18,h19,e20,h21,r22,h23,h⟩:=h
   refine rda zbk 20 [(Pd.rep En.fid (mget gfm0 e10.1 none)),(Pd.ptr (En.slice En.SNode) d_),(Pd.rep (En.slice En.SNode) d_),(Pd.rep (En.slice En.SItem) s_),(Pd.ptr En.SItem e16),(Pd.ptr (En.int .i64) e16.2.1),(Pi e16.2.1),(Pd.ptr En.SNode e18),(Pd.rep En.SNode e18),(Pd.rep (En.slice En.SItem) s_),(Pd.ptr En.SItem e20),(Pd.rep En.SItem e20),(Pd.rep (En.int .u8) cv_),(Pd.rep En.Sstep_next (e18,e20,cv_)),(Pd.tup2 (Pd.rep (En.slice En.SItem) r22.1) (Pd.rep En.bool r22.2)),(Pd.tup2 (Pd.rep (En.slice En.SItem) r22.1) (Pd.rep En.bool r22.2)),(Pd.rep (En.slice En.SItem) r22.1),(Pd.rep En.bool r22.2),(Pd.rep (En.slice En.SItem) r22.1),(Pd.rep En.bool r22.2)] L (by kernel_rfl) J J ?_ ?_
   ·refine AllT.cons (zb (o_t 10 J) J J) ?_
    refine AllT.cons (t_fa (off:=0) (o_t 3 J) Tryz.underlying24 J (zcs (zj _ _)) J ty22 J J) (AllT.cons (zo ty22 (o_t 40 J) J J) ?_)
    refine AllT.cons (zb (o_t 1 J) J J) (AllT.cons (t_idx (o_t 42 J) oI h17 Tryz.underlying47 ty77 J J) ?_)
    refine AllT.cons (t_fa (off:=1) (o_t 43 J) Tryz.underlying77 J (zg (zn (zj _ _)) J) J ty3 J J) (AllT.cons (zo ty3 (o_t 44 J) J J) ?_)
    refine AllT.cons (t_idx (o_t 41 J) (o_t 45 J) h19 Tryz.underlying22 ty68 J J) (AllT.cons (zo ty68 (o_t 46 J) J J) ?_)
    refine AllT.cons (zb (o_t 1 J) J J) (AllT.cons (t_idx (o_t 48 J) oI h21 Tryz.underlying47 ty77 J J) ?_)
    refine AllT.cons (zo ty77 (o_t 49 J) J J) (AllT.cons (zb (o_t 2 J) J J) ?_)
    refine AllT.cons (zdn (x:=(e18,e20,cv_)) (ps:=[(0,.tmp 47),(1,.tmp 50),(2,.tmp 51)]) tyz170 J stt170 (.cons (i:=0) (o_t 47 J) J (zbl (zy _ _ _)) (.cons (i:=1) (o_t 50 J) J (z6 (zbl (zy _ _ _)) J) (.cons (i:=2) (o_t 51 J) J (z6 (z6 (zy _ _ _) J) J) .nil))) J J) (AllT.cons (t_callid (dyn0_ok h23) (o_t 39 J) (xs:=[.tmp 52]) (.cons (o_t 52 J) .nil) J J) ?_)
    refine AllT.cons (zb (o_t 53 J) J J) (AllT.cons (t_ext0 (o_t 38 J) J J) ?_)
    refine AllT.cons (t_ext1 (o_t 38 J) J J) (AllT.cons (zd (o_t 54 J) J J) ?_)
    refine AllT.cons (zd (o_t 55 J) J J) ?_
    exact AllT.nil
   intro a s _ L
   refine en' (hK15 _ _ ?_)
   refine wp_seq_k fun K24 hK24=>wp_seq_k fun K25 hK25=>rg (sx 56 (zb (o_t 13 J) J J) L fun a s _ L=>?_)
   refine sx 57 (t_not (o_t 56 J) J J) L fun a s _ L=>en' (hK25 _ _ ?_)
   refine cnd L J (fun hb_=>?_) (fun hb_=>?_)
   ·replace h:=h.1 hb_
    refine wp_seq_k fun K26 hK26=>rg (sx 6 (zd (o_nil (E:=En.SItem) (N:=s0.w.heap.size) (te:=77)) J J) L fun a s _ L=>?_)
    refine sx 7 (zd o_b J J) L fun a s _ L=>en' (hK26 _ _ ?_)
    subst h
    exact wp_ret (reto2 J L J J)
   ·replace h:=h.2 hb_
    refine wp_skip ?_
    show K24 a s.w
    refine hK24 _ _ (wp_seq_k fun K27 hK27=>?_)
    obtain ⟨r28,h29,h⟩:=h
    refine rg (sx 58 (zb (o_t 12 J) J J) L fun a s _ L=>?_)
    refine sx 59 (zb (o_t 8 J) J J) L fun a s _ L=>sx 60 (t_lit (xs:=[.tmp 58,.tmp 59]) (.cons (o_t 58 J) (.cons (o_t 59 J) .nil)) Tryz.underlying25 ty47 J J (by decide) J J) L fun a s _ L=>zcb 61 L (zc3 h29) (xs:=[.tmp 60]) (.cons (o_t 60 J) .nil) J J J J fun a s og30 hg_ L=>?_
    refine sx 6 (zd (o_t 61 J) J J) L fun a s _ L=>sx 7 (zd o_b J J) L fun a s _ L=>en' (hK27 _ _ ?_)
    subst h
    exact wp_ret (reto2 J L J J)
theorem next_On_ok {d_:SDesc} {s_:(List SItem)} {cv_:Int} {r_:(List SBranch)} (h:zbn d_ s_ cv_ r_):Fn Tryz.prog 55 [(Pd.rep En.SDesc d_),(Pd.rep (En.slice En.SItem) s_),(Pd.rep (En.int .u8) cv_)] (Ro En.SBranch 82 r_):=by
 unfold zbn at h
 refine fn_of Tryz.func55 J Tryz.ntmps55 (by rfl) (by simp) fun s0 a L=>?_
 refine wp_seq_k fun K1 hK1=>rg (sx 3 (t_box (o_t 0 J) J J) L fun a s _ L=>?_)
 refine sx 6 (zd (o_nil (E:=En.SBranch) (N:=s0.w.heap.size) (te:=82)) J J) L fun a s _ L=>en' (hK1 _ _ ?_)
 refine wp_seq_k fun K2 hK2=>rg (st_mkmap 15 En.str kvStr (En.int .i64) L J J J J fun a s g3 hg_ L=>?_)
 refine sx 7 (zd (o_t 15 J) J J) L fun a s _ L=>en' (hK2 _ _ ?_)
 refine wp_seq_k fun K4 hK4=>rg (sx 8 (zd (o_nil (E:=En.SBranch) (N:=s0.w.heap.size) (te:=82)) J J) L fun a s _ L=>?_)
 refine en' (hK4 _ _ ?_)
 refine wp_seq_k fun K5 hK5=>wp_seq_k fun K6 hK6=>?_
 obtain ⟨r7,h8,h⟩:=h
 refine rg (sx 16 (zo ty24 (o_t 3 J) J J) L fun a s _ L=>?_)
 refine sx 17 (zb (o_t 1 J) J J) L fun a s _ L=>sx 18 (zu ((heads_Heads_ok h8).frz) (xs:=[.tmp 16,.tmp 17]) (.cons (o_t 16 J) (.cons (o_t 17 J) .nil)) J J) L fun a s _ L=>sx 19 (t_len (o_t 18 J) Tryz.underlying79 J J) L fun a s _ L=>sx 20 (zb oI J J) L fun a s _ L=>en' (hK6 _ _ ?_)
 refine wp_block ?_
 have J13:∀(many9:(List (Str × Int))) (out11:(List SBranch)) (og10:Option Nat) (og12:Option Nat) (a:Act) (s:St),Has N0 76 s0 a s [(7,(Pd.map En.str kvStr (En.int .i64) s0.w.heap.size og10 many9)),(8,(Pd.row En.SBranch s0.w.heap.size 82 og12 out11))]→Dis og10 og12→((zbn.j2 r_) many9 out11)→K5 a s.w:=by
  intro many9 out11 og10 og12 a s L d14 h
  unfold zbn.j2 at h
  show K5 a s.w
  refine hK5 _ _ (wp_seq_k fun K15 hK15=>?_)
  refine wp_seq_k fun K16 hK16=>rg (sx 55 (zb (o_t 8 J) J J) L fun a s _ L=>?_)
  refine sx 56 (t_leno (o_t 55 J) Tryz.underlying79 J J) L fun a s _ L=>sx 57 (zb oI J J) L fun a s _ L=>en' (hK16 _ _ ?_)
  refine wp_block ?_
  have J19:∀(out17:(List SBranch)) (og18:Option Nat) (a:Act) (s:St),Has N0 76 s0 a s [(8,(Pd.row En.SBranch s0.w.heap.size 82 og18 out17))]→((zbn.j1 r_) out17)→K15 a s.w:=by
   intro out17 og18 a s L h
   unfold zbn.j1 at h
   show K15 a s.w
   refine hK15 _ _ (wp_seq_k fun K20 hK20=>?_)
   obtain ⟨r21,h22,h⟩:=h
   refine rg (sx 73 (zb (o_t 8 J) J J) L fun a s _ L=>?_)
   refine st_callr (L':=[(8,(Pd.row En.SBranch s0.w.heap.size 82 og18 r21))]) 74 (fun v0=>sort_next_On_1_ok v0 h22) L (o_t 73 J) (zs:=[.func 92]) (.cons o_isf .nil) J J J J (.turn (t:=8) J .nil) fun a s L=>?_
   refine en' (hK20 _ _ ?_)
   refine wp_seq_k fun K23 hK23=>rg (sx 75 (zb (o_t 8 J) J J) L fun a s _ L=>?_)
   refine sx 6 (zd (o_t 75 J) J J) L fun a s _ L=>en' (hK23 _ _ ?_)
   subst h
   exact wp_ret (reto J L J)
  obtain ⟨k27,h⟩:=h
  refine lpg (fun k28 a s=>∃(out24:(List SBranch)) (v26:Int) (og25:Option Nat),Has N0 76 s0 a s [(7,(Pd.map En.str kvStr (En.int .i64) s0.w.heap.size og10 many9)),(8,(Pd.row En.SBranch s0.w.heap.size 82 og25 out24)),(56,(Pi (out11.length:Int))),(57,(Pi v26))]∧Dis og10 og25∧zbn.l1 many9 out11 (zbn.j1 r_) k28 out24 v26) k27 ⟨out11,0,og12,L.keep (.cons (t:=7) J (fun _ _ h_=>h_) (.cons (t:=8) J (fun _ _ h_=>h_) (.k 56 (.k 57 .nil)))),d14,h⟩ ?_
  rintro k28 a s ⟨out24,v26,og25,L,d30,h⟩ KL29 hKL29
  cases k28 with
  | zero=>exact h.elim
  | succ k28=>
  unfold zbn.l1 at h
  refine wp_seq_k fun K31 hK31=>rg (sx 58 (t_lss (o_t 57 J) (o_t 56 J) J J) L fun a s _ L=>?_)
  refine en' (hK31 _ _ ?_)
  refine wp_seq_k fun K32 hK32=>cnd L J (fun hb_=>?_) (fun hb_=>?_)
  ·replace h:=h.1 hb_
   refine wp_skip ?_
   show K32 a s.w
   refine hK32 _ _ (wp_seq_k fun K33 hK33=>?_)
   refine wp_block (wp_seq_k fun K34 hK34=>?_)
   refine rg (sx 59 (zb (o_t 57 J) J J) L fun a s _ L=>?_)
   refine sx 14 (zd (o_t 59 J) J J) L fun a s _ L=>en' (hK34 _ _ ?_)
   obtain ⟨e35,h36,r37,h38,e39,h40,h⟩:=h
   refine rg (sx 60 (zb (o_t 8 J) J J) L fun a s _ L=>?_)
   refine sx 61 (zb (o_t 14 J) J J) L fun a s _ L=>sx 62 (zb (o_t 7 J) J J) L fun a s _ L=>sx 63 (zb (o_t 8 J) J J) L fun a s _ L=>sx 64 (zb (o_t 14 J) J J) L fun a s _ L=>sx 65 (zbx (o_t 63 J) (o_t 64 J) h36 Tryz.underlying79 ty82 J J) L fun a s _ L=>sx 66 (t_fao (off:=0) (o_t 65 J) Tryz.underlying82 J (zn (zj _ _)) J ty47 J J) L fun a s _ L=>sx 67 (zt ty47 (o_t 66 J) J J) L fun a s _ L=>sx 68 (zu (item_Key_ok h38) (xs:=[.tmp 67]) (.cons (o_t 67 J) .nil) J J) L fun a s _ L=>sx 69 (t_mget (o_t 62 J) (o_t 68 J) Tryz.underlying124 (zej Tryz.underlying9) tyv3 J J) L fun a s _ L=>?_
   refine sx 70 (zbx (o_t 60 J) (o_t 61 J) h40 Tryz.underlying79 ty82 J J) L fun a s _ L=>sx 71 (t_fao (off:=1) (o_t 70 J) Tryz.underlying82 J (zg (zj _ _) J) J ty3 J J) L fun a s _ L=>st_stor (L':=[(7,(Pd.map En.str kvStr (En.int .i64) s0.w.heap.size og10 many9)),(8,(Pd.row En.SBranch s0.w.heap.size 82 og25 (out24.set (v26:Int).toNat (e39.1,(mget many9 r37 0))))),(56,(Pi (out11.length:Int))),(57,(Pi v26))]) (off:=1) 8 L J h40 (o_t 71 J) (o_t 69 J) (z6 (zy _ _ _) J) ty3 J J J (.cons (t:=7) J (Dis.ow d30) (.turn (t:=8) J (.k 56 (.k 57 .nil)))) fun s L=>?_
   refine en' (hK33 _ _ ?_)
   obtain ⟨h41,h⟩:=h
   refine rg (sx 72 (t_add (o_t 57 J) oI h41 J J) L fun a s _ L=>?_)
   refine sx 57 (zb (o_t 72 J) J J) L fun a s _ L=>en' ?_
   exact hKL29 k28 a s (Nat.lt_succ_self _) ⟨(out24.set (v26:Int).toNat (e39.1,(mget many9 r37 0))),(v26+1),og25,L.keep (.cons (t:=7) J (fun _ _ h_=>h_) (.cons (t:=8) J (fun _ _ h_=>h_) (.k 56 (.k 57 .nil)))),d30,h⟩
  ·replace h:=h.2 hb_
   refine wp_exit ?_
   exact J19 out24 og25 a s (L.keep (.cons (t:=8) J (fun _ _ h_=>h_) .nil)) h
 obtain ⟨k47,h⟩:=h
 refine lpg (fun k48 a s=>∃(many42:(List (Str × Int))) (out44:(List SBranch)) (v46:Int) (og43:Option Nat) (og45:Option Nat),Has N0 76 s0 a s [(2,(Pd.rep (En.int .u8) cv_)),(3,(Pd.ptr En.SDesc d_)),(7,(Pd.map En.str kvStr (En.int .i64) s0.w.heap.size og43 many42)),(8,(Pd.row En.SBranch s0.w.heap.size 82 og45 out44)),(18,(Pd.rep (En.slice En.SBranch) r7)),(19,(Pi (r7.length:Int))),(20,(Pi v46))]∧Dis og43 og45∧zbn.l2 d_ cv_ r7 (zbn.j2 r_) k48 many42 out44 v46) k47 ⟨([]:(List (Str × Int))),([]:(List SBranch)),0,(some g3),none,L.keep (.k 2 (.k 3 (.cons (t:=7) J (fun _ _ h_=>h_) (.cons (t:=8) J (fun _ _ h_=>h_) (.k 18 (.k 19 (.k 20 .nil))))))),(Dis.symm Dis.none),h⟩ ?_
 rintro k48 a s ⟨many42,out44,v46,og43,og45,L,d50,h⟩ KL49 hKL49
 cases k48 with
 | zero=>exact h.elim
 | succ k48=>
 unfold zbn.l2 at h
 refine wp_seq_k fun K51 hK51=>rg (sx 21 (t_lss (o_t 20 J) (o_t 19 J) J J) L fun a s _ L=>?_)
 refine en' (hK51 _ _ ?_)
 refine wp_seq_k fun K52 hK52=>cnd L J (fun hb_=>?_) (fun hb_=>?_)
 ·replace h:=h.1 hb_
  refine wp_skip ?_
  show K52 a s.w
  refine hK52 _ _ (wp_seq_k fun K53 hK53=>?_)
  refine wp_block (wp_seq_k fun K54 hK54=>?_)
  obtain ⟨e55,h56,h⟩:=h
  refine rg (sx 22 (t_idx (o_t 18 J) (o_t 20 J) h56 Tryz.underlying79 ty82 J J) L fun a s _ L=>?_)
  refine sx 23 (zo ty82 (o_t 22 J) J J) L fun a s _ L=>?_
  have lt_d59:=L.rlt 8 rfl
  have lt_d58:=L.mlt 7 rfl
  refine zbb En.SBranch (z:=([],0)) 10 L tyz82 J J J J fun a s g57 hg_ L=>?_
  have d58:Dis (some g57) og43:=Dis.newg hg_ lt_d58
  have d59:Dis (some g57) og45:=Dis.newg hg_ lt_d59
  refine zca (L':=[(2,(Pd.rep (En.int .u8) cv_)),(3,(Pd.ptr En.SDesc d_)),(7,(Pd.map En.str kvStr (En.int .i64) s0.w.heap.size og43 many42)),(8,(Pd.row En.SBranch s0.w.heap.size 82 og45 out44)),(18,(Pd.rep (En.slice En.SBranch) r7)),(19,(Pi (r7.length:Int))),(20,(Pi v46))]) 10 L J (o_t 23 J) ty82 J J J (.k 2 (.k 3 (.cons (t:=7) J (Dis.ow (Dis.symm d58)) (.cons (t:=8) J (Dis.ow (Dis.symm d59)) (.k 18 (.k 19 (.k 20 .nil))))))) fun s L=>?_
  refine en' (hK54 _ _ ?_)
  refine wp_seq_k fun K60 hK60=>?_
  obtain ⟨r61,h62,h⟩:=h
  refine rg (sx 25 (zo ty24 (o_t 3 J) J J) L fun a s _ L=>?_)
  refine sx 26 (t_fab (off:=0) (o_t 10 J) Tryz.underlying82 J (zn (zj _ _)) J ty47 J J) L fun a s _ L=>sx 27 (zt ty47 (o_t 26 J) J J) L fun a s _ L=>sx 28 (zb (o_t 2 J) J J) L fun a s _ L=>sx 29 (zu (((next_Read_ok h62).frz2 (Pd.rep_stable _ _)).tup) (xs:=[.tmp 25,.tmp 27,.tmp 28]) (.cons (o_t 25 J) (.cons (o_t 27 J) (.cons (o_t 28 J) .nil))) J J) L fun a s _ L=>sx 24 (zb (o_t 29 J) J J) L fun a s _ L=>sx 30 (t_ext0 (o_t 24 J) J J) L fun a s _ L=>sx 31 (t_ext1 (o_t 24 J) J J) L fun a s _ L=>sx 11 (zd (o_t 30 J) J J) L fun a s _ L=>sx 12 (zd (o_t 31 J) J J) L fun a s _ L=>?_
  refine en' (hK60 _ _ ?_)
  refine wp_seq_k fun K63 hK63=>wp_seq_k fun K64 hK64=>rg (sx 32 (zb (o_t 12 J) J J) L fun a s _ L=>?_)
  refine sx 33 (t_not (o_t 32 J) J J) L fun a s _ L=>en' (hK64 _ _ ?_)
  refine cnd L J (fun hb_=>?_) (fun hb_=>?_)
  ·replace h:=h.1 hb_
   refine wp_exit ?_
   show K53 a s.w
   refine hK53 _ _ ?_
   obtain ⟨h65,h⟩:=h
   refine rg (sx 54 (t_add (o_t 20 J) oI h65 J J) L fun a s _ L=>?_)
   refine sx 20 (zb (o_t 54 J) J J) L fun a s _ L=>en' ?_
   exact hKL49 k48 a s (Nat.lt_succ_self _) ⟨many42,out44,(v46+1),og43,og45,L.keep (.k 2 (.k 3 (.cons (t:=7) J (fun _ _ h_=>h_) (.cons (t:=8) J (fun _ _ h_=>h_) (.k 18 (.k 19 (.k 20 .nil))))))),d50,h⟩
  ·replace h:=h.2 hb_
   refine wp_skip ?_
   show K63 a s.w
   refine hK63 _ _ (wp_seq_k fun K66 hK66=>?_)
   obtain ⟨r67,h68,h⟩:=h
   refine rg (sx 34 (zb (o_t 11 J) J J) L fun a s _ L=>?_)
   refine sx 35 (zu (item_Key_ok h68) (xs:=[.tmp 34]) (.cons (o_t 34 J) .nil) J J) L fun a s _ L=>sx 13 (zd (o_t 35 J) J J) L fun a s _ L=>en' (hK66 _ _ ?_)
   refine wp_seq_k fun K69 hK69=>wp_seq_k fun K70 hK70=>rg (sx 36 (zb (o_t 7 J) J J) L fun a s _ L=>?_)
   refine sx 37 (zb (o_t 13 J) J J) L fun a s _ L=>sx 38 (t_mget (o_t 36 J) (o_t 37 J) Tryz.underlying124 (zej Tryz.underlying9) tyv3 J J) L fun a s _ L=>sx 39 (t_eqi (o_t 38 J) oI J J) L fun a s _ L=>en' (hK70 _ _ ?_)
   have J73:∀(out71:(List SBranch)) (og72:Option Nat) (a:Act) (s:St),Has N0 76 s0 a s [(2,(Pd.rep (En.int .u8) cv_)),(3,(Pd.ptr En.SDesc d_)),(7,(Pd.map En.str kvStr (En.int .i64) s0.w.heap.size og43 many42)),(8,(Pd.row En.SBranch s0.w.heap.size 82 og72 out71)),(10,(Pd.box En.SBranch s0.w.heap.size g57 e55)),(13,(Pd.rep En.str r67)),(18,(Pd.rep (En.slice En.SBranch) r7)),(19,(Pi (r7.length:Int))),(20,(Pi v46))]→Dis og43 og72→Dis og43 (some g57)→Dis og72 (some g57)→((zbn.j3 (zbn.l2 d_ cv_ r7 (zbn.j2 r_) k48) many42 v46 e55 r67) out71)→K69 a s.w:=by
    intro out71 og72 a s L d74 d75 d76 h
    unfold zbn.j3 at h
    show K69 a s.w
    refine hK69 _ _ ?_
    obtain ⟨h77,h⟩:=h
    refine rg (sx 45 (zb (o_t 7 J) J J) L fun a s _ L=>?_)
    refine sx 46 (zb (o_t 13 J) J J) L fun a s _ L=>sx 47 (zb (o_t 7 J) J J) L fun a s _ L=>sx 48 (zb (o_t 13 J) J J) L fun a s _ L=>sx 49 (t_mget (o_t 47 J) (o_t 48 J) Tryz.underlying124 (zej Tryz.underlying9) tyv3 J J) L fun a s _ L=>sx 50 (t_fab (off:=1) (o_t 10 J) Tryz.underlying82 J (zg (zj _ _) J) J ty3 J J) L fun a s _ L=>sx 51 (zt ty3 (o_t 50 J) J J) L fun a s _ L=>sx 52 (t_add (o_t 49 J) (o_t 51 J) h77 J J) L fun a s _ L=>sx 53 (t_min (o_t 52 J) oI J J) L fun a s _ L=>st_mputC (L':=[(2,(Pd.rep (En.int .u8) cv_)),(3,(Pd.ptr En.SDesc d_)),(7,(Pd.map En.str kvStr (En.int .i64) s0.w.heap.size og43 (mput many42 r67 (min ((mget many42 r67 0)+e55.2) 2)))),(8,(Pd.row En.SBranch s0.w.heap.size 82 og72 out71)),(18,(Pd.rep (En.slice En.SBranch) r7)),(19,(Pi (r7.length:Int))),(20,(Pi v46))]) L (o_t 45 J) (o_t 46 J) (o_t 53 J) Tryz.underlying124 (zej Tryz.underlying9) (.inl J) J J (.k 2 (.k 3 (.turn (t:=7) J (.cons (t:=8) J (Dis.ow (Dis.symm d74)) (.k 18 (.k 19 (.k 20 .nil))))))) fun s L=>?_
    refine en' (hK53 _ _ ?_)
    obtain ⟨h78,h⟩:=h
    refine rg (sx 54 (t_add (o_t 20 J) oI h78 J J) L fun a s _ L=>?_)
    refine sx 20 (zb (o_t 54 J) J J) L fun a s _ L=>en' ?_
    exact hKL49 k48 a s (Nat.lt_succ_self _) ⟨(mput many42 r67 (min ((mget many42 r67 0)+e55.2) 2)),out71,(v46+1),og43,og72,L.keep (.k 2 (.k 3 (.cons (t:=7) J (fun _ _ h_=>h_) (.cons (t:=8) J (fun _ _ h_=>h_) (.k 18 (.k 19 (.k 20 .nil))))))),d74,h⟩
   refine cnd L J (fun hb_=>?_) (fun hb_=>?_)
   ·obtain ⟨h79,h⟩:=h.1 hb_
    refine rg (sx 40 (zb (o_t 8 J) J J) L fun a s _ L=>?_)
    refine sx 41 (zb (o_t 11 J) J J) L fun a s _ L=>sx 42 (zdn (x:=(r61.1,0)) (ps:=[(0,.tmp 41)]) tyz82 J stt82 (.cons (i:=0) (o_t 41 J) J (zbl (zy _ _ _)) .nil) J J) L fun a s _ L=>sx 43 (t_lit (xs:=[.tmp 42]) (.cons (o_t 42 J) .nil) Tryz.underlying79 ty82 J J (by decide) J J) L fun a s _ L=>?_
    have lt_og80_0:=L.mlt 7 rfl
    have lt_og80_1:=L.blt 10 rfl
    refine zd2 (L':=[(2,(Pd.rep (En.int .u8) cv_)),(3,(Pd.ptr En.SDesc d_)),(7,(Pd.map En.str kvStr (En.int .i64) s0.w.heap.size og43 many42)),(10,(Pd.box En.SBranch s0.w.heap.size g57 e55)),(13,(Pd.rep En.str r67)),(18,(Pd.rep (En.slice En.SBranch) r7)),(19,(Pi (r7.length:Int))),(20,(Pi v46))]) 44 L (o_t 40 J) (o_t 43 J) Tryz.underlying79 ty82 h79 J J J J (.k 2 (.k 3 (.cons (t:=7) J (Dis.ow d50) (.cons (t:=10) J (Dis.bx d59) (.k 13 (.k 18 (.k 19 (.k 20 .nil)))))))) fun a s og80 hg_ L=>?_
    have d81:Dis og80 og43:=Dis.app hg_ (Dis.symm d50) lt_og80_0
    have d82:Dis og80 (some g57):=Dis.app hg_ (Dis.symm d59) lt_og80_1
    refine sx 8 (zd (o_t 44 J) J J) L fun a s _ L=>en' ?_
    exact J73 (out44++[(r61.1,0)]) og80 a s (L.keep (.k 2 (.k 3 (.cons (t:=7) J (fun _ _ h_=>h_) (.cons (t:=8) J (fun _ _ h_=>h_) (.cons (t:=10) J (fun _ _ h_=>h_) (.k 13 (.k 18 (.k 19 (.k 20 .nil)))))))))) (Dis.symm d81) (Dis.symm d58) d82 h
   ·replace h:=h.2 hb_
    refine wp_skip ?_
    exact J73 out44 og45 a s (L.keep (.k 2 (.k 3 (.cons (t:=7) J (fun _ _ h_=>h_) (.cons (t:=8) J (fun _ _ h_=>h_) (.cons (t:=10) J (fun _ _ h_=>h_) (.k 13 (.k 18 (.k 19 (.k 20 .nil)))))))))) d50 (Dis.symm d58) (Dis.symm d59) h
 ·replace h:=h.2 hb_
  refine wp_exit ?_
  exact J13 many42 out44 og43 og45 a s (L.keep (.cons (t:=7) J (fun _ _ h_=>h_) (.cons (t:=8) J (fun _ _ h_=>h_) .nil))) d50 h
theorem next_Ends_ok {d_:SDesc} {s_:(List SItem)} {r_:Int} (h:zcq d_ s_ r_):Fn Tryz.prog 63 [(Pd.rep En.SDesc d_),(Pd.rep (En.slice En.SItem) s_)] (Rq (Pi r_)):=by
 unfold zcq at h
 refine fn_of Tryz.func63 J Tryz.ntmps63 (by rfl) (by simp) fun s0 a L=>?_
 refine wp_seq_k fun K1 hK1=>rg (sx 2 (t_box (o_t 0 J) J J) L fun a s _ L=>?_)
 refine sx 4 (zd oI J J) L fun a s _ L=>en' (hK1 _ _ ?_)
 refine wp_seq_k fun K2 hK2=>wp_seq_k fun K3 hK3=>?_
 obtain ⟨r4,h5,h⟩:=h
 refine rg (sx 7 (zo ty24 (o_t 2 J) J J) L fun a s _ L=>?_)
 refine sx 8 (zb (o_t 1 J) J J) L fun a s _ L=>sx 9 (zu ((heads_Heads_ok h5).frz) (xs:=[.tmp 7,.tmp 8]) (.cons (o_t 7 J) (.cons (o_t 8 J) .nil)) J J) L fun a s _ L=>sx 10 (t_len (o_t 9 J) Tryz.underlying79 J J) L fun a s _ L=>sx 11 (zb oI J J) L fun a s _ L=>en' (hK3 _ _ ?_)
 refine wp_block ?_
 have J6:∀(a:Act) (s:St),Has N0 22 s0 a s []→((zcq.j1 r_))→K2 a s.w:=by
  intro a s L h
  unfold zcq.j1 at h
  show K2 a s.w
  refine hK2 _ _ (wp_seq_k fun K7 hK7=>?_)
  refine rg (sx 4 (zd oI J J) L fun a s _ L=>?_)
  refine en' (hK7 _ _ ?_)
  subst h
  exact wp_ret (retq J L J)
 obtain ⟨k9,h⟩:=h
 refine lpg (fun k10 a s=>∃(v8:Int),Has N0 22 s0 a s [(9,(Pd.rep (En.slice En.SBranch) r4)),(10,(Pi (r4.length:Int))),(11,(Pi v8))]∧zcq.l1 r4 r_ (zcq.j1 r_) k10 v8) k9 ⟨0,L.keep (.k 9 (.k 10 (.k 11 .nil))),h⟩ ?_
 rintro k10 a s ⟨v8,L,h⟩ KL11 hKL11
 cases k10 with
 | zero=>exact h.elim
 | succ k10=>
 unfold zcq.l1 at h
 refine wp_seq_k fun K12 hK12=>rg (sx 12 (t_lss (o_t 11 J) (o_t 10 J) J J) L fun a s _ L=>?_)
 refine en' (hK12 _ _ ?_)
 refine wp_seq_k fun K13 hK13=>cnd L J (fun hb_=>?_) (fun hb_=>?_)
 ·replace h:=h.1 hb_
  refine wp_skip ?_
  show K13 a s.w
  refine hK13 _ _ (wp_seq_k fun K14 hK14=>?_)
  refine wp_block (wp_seq_k fun K15 hK15=>?_)
  obtain ⟨e16,h17,h⟩:=h
  refine rg (sx 13 (t_idx (o_t 9 J) (o_t 11 J) h17 Tryz.underlying79 ty82 J J) L fun a s _ L=>?_)
  refine sx 14 (zo ty82 (o_t 13 J) J J) L fun a s _ L=>zbb En.SBranch (z:=([],0)) 6 L tyz82 J J J J fun a s g18 hg_ L=>?_
  refine zca (L':=[(9,(Pd.rep (En.slice En.SBranch) r4)),(10,(Pi (r4.length:Int))),(11,(Pi v8))]) 6 L J (o_t 14 J) ty82 J J J (.k 9 (.k 10 (.k 11 .nil))) fun s L=>?_
  refine en' (hK15 _ _ ?_)
  refine wp_seq_k fun K19 hK19=>rg (sx 15 (t_fab (off:=0) (o_t 6 J) Tryz.underlying82 J (zn (zj _ _)) J ty47 J J) L fun a s _ L=>?_)
  refine sx 16 (zt ty47 (o_t 15 J) J J) L fun a s _ L=>sx 17 (t_len (o_t 16 J) Tryz.underlying47 J J) L fun a s _ L=>sx 18 (t_eqi (o_t 17 J) oI J J) L fun a s _ L=>en' (hK19 _ _ ?_)
  refine cnd L J (fun hb_=>?_) (fun hb_=>?_)
  ·replace h:=h.1 hb_
   refine wp_seq_k fun K20 hK20=>rg (sx 19 (t_fab (off:=1) (o_t 6 J) Tryz.underlying82 J (zg (zj _ _) J) J ty3 J J) L fun a s _ L=>?_)
   refine sx 20 (zt ty3 (o_t 19 J) J J) L fun a s _ L=>sx 4 (zd (o_t 20 J) J J) L fun a s _ L=>en' (hK20 _ _ ?_)
   subst h
   exact wp_ret (retq J L J)
  ·replace h:=h.2 hb_
   refine wp_skip ?_
   show K14 a s.w
   refine hK14 _ _ ?_
   obtain ⟨h21,h⟩:=h
   refine rg (sx 21 (t_add (o_t 11 J) oI h21 J J) L fun a s _ L=>?_)
   refine sx 11 (zb (o_t 21 J) J J) L fun a s _ L=>en' ?_
   exact hKL11 k10 a s (Nat.lt_succ_self _) ⟨(v8+1),L.keep (.k 9 (.k 10 (.k 11 .nil))),h⟩
 ·replace h:=h.2 hb_
  refine wp_exit ?_
  exact J6 a s (L.keep .nil) h
theorem next_singles_ok  {r_:(List Cl)} (h:zbq  r_):Fn Tryz.prog 106 [] (Ro En.cls 51 r_):=by
 unfold zbq at h
 refine fn_of Tryz.func106 J Tryz.ntmps106 (by rfl) (by simp) fun s0 a L=>?_
 refine wp_seq_k fun K1 hK1=>rg (sx 0 (zd (o_nil (E:=En.cls) (N:=s0.w.heap.size) (te:=51)) J J) L fun a s _ L=>?_)
 refine en' (hK1 _ _ ?_)
 refine wp_seq_k fun K2 hK2=>rg (sx 1 (zd (o_nil (E:=En.cls) (N:=s0.w.heap.size) (te:=51)) J J) L fun a s _ L=>?_)
 refine en' (hK2 _ _ ?_)
 refine wp_seq_k fun K3 hK3=>wp_seq_k fun K4 hK4=>rg (sx 3 (zb oI J J) L fun a s _ L=>?_)
 refine en' (hK4 _ _ ?_)
 refine wp_block ?_
 have J7:∀(out5:(List Cl)) (og6:Option Nat) (a:Act) (s:St),Has N0 16 s0 a s [(1,(Pd.row En.cls s0.w.heap.size 51 og6 out5))]→((zbq.j1 r_) out5)→K3 a s.w:=by
  intro out5 og6 a s L h
  unfold zbq.j1 at h
  show K3 a s.w
  refine hK3 _ _ (wp_seq_k fun K8 hK8=>?_)
  refine rg (sx 15 (zb (o_t 1 J) J J) L fun a s _ L=>?_)
  refine sx 0 (zd (o_t 15 J) J J) L fun a s _ L=>en' (hK8 _ _ ?_)
  subst h
  exact wp_ret (reto J L J)
 obtain ⟨k12,h⟩:=h
 refine lpg (fun k13 a s=>∃(out9:(List Cl)) (v11:Int) (og10:Option Nat),Has N0 16 s0 a s [(1,(Pd.row En.cls s0.w.heap.size 51 og10 out9)),(3,(Pi v11))]∧zbq.l1 (zbq.j1 r_) k13 out9 v11) k12 ⟨([]:(List Cl)),0,none,L.keep (.cons (t:=1) J (fun _ _ h_=>h_) (.k 3 .nil)),h⟩ ?_
 rintro k13 a s ⟨out9,v11,og10,L,h⟩ KL14 hKL14
 cases k13 with
 | zero=>exact h.elim
 | succ k13=>
 unfold zbq.l1 at h
 refine wp_seq_k fun K15 hK15=>rg (sx 4 (t_lss (o_t 3 J) oI J J) L fun a s _ L=>?_)
 refine en' (hK15 _ _ ?_)
 refine wp_seq_k fun K16 hK16=>cnd L J (fun hb_=>?_) (fun hb_=>?_)
 ·replace h:=h.1 hb_
  refine wp_skip ?_
  show K16 a s.w
  refine hK16 _ _ (wp_seq_k fun K17 hK17=>?_)
  refine wp_block (wp_seq_k fun K18 hK18=>?_)
  refine rg (sx 5 (zb (o_t 3 J) J J) L fun a s _ L=>?_)
  refine sx 2 (zd (o_t 5 J) J J) L fun a s _ L=>en' (hK18 _ _ ?_)
  obtain ⟨r19,h20,h21,h⟩:=h
  refine rg (sx 6 (zb (o_t 1 J) J J) L fun a s _ L=>?_)
  refine sx 7 (zb (o_t 2 J) J J) L fun a s _ L=>sx 8 (t_u8 (o_t 7 J) Tryz.underlying3 Tryz.underlying5 J J) L fun a s _ L=>sx 9 (zb (o_t 2 J) J J) L fun a s _ L=>sx 10 (t_u8 (o_t 9 J) Tryz.underlying3 Tryz.underlying5 J J) L fun a s _ L=>sx 11 (zu (class_Of_ok h20) (xs:=[.tmp 8,.tmp 10]) (.cons (o_t 8 J) (.cons (o_t 10 J) .nil)) J J) L fun a s _ L=>sx 12 (t_lit (xs:=[.tmp 11]) (.cons (o_t 11 J) .nil) Tryz.underlying36 ty51 J J (by decide) J J) L fun a s _ L=>zd2 (L':=[(3,(Pi v11))]) 13 L (o_t 6 J) (o_t 12 J) Tryz.underlying36 ty51 h21 J J J J (.k 3 .nil) fun a s og22 hg_ L=>?_
  refine sx 1 (zd (o_t 13 J) J J) L fun a s _ L=>en' (hK17 _ _ ?_)
  obtain ⟨h23,h⟩:=h
  refine rg (sx 14 (t_add (o_t 3 J) oI h23 J J) L fun a s _ L=>?_)
  refine sx 3 (zb (o_t 14 J) J J) L fun a s _ L=>en' ?_
  exact hKL14 k13 a s (Nat.lt_succ_self _) ⟨(out9++[r19]),(v11+1),og22,L.keep (.cons (t:=1) J (fun _ _ h_=>h_) (.k 3 .nil)),h⟩
 ·replace h:=h.2 hb_
  refine wp_exit ?_
  exact J7 out9 og10 a s (L.keep (.cons (t:=1) J (fun _ _ h_=>h_) .nil)) h
theorem next_Classes_ok {d_:SDesc} {s_:(List SItem)} {r_:(List Cl)} (h:zba d_ s_ r_):Fn Tryz.prog 66 [(Pd.rep En.SDesc d_),(Pd.rep (En.slice En.SItem) s_)] (Ro En.cls 51 r_):=by
 unfold zba at h
 refine fn_of Tryz.func66 J Tryz.ntmps66 (by rfl) (by simp) fun s0 a L=>?_
 refine wp_seq_k fun K1 hK1=>rg (sx 2 (t_box (o_t 0 J) J J) L fun a s _ L=>?_)
 refine sx 4 (zd (o_nil (E:=En.cls) (N:=s0.w.heap.size) (te:=51)) J J) L fun a s _ L=>en' (hK1 _ _ ?_)
 refine wp_seq_k fun K2 hK2=>rg (sx 5 (zd (o_nil (E:=En.cls) (N:=s0.w.heap.size) (te:=51)) J J) L fun a s _ L=>?_)
 refine en' (hK2 _ _ ?_)
 refine wp_seq_k fun K3 hK3=>wp_seq_k fun K4 hK4=>?_
 obtain ⟨r5,h6,h⟩:=h
 refine rg (sx 10 (zo ty24 (o_t 2 J) J J) L fun a s _ L=>?_)
 refine sx 11 (zb (o_t 1 J) J J) L fun a s _ L=>sx 12 (zu ((heads_Heads_ok h6).frz) (xs:=[.tmp 10,.tmp 11]) (.cons (o_t 10 J) (.cons (o_t 11 J) .nil)) J J) L fun a s _ L=>sx 13 (t_len (o_t 12 J) Tryz.underlying79 J J) L fun a s _ L=>sx 14 (zb oI J J) L fun a s _ L=>en' (hK4 _ _ ?_)
 refine wp_block ?_
 have J9:∀(out7:(List Cl)) (og8:Option Nat) (a:Act) (s:St),Has N0 64 s0 a s [(5,(Pd.row En.cls s0.w.heap.size 51 og8 out7))]→((zba.j1 r_) out7)→K3 a s.w:=by
  intro out7 og8 a s L h
  unfold zba.j1 at h
  show K3 a s.w
  refine hK3 _ _ (wp_seq_k fun K10 hK10=>?_)
  refine rg (sx 63 (zb (o_t 5 J) J J) L fun a s _ L=>?_)
  refine sx 4 (zd (o_t 63 J) J J) L fun a s _ L=>en' (hK10 _ _ ?_)
  subst h
  exact wp_ret (reto J L J)
 obtain ⟨k14,h⟩:=h
 refine lpg (fun k15 a s=>∃(out11:(List Cl)) (v13:Int) (og12:Option Nat),Has N0 64 s0 a s [(2,(Pd.ptr En.SDesc d_)),(5,(Pd.row En.cls s0.w.heap.size 51 og12 out11)),(12,(Pd.rep (En.slice En.SBranch) r5)),(13,(Pi (r5.length:Int))),(14,(Pi v13))]∧zba.l1 d_ r5 (zba.j1 r_) k15 out11 v13) k14 ⟨([]:(List Cl)),0,none,L.keep (.k 2 (.cons (t:=5) J (fun _ _ h_=>h_) (.k 12 (.k 13 (.k 14 .nil))))),h⟩ ?_
 rintro k15 a s ⟨out11,v13,og12,L,h⟩ KL16 hKL16
 cases k15 with
 | zero=>exact h.elim
 | succ k15=>
 unfold zba.l1 at h
 refine wp_seq_k fun K17 hK17=>rg (sx 15 (t_lss (o_t 14 J) (o_t 13 J) J J) L fun a s _ L=>?_)
 refine en' (hK17 _ _ ?_)
 refine wp_seq_k fun K18 hK18=>cnd L J (fun hb_=>?_) (fun hb_=>?_)
 ·replace h:=h.1 hb_
  refine wp_skip ?_
  show K18 a s.w
  refine hK18 _ _ (wp_seq_k fun K19 hK19=>?_)
  refine wp_block (wp_seq_k fun K20 hK20=>?_)
  obtain ⟨e21,h22,h⟩:=h
  refine rg (sx 16 (t_idx (o_t 12 J) (o_t 14 J) h22 Tryz.underlying79 ty82 J J) L fun a s _ L=>?_)
  refine sx 17 (zo ty82 (o_t 16 J) J J) L fun a s _ L=>?_
  have lt_d24:=L.rlt 5 rfl
  refine zbb En.SBranch (z:=([],0)) 7 L tyz82 J J J J fun a s g23 hg_ L=>?_
  have d24:Dis (some g23) og12:=Dis.newg hg_ lt_d24
  refine zca (L':=[(2,(Pd.ptr En.SDesc d_)),(5,(Pd.row En.cls s0.w.heap.size 51 og12 out11)),(12,(Pd.rep (En.slice En.SBranch) r5)),(13,(Pi (r5.length:Int))),(14,(Pi v13))]) 7 L J (o_t 17 J) ty82 J J J (.k 2 (.cons (t:=5) J (Dis.ow (Dis.symm d24)) (.k 12 (.k 13 (.k 14 .nil))))) fun s L=>?_
  refine en' (hK20 _ _ ?_)
  refine wp_seq_k fun K25 hK25=>wp_seq_k fun K26 hK26=>rg (sx 18 (t_fab (off:=0) (o_t 7 J) Tryz.underlying82 J (zn (zj _ _)) J ty47 J J) L fun a s _ L=>?_)
  refine sx 19 (zt ty47 (o_t 18 J) J J) L fun a s _ L=>sx 20 (t_len (o_t 19 J) Tryz.underlying47 J J) L fun a s _ L=>sx 21 (t_eqi (o_t 20 J) oI J J) L fun a s _ L=>en' (hK26 _ _ ?_)
  refine cnd L J (fun hb_=>?_) (fun hb_=>?_)
  ·replace h:=h.1 hb_
   refine wp_exit ?_
   show K19 a s.w
   refine hK19 _ _ ?_
   obtain ⟨h27,h⟩:=h
   refine rg (sx 62 (t_add (o_t 14 J) oI h27 J J) L fun a s _ L=>?_)
   refine sx 14 (zb (o_t 62 J) J J) L fun a s _ L=>en' ?_
   exact hKL16 k15 a s (Nat.lt_succ_self _) ⟨out11,(v13+1),og12,L.keep (.k 2 (.cons (t:=5) J (fun _ _ h_=>h_) (.k 12 (.k 13 (.k 14 .nil))))),h⟩
  ·replace h:=h.2 hb_
   refine wp_skip ?_
   show K25 a s.w
   refine hK25 _ _ (wp_seq_k fun K28 hK28=>?_)
   obtain ⟨e29,h30,h⟩:=h
   refine rg (sx 22 (t_fab (off:=0) (o_t 7 J) Tryz.underlying82 J (zn (zj _ _)) J ty47 J J) L fun a s _ L=>?_)
   refine sx 23 (zt ty47 (o_t 22 J) J J) L fun a s _ L=>sx 24 (t_idx (o_t 23 J) oI h30 Tryz.underlying47 ty77 J J) L fun a s _ L=>sx 25 (zo ty77 (o_t 24 J) J J) L fun a s _ L=>?_
   have lt_d33:=L.blt 7 rfl
   have lt_d32:=L.rlt 5 rfl
   refine zbb En.SItem (z:=(0,0,0,0)) 8 L tyz77 J J J J fun a s g31 hg_ L=>?_
   have d32:Dis (some g31) og12:=Dis.newg hg_ lt_d32
   have d33:Dis (some g31) (some g23):=Dis.newg hg_ lt_d33
   refine zca (L':=[(2,(Pd.ptr En.SDesc d_)),(5,(Pd.row En.cls s0.w.heap.size 51 og12 out11)),(12,(Pd.rep (En.slice En.SBranch) r5)),(13,(Pi (r5.length:Int))),(14,(Pi v13))]) 8 L J (o_t 25 J) ty77 J J J (.k 2 (.cons (t:=5) J (Dis.ow (Dis.symm d32)) (.k 12 (.k 13 (.k 14 .nil))))) fun s L=>?_
   refine en' (hK28 _ _ ?_)
   refine wp_seq_k fun K34 hK34=>?_
   obtain ⟨e35,h36,h⟩:=h
   refine rg (sx 26 (t_fa (off:=0) (o_t 2 J) Tryz.underlying24 J (zcs (zj _ _)) J ty22 J J) L fun a s _ L=>?_)
   refine sx 27 (zo ty22 (o_t 26 J) J J) L fun a s _ L=>sx 28 (t_fab (off:=1) (o_t 8 J) Tryz.underlying77 J (zg (zn (zj _ _)) J) J ty3 J J) L fun a s _ L=>sx 29 (zt ty3 (o_t 28 J) J J) L fun a s _ L=>sx 30 (t_idx (o_t 27 J) (o_t 29 J) h36 Tryz.underlying22 ty68 J J) L fun a s _ L=>sx 31 (zo ty68 (o_t 30 J) J J) L fun a s _ L=>?_
   have lt_d39:=L.blt 8 rfl
   have lt_d38:=L.rlt 5 rfl
   refine zbb En.SNode (z:=(0,0,0,0,0,(0#256),([]:Str))) 9 L tyz68 J J J J fun a s g37 hg_ L=>?_
   have d38:Dis (some g37) og12:=Dis.newg hg_ lt_d38
   have d39:Dis (some g37) (some g31):=Dis.newg hg_ lt_d39
   refine zca (L':=[(2,(Pd.ptr En.SDesc d_)),(5,(Pd.row En.cls s0.w.heap.size 51 og12 out11)),(8,(Pd.box En.SItem s0.w.heap.size g31 e29)),(12,(Pd.rep (En.slice En.SBranch) r5)),(13,(Pi (r5.length:Int))),(14,(Pi v13))]) 9 L J (o_t 31 J) ty68 J J J (.k 2 (.cons (t:=5) J (Dis.ow (Dis.symm d38)) (.cons (t:=8) J (Dis.bx (Dis.symm d39)) (.k 12 (.k 13 (.k 14 .nil)))))) fun s L=>?_
   refine en' (hK34 _ _ ?_)
   refine wp_block (wp_seq_k fun K40 hK40=>?_)
   refine rg (sx 36 (t_fab (off:=0) (o_t 8 J) Tryz.underlying77 J (zn (zj _ _)) J ty3 J J) L fun a s _ L=>?_)
   refine sx 37 (zt ty3 (o_t 36 J) J J) L fun a s _ L=>sx 38 (t_eqi (o_t 37 J) oI J J) L fun a s _ L=>sx 35 (zd (o_t 38 J) J J) L fun a s _ L=>en' (hK40 _ _ ?_)
   refine cnd L J (fun hb_=>?_) (fun hb_=>?_)
   ·obtain ⟨c41,h42,c43,h44,r45,h46,h47,h⟩:=h.1 hb_
    refine rda zbk 13 [(Pd.row En.cls s0.w.heap.size 51 og12 out11),(Pd.optr En.str s0.w.heap.size (some g37) (9) e35.2.2.2.2.2.2),(Pd.rep En.str e35.2.2.2.2.2.2),(Pd.optr (En.int .i64) s0.w.heap.size (some g31) (2) e29.2.2.1),(Pi e29.2.2.1),(Pd.rep (En.int .u8) c41),(Pd.optr En.str s0.w.heap.size (some g37) (9) e35.2.2.2.2.2.2),(Pd.rep En.str e35.2.2.2.2.2.2),(Pd.optr (En.int .i64) s0.w.heap.size (some g31) (2) e29.2.2.1),(Pi e29.2.2.1),(Pd.rep (En.int .u8) c43),(Pd.rep En.cls r45),(Pd.rep (En.slice En.cls) [r45])] L (by kernel_rfl) J J ?_ ?_
    ·refine AllT.cons (zb (o_t 5 J) J J) ?_
     refine AllT.cons (t_fab (off:=9) (o_t 9 J) Tryz.underlying68 J (zg (zg (zg (zg (zg (zg (zj _ _) J) J) J) J) J) J) J ty9 J J) (AllT.cons (zt ty9 (o_t 40 J) J J) ?_)
     refine AllT.cons (t_fab (off:=2) (o_t 8 J) Tryz.underlying77 J (zg (zg (zn (zj _ _)) J) J) J ty3 J J) (AllT.cons (zt ty3 (o_t 42 J) J J) ?_)
     refine AllT.cons (t_sidx (o_t 41 J) (o_t 43 J) h42 Tryz.underlying9 J J) (AllT.cons (t_fab (off:=9) (o_t 9 J) Tryz.underlying68 J (zg (zg (zg (zg (zg (zg (zj _ _) J) J) J) J) J) J) J ty9 J J) ?_)
     refine AllT.cons (zt ty9 (o_t 45 J) J J) (AllT.cons (t_fab (off:=2) (o_t 8 J) Tryz.underlying77 J (zg (zg (zn (zj _ _)) J) J) J ty3 J J) ?_)
     refine AllT.cons (zt ty3 (o_t 47 J) J J) (AllT.cons (t_sidx (o_t 46 J) (o_t 48 J) h44 Tryz.underlying9 J J) ?_)
     refine AllT.cons (zu (class_Of_ok h46) (xs:=[.tmp 44,.tmp 49]) (.cons (o_t 44 J) (.cons (o_t 49 J) .nil)) J J) (AllT.cons (t_lit (xs:=[.tmp 50]) (.cons (o_t 50 J) .nil) Tryz.underlying36 ty51 J J (by decide) J J) ?_)
     exact AllT.nil
    intro a s _ L
    refine zd2 (L':=[(2,(Pd.ptr En.SDesc d_)),(12,(Pd.rep (En.slice En.SBranch) r5)),(13,(Pi (r5.length:Int))),(14,(Pi v13))]) 52 L (o_t 39 J) (o_t 51 J) Tryz.underlying36 ty51 h47 J J J J (.k 2 (.k 12 (.k 13 (.k 14 .nil)))) fun a s og48 hg_ L=>?_
    refine sx 5 (zd (o_t 52 J) J J) L fun a s _ L=>en' (hK19 _ _ ?_)
    obtain ⟨h49,h⟩:=h
    refine rg (sx 62 (t_add (o_t 14 J) oI h49 J J) L fun a s _ L=>?_)
    refine sx 14 (zb (o_t 62 J) J J) L fun a s _ L=>en' ?_
    exact hKL16 k15 a s (Nat.lt_succ_self _) ⟨(out11++[r45]),(v13+1),og48,L.keep (.k 2 (.cons (t:=5) J (fun _ _ h_=>h_) (.k 12 (.k 13 (.k 14 .nil))))),h⟩
   ·replace h:=h.2 hb_
    refine wp_seq_k fun K50 hK50=>rg (sx 54 (t_fab (off:=0) (o_t 9 J) Tryz.underlying68 J (zn (zj _ _)) J ty3 J J) L fun a s _ L=>?_)
    refine sx 55 (zt ty3 (o_t 54 J) J J) L fun a s _ L=>sx 56 (t_eqi (o_t 55 J) oI J J) L fun a s _ L=>sx 53 (zd (o_t 56 J) J J) L fun a s _ L=>en' (hK50 _ _ ?_)
    refine cnd L J (fun hb_=>?_) (fun hb_=>?_)
    ·obtain ⟨h51,h⟩:=h.1 hb_
     refine rg (sx 57 (zb (o_t 5 J) J J) L fun a s _ L=>?_)
     refine sx 58 (t_fab (off:=5) (o_t 9 J) Tryz.underlying68 J (zg (zg (zg (zg (zg (zn (zj _ _)) J) J) J) J) J) J ty51 J J) L fun a s _ L=>sx 59 (zt ty51 (o_t 58 J) J J) L fun a s _ L=>sx 60 (t_lit (xs:=[.tmp 59]) (.cons (o_t 59 J) .nil) Tryz.underlying36 ty51 J J (by decide) J J) L fun a s _ L=>zd2 (L':=[(2,(Pd.ptr En.SDesc d_)),(12,(Pd.rep (En.slice En.SBranch) r5)),(13,(Pi (r5.length:Int))),(14,(Pi v13))]) 61 L (o_t 57 J) (o_t 60 J) Tryz.underlying36 ty51 h51 J J J J (.k 2 (.k 12 (.k 13 (.k 14 .nil)))) fun a s og52 hg_ L=>?_
     refine sx 5 (zd (o_t 61 J) J J) L fun a s _ L=>en' (hK19 _ _ ?_)
     obtain ⟨h53,h⟩:=h
     refine rg (sx 62 (t_add (o_t 14 J) oI h53 J J) L fun a s _ L=>?_)
     refine sx 14 (zb (o_t 62 J) J J) L fun a s _ L=>en' ?_
     exact hKL16 k15 a s (Nat.lt_succ_self _) ⟨(out11++[e35.2.2.2.2.2.1]),(v13+1),og52,L.keep (.k 2 (.cons (t:=5) J (fun _ _ h_=>h_) (.k 12 (.k 13 (.k 14 .nil))))),h⟩
    ·obtain ⟨r54,h55,h56,h⟩:=h.2 hb_
     refine rg (sx 32 (zb (o_t 5 J) J J) L fun a s _ L=>?_)
     refine sx 33 (zu ((next_singles_ok h55).frz) (xs:=[]) .nil J J) L fun a s _ L=>zd2 (L':=[(2,(Pd.ptr En.SDesc d_)),(12,(Pd.rep (En.slice En.SBranch) r5)),(13,(Pi (r5.length:Int))),(14,(Pi v13))]) 34 L (o_t 32 J) (o_t 33 J) Tryz.underlying36 ty51 h56 J J J J (.k 2 (.k 12 (.k 13 (.k 14 .nil)))) fun a s og57 hg_ L=>?_
     refine sx 5 (zd (o_t 34 J) J J) L fun a s _ L=>en' (hK19 _ _ ?_)
     obtain ⟨h58,h⟩:=h
     refine rg (sx 62 (t_add (o_t 14 J) oI h58 J J) L fun a s _ L=>?_)
     refine sx 14 (zb (o_t 62 J) J J) L fun a s _ L=>en' ?_
     exact hKL16 k15 a s (Nat.lt_succ_self _) ⟨(out11++r54),(v13+1),og57,L.keep (.k 2 (.cons (t:=5) J (fun _ _ h_=>h_) (.k 12 (.k 13 (.k 14 .nil))))),h⟩
 ·replace h:=h.2 hb_
  refine wp_exit ?_
  exact J9 out11 og12 a s (L.keep (.cons (t:=5) J (fun _ _ h_=>h_) .nil)) h
open Go.Shelf Go.Sort
theorem put_block1 {β:Type} [Inhabited β] (enc:β→Value) {w:World} {b:Nat} {cur:Array Value} {te:TypeId} {F:Array β} (m:Nat) (os:Array Obj) (hb:w.heap[b]?=some (.cells cur te (0,0))):
  (Sort.grow (putRow enc (Sort.ahead w m) b 0 F) os).heap[b]?=some (.cells (putCells enc 0 F cur) te (0,0)):=by
 have hlt:=(Array.getElem?_eq_some_iff.1 hb).1
 unfold Sort.grow putRow mapBlock
 simp only
 rw [Array.getElem?_append_left (by simpa [Sort.ahead] using hlt),Array.getElem?_modify,if_pos rfl]
 show Option.map _ (w.heap[b]?)=_
 rw [hb];rfl
theorem put_other1 {β:Type} [Inhabited β] (enc:β→Value) {w:World} {b c:Nat} {F:Array β} (m:Nat) (os:Array Obj) (hc:c<w.heap.size) (hne:c≠b):(Sort.grow (putRow enc (Sort.ahead w m) b 0 F) os).heap[c]?=w.heap[c]?:=by
 unfold Sort.grow putRow mapBlock
 simp only
 rw [Array.getElem?_append_left (by simpa [Sort.ahead] using hc),Array.getElem?_modify,if_neg (Ne.symm hne)]
 rfl
theorem size1 {β:Type} [Inhabited β] (enc:β→Value) (w:World) (b m:Nat) (F:Array β) (os:Array Obj):w.heap.size≤(sortWorld enc w b 0 m F os).heap.size:=by
 unfold sortWorld Sort.grow putRow mapBlock
 simp [Sort.ahead]
theorem fm_sort1 {P:Program} {ρ:Ren} (L:Go.Proofs.SlLaysF.n6 P ρ) (L0:Go.Proofs.SlLaysF0.n6 P ρ) {α:Type} {E:En α} {E':VD.En α} {te:TypeId} {g:FuncId} {cf:α→α→Int} (hE:Ty P te E) (hA:E.agg=false) (hA':E'.agg=false) (hR:∀{w S cs x},E.R w S cs x→E'.R w S cs x)
  (hf:∀(args:Array Value) (w:World),(callFunc (ρ.f 6) args).run P w = .ok (.enter (ρ.f 6) args) w) (eg:∀(args:Array Value) (w:World),(callFunc g args).run P w = .ok (.enter g args) w) (hO:SWO (Go.Proofs.ltOf cf)) {xs:List α} (hlen:xs.length≤2147483648)
  (hc:∀x∈xs,∀y∈xs,VD.Fn P g [VD.Pd.rep E' x,VD.Pd.rep E' y] (VD.Rq (VD.Pd.rep (VD.En.int .i64) (cf x y)))) (v0:Value):
  Fm P (ρ.f 6) (fun b=>v0.ownBlock=some b) [Pd.prow E te v0 xs,Pd.is (.func (.func g) #[] #[])] (fun _ s' _=>∃ys:List α,ys.Perm xs∧ys.Pairwise (fun a b=>¬ cf b a<0)∧(Pd.prow E te v0 ys).p s' v0):=by
 refine ⟨hf,fun s vs hgl hX hv=>?_⟩
 match vs,hv with
 | [v,fv],⟨⟨hv0,hrow⟩,hfv,_⟩=>
 have hfv:fv = .func (.func g) #[] #[]:=hfv
 subst hfv
 subst hv0
 obtain ⟨h1,h2,h3,css,hEl,how⟩:=hrow
 by_cases hx0:xs=[]
 ·subst hx0
  obtain ⟨p,cap,rfl⟩:∃p cap,v = .slice p 0 cap:=by
   rcases how.2 with ⟨e,_⟩ | ⟨b,cap,cur,e,_⟩
   ·exact ⟨none,0,e⟩
   ·exact ⟨_,cap,e⟩
  refine (Go.Proofs.AnyF.slices_SortFunc_none L0 p cap _ s.w).mono fun e w' ⟨he,hw⟩=>?_
  subst he;subst hw
  exact ⟨_,s,rfl,rfl,Fr.refl hX,[],.refl _,List.Pairwise.nil,rfl,h1,h2,h3,css,hEl,how⟩
 have hpos:0<xs.length:=List.length_pos_iff.2 hx0
 rcases how.2 with ⟨e,hn⟩ | ⟨b,cap,cur,hvb,hN,hgb,hnc,hcm,hcs,htk⟩
 ·omega
 subst hvb
 have hXb:s.X b:=h2 b rfl
 have hblt:b<s.w.heap.size:=s.lt b hXb
 have hsz1:E.sz=1:=E.sc hA
 let α':={p:List Value × α // E.R s.w (foot s) p.1 p.2∧p.2∈xs}
 have hel:∀i:Fin xs.length,E.R s.w (foot s) (css[i.1]'(by rw [hEl.1];exact i.2)) xs[i.1]∧xs[i.1]∈xs:=fun i=>⟨hEl.2 i.1 _ _ (List.getElem?_eq_getElem _) (List.getElem?_eq_getElem _),List.getElem_mem _⟩
 let d:Array α':=Array.ofFn fun i:Fin xs.length=>⟨(css[i.1]'(by rw [hEl.1];exact i.2),xs[i.1]),hel i⟩
 have hdn:d.size=xs.length:=by simp [d]
 haveI:Inhabited α':=⟨d[0]'(by rw [hdn];exact hpos)⟩
 let enc:α'→Value:=fun p=>p.1.1.headD undef
 have hsing:∀p:α',p.1.1=[enc p]:=fun p=>by
  have hl:=E.len p.2.1
  rw [hsz1] at hl
  obtain ⟨u,hu⟩:=List.length_eq_one_iff.1 hl
  show p.1.1=[p.1.1.headD undef]
  rw [hu];rfl
 have hone:OneCell enc:=fun x=>E.one x.2.1 (enc x) (by rw [hsing x];simp)
 have hdl:d.toList.map (fun p=>p.1.1)=css:=by
  apply List.ext_getElem?
  intro i
  simp only [d,List.getElem?_map,Array.toList_ofFn,List.getElem?_ofFn]
  by_cases hi:i<xs.length
  ·rw [dif_pos hi,Option.map_some,List.getElem?_eq_getElem (by rw [hEl.1];exact hi)]
  ·rw [dif_neg hi,Option.map_none,List.getElem?_eq_none (by rw [hEl.1];omega)]
 have hdx:d.toList.map (fun p=>p.1.2)=xs:=by
  apply List.ext_getElem?
  intro i
  simp only [d,List.getElem?_map,Array.toList_ofFn,List.getElem?_ofFn]
  by_cases hi:i<xs.length
  ·rw [dif_pos hi,Option.map_some,List.getElem?_eq_getElem hi]
  ·rw [dif_neg hi,Option.map_none,List.getElem?_eq_none (by omega)]
 have hfl:∀q:List α',(q.map (fun p=>p.1.1)).flatten=q.map enc:=fun q=>by
  induction q with
  | nil=>rfl
  | cons p q ih=>rw [List.map_cons,List.flatten_cons,ih,hsing p];rfl
 have hflat:∀(q:Array α') (j:Nat),j<q.size→(q.toList.map (fun p=>p.1.1)).flatten[j]?=some (enc q[j]!):=by
  intro q j hj
  rw [hfl,List.getElem?_map,Array.getElem?_toList,Array.getElem?_eq_getElem hj,getElem!_pos q j hj];rfl
 have hH:Holds enc s.w b 0 d:=by
  intro j hj
  have hf:=hflat d j hj
  rw [hdl] at hf
  have hcj:cur[j]?=some (enc d[j]!):=by
   rw [← htk,List.getElem?_take] at hf
   split at hf
   ·simpa using hf
   ·cases hf
  refine ⟨?_, ?_⟩
  ·rw [Nat.zero_add,cell_of_row s.w b j cur te (0,0) hgb];exact hcj
  ·unfold World.frozen?
   simp [hgb]
 have hO':SWO (Go.Proofs.ltOf fun p q:α'=>cf p.1.2 q.1.2):=⟨fun x=>hO.irrefl x.1.2,fun x y z=>hO.trans x.1.2 y.1.2 z.1.2,fun x y z=>hO.ntrans x.1.2 y.1.2 z.1.2⟩
 have hcmp:Go.Proofs.CmpLays1 P g #[] enc (fun p q:α'=>cf p.1.2 q.1.2) b 0 d.size s.w:=by
  intro m os dk hdk x y
  have hsz:s.w.heap.size≤(sortWorld enc s.w b 0 m dk os).heap.size:=size1 enc s.w b m dk os
  have hoth:∀c,c<s.w.heap.size→c≠b→(sortWorld enc s.w b 0 m dk os).heap[c]?=s.w.heap[c]?:=fun c hc hne=>put_other1 enc m os hc hne
  let sd:VD.St:=⟨sortWorld enc s.w b 0 m dk os,fun c=>c=b,fun c hc=>by subst hc;omega⟩
  have hgd:VD.Gl sd:=by
   have key:∀c o,¬ s.X c→s.w.heap[c]?=some o→c≠b∧sd.w.heap[c]?=some o:=fun c o k1 k2=>by
    have hpb:c≠b:=fun e=>k1 (e ▸ hXb)
    exact ⟨hpb,(hoth c (Array.getElem?_eq_some_iff.1 k2).1 hpb).trans k2⟩
   refine ⟨fun p hp=>?_,fun p hp=>?_⟩
   ·obtain ⟨k1,t,fr,k2⟩:=hgl.1 p hp
    obtain ⟨k3,k4⟩:=key _ _ k1 k2
    exact ⟨k3,t,fr,k4⟩
   ·obtain ⟨k1,m',t,fr,es,clock,ys,k2,k3,k4,k5,k6⟩:=hgl.2 p hp
    obtain ⟨j1,j2⟩:=key _ _ k1 k2
    obtain ⟨j3,j4⟩:=key _ _ k3 k4
    exact ⟨j1,m',t,fr,es,clock,ys,j2,j3,j4,k5,k6⟩
  have hfoot:∀c,foot s c→VD.foot sd c:=fun c hc=>⟨Nat.lt_of_lt_of_le hc.1 hsz,fun e=>hc.2 (e ▸ hXb)⟩
  have conv:∀z:α',E'.R sd.w (VD.foot sd) z.1.1 z.1.2:=fun z=>E'.mono hfoot (E'.move (fun c hc=>hoth c hc.1 (fun e=>hc.2 (e ▸ hXb))) (hR z.2.1))
  have:=cmp_grow (hc _ x.2.2 _ y.2.2) sd hgd (conv x) (conv y)
  have hval:∀z:α',E'.val z.1.1=enc z:=fun z=>by unfold VD.En.val;rw [hA'];rfl
  rw [hval,hval] at this
  exact this
 have hmain:=Go.Proofs.Any.slices_SortFunc L enc hone (fun p q:α'=>cf p.1.2 q.1.2) hO' g #[] b 0 cap d s.w eg hcmp hH hblt (by rw [hdn];omega)
 rw [hdn] at hmain
 refine hmain.mono fun e w' ⟨he,d',m,os,hP,hS,hw⟩=>?_
 subst he;subst hw
 have hd'n:d'.size=xs.length:=hP.1.trans hdn
 have hsz:s.w.heap.size≤(sortWorld enc s.w b 0 m d' os).heap.size:=size1 enc s.w b m d' os
 let s':St:=⟨sortWorld enc s.w b 0 m d' os,s.X,fun c hc=>Nat.lt_of_lt_of_le (s.lt c hc) hsz⟩
 have hmv:Mv (fun c=>(Value.slice (some ⟨b,0,none⟩) xs.length cap).ownBlock=some c) s s':=
  ⟨trivial,rfl,rfl,rfl,hsz,fun c hc hne=>put_other1 enc m os hc (fun e=>hne (by rw [e];rfl)),fun c hc=>hX c hc,fun c hc=>.inl hc⟩
 refine ⟨_,s',rfl,rfl,⟨hmv,fun c hc=>hc⟩,d'.toList.map (fun p=>p.1.2), ?_, ?_,rfl,rfl,fun c hc=>h2 c hc,by simp [hd'n];exact h3,d'.toList.map (fun p=>p.1.1),⟨by simp,fun i cs x hi hx=>?_⟩, ?_⟩
 ·have hp:=(hP.2.2).map (fun p:α'=>p.1.2)
  have e1:(d'.extract 0 xs.length).toList=d'.toList:=by rw [← hd'n];simp
  have e2:(d.extract 0 xs.length).toList=d.toList:=by rw [← hdn];simp
  rw [e1,e2,hdx] at hp
  exact hp
 ·rw [List.pairwise_iff_getElem]
  intro i j hi hj hij
  simp only [List.length_map,Array.length_toList] at hi hj
  have:=hS i j (Nat.zero_le _) hij (by omega)
  unfold Go.Proofs.ltOf at this
  rw [getElem!_pos d' i hi,getElem!_pos d' j hj] at this
  simpa using this
 ·simp only [List.getElem?_map,Array.getElem?_toList] at hi hx
  cases hq:d'[i]? with
  | none=>rw [hq] at hi;cases hi
  | some q=>
   rw [hq] at hi hx
   simp only [Option.map_some,Option.some.injEq] at hi hx
   subst hi;subst hx
   exact E.go hmv q.2.1
 ·have hfll:(d'.toList.map (fun p=>p.1.1)).flatten.length=d'.size:=by rw [hfl];simp
  have hle:d'.size≤cur.size:=by rw [hcs,hd'n,hsz1];omega
  refine ⟨by rw [hfll,hsz1];simp,.inr ⟨b,cap,_,by simp [hd'n],Nat.zero_le _,put_block1 enc m os hgb,by simp [hd'n];exact hnc,hcm,by simp [putCells];exact hcs, ?_⟩⟩
  apply List.ext_getElem?
  intro j
  rw [List.getElem?_take]
  simp only [List.length_map,Array.length_toList]
  split
  ·rename_i hj
   have hj':j<d'.size:=by rw [hsz1] at hj;omega
   rw [hflat d' j hj',Array.getElem?_toList]
   unfold putCells
   rw [Array.getElem?_mapIdx,Array.getElem?_eq_getElem (by omega)]
   simp only [Option.map_some]
   rw [if_pos ⟨Nat.zero_le _,by omega⟩,Nat.sub_zero]
  ·rename_i hj
   rw [List.getElem?_eq_none (by rw [hfll];rw [hsz1] at hj;omega)]
theorem swo_state:SWO (Go.Proofs.ltOf fun x y:List SItem=>cmpS x y):=swo_cmp (fun x=>cmpS_self _) (fun x y=>cmpS_anti _ _) fun x y z h1 h2=>cmpS_le h1 h2
theorem srt_state_uniq:∀{y r:List (List SItem)},y.Perm r→y.Pairwise (fun a b=>¬ cmpS b a<0)→r.Pairwise (fun a b=>cmpS a b<0)→y=r:=fun {y r} hp hs hr=>by
 have hn:r.Nodup:=hr.imp fun {a b} h e=>by subst e;exact cmpS_irr h
 have hny:y.Nodup:=hp.nodup_iff.2 hn
 have hy:y.Pairwise (fun a b=>cmpS a b<0):=(hs.and hny).imp fun {a b} h=>by
  have h3:=cmpS_anti b a
  have h4:cmpS a b≠0:=fun e=>h.2 (zdl.1 e)
  omega
 have:=srt_uniq (B:=y.map fun t=>((t,0):SBranch)) (C:=r.map fun t=>((t,0):SBranch)) (List.pairwise_map.2 hy) (List.pairwise_map.2 hr) fun x=>by
  simp only [List.mem_map]
  constructor
  ·rintro ⟨t,ht,rfl⟩;exact ⟨t,hp.mem_iff.1 ht,rfl⟩
  ·rintro ⟨t,ht,rfl⟩;exact ⟨t,hp.mem_iff.2 ht,rfl⟩
 have h2:=congrArg (List.map (·.1)) this
 simpa [List.map_map,Function.comp_def] using h2
theorem sort_item_Compare_ok (v0:Value) {x r:List (List SItem)} (h:sort_item_Compare x r):Fm Tryz.prog 57 (fun b=>v0.ownBlock=some b) [Pd.prow (En.slice En.SItem) 47 v0 x,Pd.is (.func (.func 58) #[] #[])] (fun _ s' _=>(Pd.prow (En.slice En.SItem) 47 v0 r).p s' v0):=by
 have h0:=fm_sort1 slsortT slsortS (E:=En.slice En.SItem) (E':=VD.En.slice VD.En.SItem) (te:=47) (g:=58) (cf:=fun a b:List SItem=>cmpS a b) ty47 rfl rfl (fun h=>h) (call_of Tryz.func57 rfl (by rfl)) (call_of Tryz.func58 rfl (by rfl)) swo_state h.2.1 (fun a ha b hb=>VD.item_Compare_ok (item_Compare_in (h.1 a ha))) v0
 refine ⟨h0.call,fun s vs hg hM hv=>(h0.run s vs hg hM hv).mono fun e w' ⟨v,s',he,hw,hfr,ys,hp,hs,hrow⟩=>⟨v,s',he,hw,hfr, ?_⟩⟩
 rw [← srt_state_uniq (hp.trans h.2.2.1.symm) hs h.2.2.2];exact hrow
end Go.Proofs.YtahgmdbioafmbaaGreatDoor.V
namespace Go.Proofs.YtahgmdbioafmbaaGreatDoor.V
open Go
set_option linter.unusedVariables false
def sets_Start (d_:SDesc) (r_:(List (List SItem))):Prop:=∃r3:(List SItem),item_Start d_ r3∧r_=[r3]
def zbs.j1 (r_:(List (List SItem))) (found6:(List (Str × (List SItem)))):Prop:=sets_On_t found6 r_
def zbs.j2 (L1_:(List (Str × (List SItem)))→Int→Prop) (v14:Int) (found27:(List (Str × (List SItem)))):Prop:=(InR .i64 (v14+1))∧L1_ found27 (v14+1)
def zbs.l2 (r25:(List SBranch)) (X2:(List (Str × (List SItem)))→Prop):Nat→(List (Str × (List SItem)))→Int→Prop
 | 0,_,_=>False
 | k_0+1,found31,v33=>((decide (v33<(r25.length:Int)))=true→∃e41:SBranch,at? r25 v33=some e41∧∃r45:Str,item_Key e41.1 r45∧(InR .i64 (v33+1))∧zbs.l2 r25 X2 k_0 (mput found31 r45 e41.1) (v33+1))∧((decide (v33<(r25.length:Int)))=false→X2 found31)
def zbs.l1 (d_:SDesc) (l_:(List (List SItem))) (cv_:Int) (X1:(List (Str × (List SItem)))→Prop):Nat→(List (Str × (List SItem)))→Int→Prop
 | 0,_,_=>False
 | k_0+1,found12,v14=>((decide (v14<(l_.length:Int)))=true→∃e22:(List SItem),at? l_ v14=some e22∧∃r25:(List SBranch),zbn d_ e22 cv_ r25∧∃k34,zbs.l2 r25 (zbs.j2 (zbs.l1 d_ l_ cv_ X1 k_0) v14) k34 found12 0)∧((decide (v14<(l_.length:Int)))=false→X1 found12)
def zbs (d_:SDesc) (l_:(List (List SItem))) (cv_:Int) (r_:(List (List SItem))):Prop:=∃k15,zbs.l1 d_ l_ cv_ (zbs.j1 r_) k15 ([]:(List (Str × (List SItem)))) 0
def zcf.j1 (r_:Bool):Prop:=r_=true
def zcf.l1 (a_:(List (List SItem))) (b_:(List (List SItem))) (r_:Bool) (X1:Prop):Nat→Int→Prop
 | 0,_=>False
 | k_0+1,i9=>((decide (i9<(a_.length:Int)))=true→∃e17:(List SItem),at? a_ i9=some e17∧∃e19:(List SItem),at? b_ i9=some e19∧∃r21:Bool,ref13_Same e17 e19 r21∧(((!r21))=true→r_=false)∧(((!r21))=false→(InR .i64 (i9+1))∧zcf.l1 a_ b_ r_ X1 k_0 (i9+1)))∧((decide (i9<(a_.length:Int)))=false→X1)
def zcf (a_:(List (List SItem))) (b_:(List (List SItem))) (r_:Bool):Prop:=((((a_.length:Int) != (b_.length:Int)))=true→r_=false)∧((((a_.length:Int) != (b_.length:Int)))=false→∃k10,zcf.l1 a_ b_ r_ (zcf.j1 r_) k10 0)
def sets_Ends_1 (s_:(List SItem)) (cap0_:SDesc) (r_:Bool):Prop:=∃r3:Int,zcq cap0_ s_ r3∧r_=decide (0<r3)
def zdk (d_:SDesc) (l_:(List (List SItem))) (r_:Bool):Prop:=∃r3:Bool,zbi l_ (fun q_=>sets_Ends_1 q_.1 d_ q_.2) r3∧r_=r3
def zbz.j1 (r_:(List (List SItem))) (l8:(List (List SItem))):Prop:=r_=l8
def zbz.l1 (d_:SDesc) (w_:(List Int)) (X1:(List (List SItem))→Prop):Nat→(List (List SItem))→Int→Prop
 | 0,_,_=>False
 | k_0+1,l12,v14=>((decide (v14<(w_.length:Int)))=true→∃e22:Int,at? w_ v14=some e22∧∃r26:(List (List SItem)),zbs d_ l12 e22 r26∧(InR .i64 (v14+1))∧zbz.l1 d_ w_ X1 k_0 r26 (v14+1))∧((decide (v14<(w_.length:Int)))=false→X1 l12)
def zbz (d_:SDesc) (w_:(List Int)) (r_:(List (List SItem))):Prop:=∃r3:(List (List SItem)),sets_Start d_ r3∧∃k15,zbz.l1 d_ w_ (zbz.j1 r_) k15 r3 0
def zbt.j1 (r_:(List Cl)) (out5:(List Cl)):Prop:=r_=out5
def zbt.l1 (d_:SDesc) (l_:(List (List SItem))) (X1:(List Cl)→Prop):Nat→(List Cl)→Int→Prop
 | 0,_,_=>False
 | k_0+1,out9,v11=>((decide (v11<(l_.length:Int)))=true→∃e19:(List SItem),at? l_ v11=some e19∧∃r21:(List Cl),zba d_ e19 r21∧((out9.length+r21.length)*32≤140737488355328)∧(InR .i64 (v11+1))∧zbt.l1 d_ l_ X1 k_0 (out9++r21) (v11+1))∧((decide (v11<(l_.length:Int)))=false→X1 out9)
def zbt (d_:SDesc) (l_:(List (List SItem))) (r_:(List Cl)):Prop:=∃k12,zbt.l1 d_ l_ (zbt.j1 r_) k12 ([]:(List Cl)) 0
def zcv.j1 (r_:(List Cl)) (out7:(List Cl)):Prop:=r_=out7
def zcv.l1 (l_:(List Cl)) (X1:(List Cl)→Prop):Nat→(List (Cl × Bool))→(List Cl)→Int→Prop
 | 0,_,_,_=>False
 | k_0+1,met11,out13,v15=>((decide (v15<(l_.length:Int)))=true→∃e24:Cl,at? l_ v15=some e24∧(((!(mget met11 e24 false)))=true→(out13.length+[e24].length≤2147483648)∧(InR .i64 (v15+1))∧zcv.l1 l_ X1 k_0 (mput met11 e24 true) (out13++[e24]) (v15+1))∧(((!(mget met11 e24 false)))=false→(InR .i64 (v15+1))∧zcv.l1 l_ X1 k_0 (mput met11 e24 true) out13 (v15+1)))∧((decide (v15<(l_.length:Int)))=false→X1 out13)
def zcv (l_:(List Cl)) (r_:(List Cl)):Prop:=∃k16,zcv.l1 l_ (zcv.j1 r_) k16 ([]:(List (Cl × Bool))) ([]:(List Cl)) 0
def sets_Bytes (d_:SDesc) (l_:(List (List SItem))) (r_:(List Int)):Prop:=∃r3:(List Cl),zbt d_ l_ r3∧∃r5:(List Cl),zcv r3 r5∧∃r7:(List Int),zb6 r5 r7∧r_=r7
def law16_awake  (r_:Bool):Prop:=∃r3:Cl,zco 5 6 r3∧∃r7:SDesc,ref04_Wrap 6 0 0 [(2,0,0,0,0,r3,([]:Str))] r7∧∃r12:(List (List SItem)),sets_Start r7 r12∧∃r15:(List (List SItem)),zbs r7 r12 5 r15∧∃r18:(List (List SItem)),zbs r7 r12 7 r18∧∃b22:Bool,b22=(((r12.length:Int) != 1)||((r15.length:Int) != 1))∧((b22)=true→r_=false)∧((b22)=false→∃r26:Bool,zcf r15 r12 r26∧∃r28:Bool,((((r26&&((r18.length:Int)==0)))=true)→zdk r7 r12 r28)∧∃r30:Bool,(((((r26&&((r18.length:Int)==0))&&r28))=true)→zdk r7 r18 r30)∧∃b32:Bool,b32=(((r26&&((r18.length:Int)==0))&&r28)&&(!r30))∧∃r34:(List (List SItem)),(((b32)=true)→sets_Start [(2,0,0,0,0,r3,([]:Str))] r34)∧∃r36:Bool,(((b32)=true)→zdk [(2,0,0,0,0,r3,([]:Str))] r34 r36)∧∃r38:(List (List SItem)),((((b32&&(!r36)))=true)→zbz [(2,0,0,0,0,r3,([]:Str))] [6] r38)∧∃r40:Bool,((((b32&&(!r36)))=true)→zdk [(2,0,0,0,0,r3,([]:Str))] r38 r40)∧∃r42:(List Int),(((((b32&&(!r36))&&r40))=true)→sets_Bytes r7 r12 r42)∧∃r44:Bool,(((((b32&&(!r36))&&r40))=true)→zb2 r42 [0,5] r44)∧∃r46:(List Int),((((((b32&&(!r36))&&r40)&&r44))=true)→sets_Bytes r7 r18 r46)∧∃r48:Bool,((((((b32&&(!r36))&&r40)&&r44))=true)→zb2 r46 [0] r48)∧∃r50:Str,(((((((b32&&(!r36))&&r40)&&r44)&&r48))=true)→sets_Key r12 r50)∧∃r52:Str,(((((((b32&&(!r36))&&r40)&&r44)&&r48))=true)→sets_Key r15 r52)∧∃b54:Bool,b54=(((((b32&&(!r36))&&r40)&&r44)&&r48)&&(r50==r52))∧∃r56:Str,(((b54)=true)→sets_Key r12 r56)∧∃r58:Str,(((b54)=true)→sets_Key r18 r58)∧r_=(b54&&(r56 != r58)))
def zbj.j1 (d_:SDesc) (u_:(List Int)) (v_:(List Int)) (r_:Bool) (l28:(List (List SItem))):Prop:=∃r34:(List (List SItem)),zbz d_ ((([]:(List Int))++u_)++v_) r34∧∃r36:Bool,zcf l28 r34 r36∧(((!r36))=true→r_=false)∧(((!r36))=false→∃r40:(List (List SItem)),zbz d_ u_ r40∧∃r43:Bool,(((((!((r40.length:Int)==0)))=false)∧(((l28.length:Int)==0))=true)→zdk d_ l28 r43)∧∃b45:Bool,b45=(decide (8<(((([]:(List Int))++u_)++v_).length:Int)))∧∃r47:Int,((((((!((r40.length:Int)==0)))=false)∧((((l28.length:Int)==0)&&(!r43)))=true)∧(b45)=false)→ref12_Ways d_ ((([]:(List Int))++u_)++v_) r47)∧∃b49:Bool,b49=((((l28.length:Int)==0)&&(!r43))&&(b45||(r47==0)))∧r_=((!((r40.length:Int)==0))||b49))
def zbj.l1 (d_:SDesc) (v_:(List Int)) (X1:(List (List SItem))→Prop):Nat→(List (List SItem))→Int→Prop
 | 0,_,_=>False
 | k_0+1,l51,i52=>((decide (i52<(v_.length:Int)))=true→∃e59:Int,at? v_ i52=some e59∧∃r61:(List (List SItem)),zbs d_ l51 e59 r61∧(InR .i64 (i52+1))∧zbj.l1 d_ v_ X1 k_0 r61 (i52+1))∧((decide (i52<(v_.length:Int)))=false→X1 l51)
def zbj (d_:SDesc) (u_:(List Int)) (v_:(List Int)) (r_:Bool):Prop:=∃r4:Bool,law16_awake  r4∧∃r6:Bool,((((!r4))=false)→zcw d_ r6)∧∃r8:Bool,(((((!r4)||(!r6)))=false)→ref12_Fits d_ u_ r8)∧∃b10:Bool,b10=((((!r4)||(!r6))||(!r8))||(decide (8<(v_.length:Int))))∧∃r12:Bool,(((b10)=false)→ref08_Right d_ r12)∧(((b10||(!r12)))=true→∃r15:Bool,law16_awake  r15∧r_=r15)∧(((b10||(!r12)))=false→(([]:(List Int)).length+u_.length≤2147483648)∧((([]:(List Int))++u_).length+v_.length≤2147483648)∧∃r24:(List (List SItem)),zbz d_ u_ r24∧∃k53,zbj.l1 d_ v_ (zbj.j1 d_ u_ v_ r_) k53 r24 0)
set_option maxRecDepth 100000
theorem sets_Start_ok {d_:SDesc} {r_:(List (List SItem))} (h:sets_Start d_ r_):Fn Tryz.prog 17 [(Pd.rep En.SDesc d_)] (Ro (En.slice En.SItem) 47 r_):=by
 unfold sets_Start at h
 refine fn_of Tryz.func17 J Tryz.ntmps17 (by rfl) (by simp) fun s0 a L=>?_
 refine wp_seq_k fun K1 hK1=>rg (sx 1 (t_box (o_t 0 J) J J) L fun a s _ L=>?_)
 refine sx 2 (zd (o_nil (E:=(En.slice En.SItem)) (N:=s0.w.heap.size) (te:=47)) J J) L fun a s _ L=>en' (hK1 _ _ ?_)
 refine wp_seq_k fun K2 hK2=>?_
 obtain ⟨r3,h4,h⟩:=h
 refine rg (sx 3 (zo ty24 (o_t 1 J) J J) L fun a s _ L=>?_)
 refine sx 4 (zu ((item_Start_ok h4).frz) (xs:=[.tmp 3]) (.cons (o_t 3 J) .nil) J J) L fun a s _ L=>st_lito (xs:=[.tmp 4]) 5 L (.cons (o_t 4 J) .nil) Tryz.underlying25 ty47 J J (by decide) J J J J fun a s g5 hg_ L=>?_
 refine sx 2 (zd (o_t 5 J) J J) L fun a s _ L=>en' (hK2 _ _ ?_)
 subst h
 exact wp_ret (reto J L J)
theorem sets_On_ok {d_:SDesc} {l_:(List (List SItem))} {cv_:Int} {r_:(List (List SItem))} (h:zbs d_ l_ cv_ r_):Fn Tryz.prog 19 [(Pd.rep En.SDesc d_),(Pd.rep (En.slice (En.slice En.SItem)) l_),(Pd.rep (En.int .u8) cv_)] (Ro (En.slice En.SItem) 47 r_):=by
 unfold zbs at h
 refine fn_of Tryz.func19 J Tryz.ntmps19 (by rfl) (by simp) fun s0 a L=>?_
 refine wp_seq_k fun K1 hK1=>rg (sx 3 (t_box (o_t 0 J) J J) L fun a s _ L=>?_)
 refine sx 6 (zd (o_nil (E:=(En.slice En.SItem)) (N:=s0.w.heap.size) (te:=47)) J J) L fun a s _ L=>en' (hK1 _ _ ?_)
 refine wp_seq_k fun K2 hK2=>rg (st_mkmap 15 En.str kvStr (En.slice En.SItem) L J J J J fun a s g3 hg_ L=>?_)
 refine sx 7 (zd (o_t 15 J) J J) L fun a s _ L=>en' (hK2 _ _ ?_)
 refine wp_seq_k fun K4 hK4=>wp_seq_k fun K5 hK5=>rg (sx 16 (zb (o_t 1 J) J J) L fun a s _ L=>?_)
 refine sx 17 (t_len (o_t 16 J) Tryz.underlying25 J J) L fun a s _ L=>sx 18 (zb oI J J) L fun a s _ L=>en' (hK5 _ _ ?_)
 refine wp_block ?_
 have J8:∀(found6:(List (Str × (List SItem)))) (og7:Option Nat) (a:Act) (s:St),Has N0 52 s0 a s [(7,(Pd.map En.str kvStr (En.slice En.SItem) s0.w.heap.size og7 found6))]→((zbs.j1 r_) found6)→K4 a s.w:=by
  intro found6 og7 a s L h
  unfold zbs.j1 at h
  show K4 a s.w
  refine hK4 _ _ (wp_seq_k fun K9 hK9=>?_)
  refine rg (sx 12 (zd (o_nil (E:=(En.slice En.SItem)) (N:=s0.w.heap.size) (te:=47)) J J) L fun a s _ L=>?_)
  refine en' (hK9 _ _ ?_)
  refine wp_seq_k fun K10 hK10=>wp_seq_k fun K11 hK11=>?_
  obtain ⟨q1,q2,q3,q4⟩:=h
  refine rg ?_
  obtain ⟨s2,hw,L⟩:=L.freezem (L':=[(12,Pd.row (En.slice En.SItem) s0.w.heap.size 47 none [])]) 7 rfl (.cons (t:=12) rfl no_own .nil)
  rw [← hw];clear hw;generalize s2=s at *
  refine sx 39 (zb (o_t 7 J) J J) L fun a s _ L=>st_range 40 L (o_t 39 J) Tryz.underlying78 J J J J fun a s r hr L=>?_
  refine en' ?_
  show K11 a s.w;refine hK11 _ _ ?_
  refine wp_block ?_
  have JJ:∀(a:Act) (s:St) (og:Option Nat) (out:List (List SItem)),Has N0 52 s0 a s [(12,Pd.row (En.slice En.SItem) s0.w.heap.size 47 og out)]→out.Perm (found6.map (·.2))→K10 a s.w:=by
   intro a s og out L hp
   have hsrt:sort_item_Compare out r_:=⟨fun b hb=>q1 b (hp.mem_iff.1 hb),by rw [hp.length_eq];exact q2,q3.trans hp.symm,q4⟩
   refine hK10 _ _ (wp_seq_k fun K7 hK7=>?_)
   refine rg (sx 49 (zb (o_t 12 J) J J) L fun a s _ L=>?_)
   refine st_callr (L':=[(12,Pd.row (En.slice En.SItem) s0.w.heap.size 47 og r_)]) 50 (fun v0=>sort_item_Compare_ok v0 hsrt) L (o_t 49 J) (zs:=[.func 58]) (.cons o_isf .nil) J J J J (.turn (t:=12) J .nil) fun a s L=>?_
   refine en' ?_
   show K7 a s.w;refine hK7 _ _ ?_
   refine wp_seq_k fun K8 hK8=>rg (sx 51 (zb (o_t 12 J) J J) L fun a s _ L=>?_)
   refine sx 6 (zd (o_t 51 J) J J) L fun a s _ L=>en' ?_
   show K8 a s.w;refine hK8 _ _ ?_
   exact wp_ret (reto J L J)
  have hmlen:found6.length≤2147483648:=by simpa using q2
  refine lpg (fun k a s=>∃(rem:List (Str × List SItem)) (cur:Option (Str × List SItem)) (og:Option Nat) (out:List (List SItem)),rem.length+1=k∧Has N0 52 s0 a s [(12,Pd.row (En.slice En.SItem) s0.w.heap.size 47 og out),(40,Pd.iter En.str kvStr (En.slice En.SItem) s0.w.heap.size r rem cur)]∧(∀b,og=some b→¬ some r=some b)∧(out++rem.map (·.2)).Perm (found6.map (·.2)))
   (found6.length+1) ⟨found6,none,none,[],rfl,L.keep (.cons (t:=12) rfl (fun _ _ h_=>h_) (.cons (t:=40) rfl (fun _ _ h_=>h_) .nil)),(fun b hb=>by cases hb),by simp⟩ ?_
  rintro k a s ⟨rem,cur,og,out,hrk,L,hdis,hperm⟩ KL hKL
  refine wp_seq_k fun K5 hK5=>rg (st_next (L':=[(12,Pd.row (En.slice En.SItem) s0.w.heap.size 47 og out)]) 41 L (x:=40) J J J J J (by decide) (.cons (t:=12) J hdis .nil) (fun a hrem L=>?_) (fun a s p rem' hp L=>?_))
  ·subst hrem
   refine sx 42 (t_nx (o_t 41 J) J J) L fun a s _ L=>en' ?_
   show K5 a s.w;refine hK5 _ _ ?_
   refine wp_seq_k fun K6 hK6=>cnd L J (fun hb3_=>by cases hb3_) (fun _=>?_)
   refine wp_exit ?_
   exact JJ a s og out (L.keep (.cons (t:=12) J (fun _ _ h_=>h_) .nil)) (by simpa using hperm)
  refine sx 42 (t_nx (o_t 41 J) J J) L fun a s _ L=>en' ?_
  show K5 a s.w;refine hK5 _ _ ?_
  refine wp_seq_k fun K6 hK6=>cnd L J (fun _=>?_) (fun hb3_=>by cases hb3_)
  refine wp_skip ?_
  show K6 a s.w;refine hK6 _ _ ?_
  refine wp_block (wp_seq_k fun K9 hK9=>?_)
  refine rg (sx 43 (t_entry (o_t 40 J) (zej Tryz.underlying9) J J) L fun a s _ L=>?_)
  refine sx 44 (t_ext1 (o_t 43 J) J J) L fun a s _ L=>sx 14 (zd (o_t 44 J) J J) L fun a s _ L=>en' ?_
  show K9 a s.w;refine hK9 _ _ ?_
  refine rg ?_
  have hpl:=hp.length_eq
  simp only [List.length_cons] at hpl
  have hol:out.length+(rem.length:Nat)=found6.length:=by
   have:=hperm.length_eq
   simpa using this
  refine sx 45 (zb (o_t 12 J) J J) L fun a s _ L=>sx 46 (zb (o_t 14 J) J J) L fun a s _ L=>sx 47 (t_lit (xs:=[.tmp 46]) (.cons (o_t 46 J) .nil) Tryz.underlying25 ty47 J J (by decide) J J) L fun a s _ L=>?_
  have lr:=L.ilt 40 rfl r rfl
  refine zd2 (L':=[(40,Pd.iter En.str kvStr (En.slice En.SItem) s0.w.heap.size r rem' (some p))]) 48 L (o_t 45 J) (o_t 47 J) Tryz.underlying25 ty47 (by simp;omega) J J J J (.cons (t:=40) J (fun b hb e=>hdis b e hb) .nil) fun a s og' hg' L=>?_
  refine sx 12 (zd (o_t 48 J) J J) L fun a s _ L=>en' (hKL (k-1) a s (by omega) ⟨rem',some p,og',out++[p.2],by omega,L.keep (.cons (t:=12) J (fun _ _ h_=>h_) (.cons (t:=40) J (fun _ _ h_=>h_) .nil)),fun b hb e=>?_, ?_⟩)
  ·rcases hg' b hb with h3 | h3
   ·exact hdis b h3 e
   ·cases e;omega
  ·refine List.Perm.trans ?_ hperm
   have h5:=hp.map (·.2)
   rw [List.map_cons] at h5
   rw [List.append_assoc,List.singleton_append]
   exact (h5.symm.append_left out)
 obtain ⟨k15,h⟩:=h
 refine lpg (fun k16 a s=>∃(found12:(List (Str × (List SItem)))) (v14:Int) (og13:Option Nat),Has N0 52 s0 a s [(2,(Pd.rep (En.int .u8) cv_)),(3,(Pd.ptr En.SDesc d_)),(7,(Pd.map En.str kvStr (En.slice En.SItem) s0.w.heap.size og13 found12)),(16,(Pd.rep (En.slice (En.slice En.SItem)) l_)),(17,(Pi (l_.length:Int))),(18,(Pi v14))]∧zbs.l1 d_ l_ cv_ (zbs.j1 r_) k16 found12 v14) k15 ⟨([]:(List (Str × (List SItem)))),0,(some g3),L.keep (.k 2 (.k 3 (.cons (t:=7) J (fun _ _ h_=>h_) (.k 16 (.k 17 (.k 18 .nil)))))),h⟩ ?_
 rintro k16 a s ⟨found12,v14,og13,L,h⟩ KL17 hKL17
 cases k16 with
 | zero=>exact h.elim
 | succ k16=>
 unfold zbs.l1 at h
 refine wp_seq_k fun K18 hK18=>rg (sx 19 (t_lss (o_t 18 J) (o_t 17 J) J J) L fun a s _ L=>?_)
 refine en' (hK18 _ _ ?_)
 refine wp_seq_k fun K19 hK19=>cnd L J (fun hb_=>?_) (fun hb_=>?_)
 ·replace h:=h.1 hb_
  refine wp_skip ?_
  show K19 a s.w
  refine hK19 _ _ (wp_seq_k fun K20 hK20=>?_)
  refine wp_block (wp_seq_k fun K21 hK21=>?_)
  obtain ⟨e22,h23,h⟩:=h
  refine rg (sx 20 (t_idx (o_t 16 J) (o_t 18 J) h23 Tryz.underlying25 ty47 J J) L fun a s _ L=>?_)
  refine sx 21 (zo ty47 (o_t 20 J) J J) L fun a s _ L=>sx 9 (zd (o_t 21 J) J J) L fun a s _ L=>en' (hK21 _ _ ?_)
  refine wp_seq_k fun K24 hK24=>?_
  obtain ⟨r25,h26,h⟩:=h
  refine rg (sx 22 (zo ty24 (o_t 3 J) J J) L fun a s _ L=>?_)
  refine sx 23 (zb (o_t 9 J) J J) L fun a s _ L=>sx 24 (zb (o_t 2 J) J J) L fun a s _ L=>sx 25 (zu ((next_On_ok h26).frz) (xs:=[.tmp 22,.tmp 23,.tmp 24]) (.cons (o_t 22 J) (.cons (o_t 23 J) (.cons (o_t 24 J) .nil))) J J) L fun a s _ L=>sx 26 (t_len (o_t 25 J) Tryz.underlying79 J J) L fun a s _ L=>sx 27 (zb oI J J) L fun a s _ L=>en' (hK24 _ _ ?_)
  refine wp_block ?_
  have J29:∀(found27:(List (Str × (List SItem)))) (og28:Option Nat) (a:Act) (s:St),Has N0 52 s0 a s [(2,(Pd.rep (En.int .u8) cv_)),(3,(Pd.ptr En.SDesc d_)),(7,(Pd.map En.str kvStr (En.slice En.SItem) s0.w.heap.size og28 found27)),(16,(Pd.rep (En.slice (En.slice En.SItem)) l_)),(17,(Pi (l_.length:Int))),(18,(Pi v14))]→((zbs.j2 (zbs.l1 d_ l_ cv_ (zbs.j1 r_) k16) v14) found27)→K20 a s.w:=by
   intro found27 og28 a s L h
   unfold zbs.j2 at h
   show K20 a s.w
   refine hK20 _ _ ?_
   obtain ⟨h30,h⟩:=h
   refine rg (sx 38 (t_add (o_t 18 J) oI h30 J J) L fun a s _ L=>?_)
   refine sx 18 (zb (o_t 38 J) J J) L fun a s _ L=>en' ?_
   exact hKL17 k16 a s (Nat.lt_succ_self _) ⟨found27,(v14+1),og28,L.keep (.k 2 (.k 3 (.cons (t:=7) J (fun _ _ h_=>h_) (.k 16 (.k 17 (.k 18 .nil)))))),h⟩
  obtain ⟨k34,h⟩:=h
  refine lpg (fun k35 a s=>∃(found31:(List (Str × (List SItem)))) (v33:Int) (og32:Option Nat),Has N0 52 s0 a s [(2,(Pd.rep (En.int .u8) cv_)),(3,(Pd.ptr En.SDesc d_)),(7,(Pd.map En.str kvStr (En.slice En.SItem) s0.w.heap.size og32 found31)),(16,(Pd.rep (En.slice (En.slice En.SItem)) l_)),(17,(Pi (l_.length:Int))),(18,(Pi v14)),(25,(Pd.rep (En.slice En.SBranch) r25)),(26,(Pi (r25.length:Int))),(27,(Pi v33))]∧zbs.l2 r25 (zbs.j2 (zbs.l1 d_ l_ cv_ (zbs.j1 r_) k16) v14) k35 found31 v33) k34 ⟨found12,0,og13,L.keep (.k 2 (.k 3 (.cons (t:=7) J (fun _ _ h_=>h_) (.k 16 (.k 17 (.k 18 (.k 25 (.k 26 (.k 27 .nil))))))))),h⟩ ?_
  rintro k35 a s ⟨found31,v33,og32,L,h⟩ KL36 hKL36
  cases k35 with
  | zero=>exact h.elim
  | succ k35=>
  unfold zbs.l2 at h
  refine wp_seq_k fun K37 hK37=>rg (sx 28 (t_lss (o_t 27 J) (o_t 26 J) J J) L fun a s _ L=>?_)
  refine en' (hK37 _ _ ?_)
  refine wp_seq_k fun K38 hK38=>cnd L J (fun hb_=>?_) (fun hb_=>?_)
  ·replace h:=h.1 hb_
   refine wp_skip ?_
   show K38 a s.w
   refine hK38 _ _ (wp_seq_k fun K39 hK39=>?_)
   refine wp_block (wp_seq_k fun K40 hK40=>?_)
   obtain ⟨e41,h42,h⟩:=h
   refine rg (sx 29 (t_idx (o_t 25 J) (o_t 27 J) h42 Tryz.underlying79 ty82 J J) L fun a s _ L=>?_)
   refine sx 30 (zo ty82 (o_t 29 J) J J) L fun a s _ L=>?_
   have lt_d44:=L.mlt 7 rfl
   refine zbb En.SBranch (z:=([],0)) 11 L tyz82 J J J J fun a s g43 hg_ L=>?_
   have d44:Dis (some g43) og32:=Dis.newg hg_ lt_d44
   refine zca (L':=[(2,(Pd.rep (En.int .u8) cv_)),(3,(Pd.ptr En.SDesc d_)),(7,(Pd.map En.str kvStr (En.slice En.SItem) s0.w.heap.size og32 found31)),(16,(Pd.rep (En.slice (En.slice En.SItem)) l_)),(17,(Pi (l_.length:Int))),(18,(Pi v14)),(25,(Pd.rep (En.slice En.SBranch) r25)),(26,(Pi (r25.length:Int))),(27,(Pi v33))]) 11 L J (o_t 30 J) ty82 J J J (.k 2 (.k 3 (.cons (t:=7) J (Dis.ow (Dis.symm d44)) (.k 16 (.k 17 (.k 18 (.k 25 (.k 26 (.k 27 .nil))))))))) fun s L=>?_
   refine en' (hK40 _ _ ?_)
   obtain ⟨r45,h46,h⟩:=h
   refine rda zbk 6 [(Pd.map En.str kvStr (En.slice En.SItem) s0.w.heap.size og32 found31),(Pd.optr (En.slice En.SItem) s0.w.heap.size (some g43) (0) e41.1),(Pd.rep (En.slice En.SItem) e41.1),(Pd.rep En.str r45),(Pd.optr (En.slice En.SItem) s0.w.heap.size (some g43) (0) e41.1),(Pd.rep (En.slice En.SItem) e41.1)] L (by kernel_rfl) J J ?_ ?_
   ·refine AllT.cons (zb (o_t 7 J) J J) ?_
    refine AllT.cons (t_fab (off:=0) (o_t 11 J) Tryz.underlying82 J (zn (zj _ _)) J ty47 J J) (AllT.cons (zt ty47 (o_t 32 J) J J) ?_)
    refine AllT.cons (zu (item_Key_ok h46) (xs:=[.tmp 33]) (.cons (o_t 33 J) .nil) J J) (AllT.cons (t_fab (off:=0) (o_t 11 J) Tryz.underlying82 J (zn (zj _ _)) J ty47 J J) ?_)
    refine AllT.cons (zt ty47 (o_t 35 J) J J) ?_
    exact AllT.nil
   intro a s _ L
   refine st_mputC (L':=[(2,(Pd.rep (En.int .u8) cv_)),(3,(Pd.ptr En.SDesc d_)),(7,(Pd.map En.str kvStr (En.slice En.SItem) s0.w.heap.size og32 (mput found31 r45 e41.1))),(16,(Pd.rep (En.slice (En.slice En.SItem)) l_)),(17,(Pi (l_.length:Int))),(18,(Pi v14)),(25,(Pd.rep (En.slice En.SBranch) r25)),(26,(Pi (r25.length:Int))),(27,(Pi v33))]) L (o_t 31 J) (o_t 34 J) (o_t 36 J) Tryz.underlying78 (zej Tryz.underlying9) (.inl J) J J (.k 2 (.k 3 (.turn (t:=7) J (.k 16 (.k 17 (.k 18 (.k 25 (.k 26 (.k 27 .nil))))))))) fun s L=>?_
   refine en' (hK39 _ _ ?_)
   obtain ⟨h47,h⟩:=h
   refine rg (sx 37 (t_add (o_t 27 J) oI h47 J J) L fun a s _ L=>?_)
   refine sx 27 (zb (o_t 37 J) J J) L fun a s _ L=>en' ?_
   exact hKL36 k35 a s (Nat.lt_succ_self _) ⟨(mput found31 r45 e41.1),(v33+1),og32,L.keep (.k 2 (.k 3 (.cons (t:=7) J (fun _ _ h_=>h_) (.k 16 (.k 17 (.k 18 (.k 25 (.k 26 (.k 27 .nil))))))))),h⟩
  ·replace h:=h.2 hb_
   refine wp_exit ?_
   exact J29 found31 og32 a s (L.keep (.k 2 (.k 3 (.cons (t:=7) J (fun _ _ h_=>h_) (.k 16 (.k 17 (.k 18 .nil))))))) h
 ·replace h:=h.2 hb_
  refine wp_exit ?_
  exact J8 found12 og13 a s (L.keep (.cons (t:=7) J (fun _ _ h_=>h_) .nil)) h
theorem ref16_Same_ok {a_:(List (List SItem))} {b_:(List (List SItem))} {r_:Bool} (h:zcf a_ b_ r_):Fn Tryz.prog 16 [(Pd.rep (En.slice (En.slice En.SItem)) a_),(Pd.rep (En.slice (En.slice En.SItem)) b_)] (Rq (Pd.rep En.bool r_)):=by
 unfold zcf at h
 refine fn_of Tryz.func16 J Tryz.ntmps16 (by rfl) (by simp) fun s0 a L=>?_
 refine wp_seq_k fun K1 hK1=>rg (sx 4 (zd o_b J J) L fun a s _ L=>?_)
 refine en' (hK1 _ _ ?_)
 refine wp_seq_k fun K2 hK2=>wp_seq_k fun K3 hK3=>rg (sx 6 (zb (o_t 0 J) J J) L fun a s _ L=>?_)
 refine sx 7 (t_len (o_t 6 J) Tryz.underlying25 J J) L fun a s _ L=>sx 8 (zb (o_t 1 J) J J) L fun a s _ L=>sx 9 (t_len (o_t 8 J) Tryz.underlying25 J J) L fun a s _ L=>sx 10 (t_nei (o_t 7 J) (o_t 9 J) J J) L fun a s _ L=>en' (hK3 _ _ ?_)
 refine cnd L J (fun hb_=>?_) (fun hb_=>?_)
 ·replace h:=h.1 hb_
  refine wp_seq_k fun K4 hK4=>rg (sx 4 (zd o_b J J) L fun a s _ L=>?_)
  refine en' (hK4 _ _ ?_)
  subst h
  exact wp_ret (retq J L J)
 ·replace h:=h.2 hb_
  refine wp_skip ?_
  show K2 a s.w
  refine hK2 _ _ (wp_seq_k fun K5 hK5=>?_)
  refine wp_seq_k fun K6 hK6=>rg (sx 5 (zd oI J J) L fun a s _ L=>?_)
  refine en' (hK6 _ _ ?_)
  refine wp_block ?_
  have J7:∀(a:Act) (s:St),Has N0 27 s0 a s []→((zcf.j1 r_))→K5 a s.w:=by
   intro a s L h
   unfold zcf.j1 at h
   show K5 a s.w
   refine hK5 _ _ (wp_seq_k fun K8 hK8=>?_)
   refine rg (sx 4 (zd o_b J J) L fun a s _ L=>?_)
   refine en' (hK8 _ _ ?_)
   subst h
   exact wp_ret (retq J L J)
  obtain ⟨k10,h⟩:=h
  refine lpg (fun k11 a s=>∃(i9:Int),Has N0 27 s0 a s [(0,(Pd.rep (En.slice (En.slice En.SItem)) a_)),(1,(Pd.rep (En.slice (En.slice En.SItem)) b_)),(5,(Pi i9))]∧zcf.l1 a_ b_ r_ (zcf.j1 r_) k11 i9) k10 ⟨0,L.keep (.k 0 (.k 1 (.k 5 .nil))),h⟩ ?_
  rintro k11 a s ⟨i9,L,h⟩ KL12 hKL12
  cases k11 with
  | zero=>exact h.elim
  | succ k11=>
  unfold zcf.l1 at h
  refine wp_seq_k fun K13 hK13=>wp_seq_k fun K14 hK14=>rg (sx 11 (zb (o_t 5 J) J J) L fun a s _ L=>?_)
  refine sx 12 (zb (o_t 0 J) J J) L fun a s _ L=>sx 13 (t_len (o_t 12 J) Tryz.underlying25 J J) L fun a s _ L=>sx 14 (t_lss (o_t 11 J) (o_t 13 J) J J) L fun a s _ L=>en' (hK14 _ _ ?_)
  refine cnd L J (fun hb_=>?_) (fun hb_=>?_)
  ·replace h:=h.1 hb_
   refine wp_skip ?_
   show K13 a s.w
   refine hK13 _ _ (wp_seq_k fun K15 hK15=>?_)
   refine wp_block (wp_seq_k fun K16 hK16=>?_)
   obtain ⟨e17,h18,e19,h20,r21,h22,h⟩:=h
   refine rda zbk 10 [(Pd.rep (En.slice (En.slice En.SItem)) a_),(Pi i9),(Pd.ptr (En.slice En.SItem) e17),(Pd.rep (En.slice En.SItem) e17),(Pd.rep (En.slice (En.slice En.SItem)) b_),(Pi i9),(Pd.ptr (En.slice En.SItem) e19),(Pd.rep (En.slice En.SItem) e19),(Pd.rep En.bool r21),(Pd.rep En.bool (!r21))] L (by kernel_rfl) J J ?_ ?_
   ·refine AllT.cons (zb (o_t 0 J) J J) ?_
    refine AllT.cons (zb (o_t 5 J) J J) (AllT.cons (t_idx (o_t 17 J) (o_t 18 J) h18 Tryz.underlying25 ty47 J J) ?_)
    refine AllT.cons (zo ty47 (o_t 19 J) J J) (AllT.cons (zb (o_t 1 J) J J) ?_)
    refine AllT.cons (zb (o_t 5 J) J J) (AllT.cons (t_idx (o_t 21 J) (o_t 22 J) h20 Tryz.underlying25 ty47 J J) ?_)
    refine AllT.cons (zo ty47 (o_t 23 J) J J) (AllT.cons (zu (ref13_Same_ok h22) (xs:=[.tmp 20,.tmp 24]) (.cons (o_t 20 J) (.cons (o_t 24 J) .nil)) J J) ?_)
    refine AllT.cons (t_not (o_t 25 J) J J) ?_
    exact AllT.nil
   intro a s _ L
   refine en' (hK16 _ _ ?_)
   refine cnd L J (fun hb_=>?_) (fun hb_=>?_)
   ·replace h:=h.1 hb_
    refine wp_seq_k fun K23 hK23=>rg (sx 4 (zd o_b J J) L fun a s _ L=>?_)
    refine en' (hK23 _ _ ?_)
    subst h
    exact wp_ret (retq J L J)
   ·replace h:=h.2 hb_
    refine wp_skip ?_
    show K15 a s.w
    refine hK15 _ _ ?_
    obtain ⟨h24,h⟩:=h
    refine rg (sx 15 (zb (o_t 5 J) J J) L fun a s _ L=>?_)
    refine sx 16 (t_add (o_t 15 J) oI h24 J J) L fun a s _ L=>sx 5 (zd (o_t 16 J) J J) L fun a s _ L=>en' ?_
    exact hKL12 k11 a s (Nat.lt_succ_self _) ⟨(i9+1),L.keep (.k 0 (.k 1 (.k 5 .nil))),h⟩
  ·replace h:=h.2 hb_
   refine wp_exit ?_
   exact J7 a s (L.keep .nil) h
theorem sets_Ends_1_ok {s_:(List SItem)} {cap0_:SDesc} {r_:Bool} (h:sets_Ends_1 s_ cap0_ r_):Fn Tryz.prog 62 [(Pd.rep (En.slice En.SItem) s_),(Pd.ptr En.SDesc cap0_)] (Rq (Pd.rep En.bool r_)):=by
 unfold sets_Ends_1 at h
 refine fn_of Tryz.func62 J Tryz.ntmps62 (by rfl) (by simp) fun s0 a L=>?_
 refine wp_seq_k fun K1 hK1=>rg (sx 3 (zd o_b J J) L fun a s _ L=>?_)
 refine en' (hK1 _ _ ?_)
 refine wp_seq_k fun K2 hK2=>?_
 obtain ⟨r3,h4,h⟩:=h
 refine rg (sx 4 (zo ty24 (o_t 1 J) J J) L fun a s _ L=>?_)
 refine sx 5 (zb (o_t 0 J) J J) L fun a s _ L=>sx 6 (zu (next_Ends_ok h4) (xs:=[.tmp 4,.tmp 5]) (.cons (o_t 4 J) (.cons (o_t 5 J) .nil)) J J) L fun a s _ L=>sx 7 (t_gtr (o_t 6 J) oI J J) L fun a s _ L=>sx 3 (zd (o_t 7 J) J J) L fun a s _ L=>en' (hK2 _ _ ?_)
 subst h
 exact wp_ret (retq J L J)
theorem sets_Ends_ok {d_:SDesc} {l_:(List (List SItem))} {r_:Bool} (h:zdk d_ l_ r_):Fn Tryz.prog 21 [(Pd.rep En.SDesc d_),(Pd.rep (En.slice (En.slice En.SItem)) l_)] (Rq (Pd.rep En.bool r_)):=by
 unfold zdk at h
 refine fn_of Tryz.func21 J Tryz.ntmps21 (by rfl) (by simp) fun s0 a L=>?_
 refine wp_seq_k fun K1 hK1=>rg (sx 2 (t_box (o_t 0 J) J J) L fun a s _ L=>?_)
 refine sx 4 (zd o_b J J) L fun a s _ L=>en' (hK1 _ _ ?_)
 refine wp_seq_k fun K2 hK2=>?_
 obtain ⟨r3,h4,h⟩:=h
 refine rg (sx 5 (zb (o_t 1 J) J J) L fun a s _ L=>?_)
 refine sx 6 (t_q (Pd.rep EnF88 (fun q_=>sets_Ends_1 q_.1 d_ q_.2)) (t_mkfun (cs:=[.tmp 2]) (.cons (o_t 2 J) .nil) (call_of Tryz.func62 J (by rfl)) (enc_cons enc_ptr enc_nil) (fun q_ h_=>sets_Ends_1_ok h_) J J)) L fun a s _ L=>sx 7 (zu (zdj h4) (xs:=[.tmp 5,.tmp 6]) (.cons (o_t 5 J) (.cons (o_t 6 J) .nil)) J J) L fun a s _ L=>sx 4 (zd (o_t 7 J) J J) L fun a s _ L=>en' (hK2 _ _ ?_)
 subst h
 exact wp_ret (retq J L J)
theorem sets_After_ok {d_:SDesc} {w_:(List Int)} {r_:(List (List SItem))} (h:zbz d_ w_ r_):Fn Tryz.prog 31 [(Pd.rep En.SDesc d_),(Pd.rep (En.slice (En.int .u8)) w_)] (Ro (En.slice En.SItem) 47 r_):=by
 unfold zbz at h
 refine fn_of Tryz.func31 J Tryz.ntmps31 (by rfl) (by simp) fun s0 a L=>?_
 refine wp_seq_k fun K1 hK1=>rg (sx 2 (t_box (o_t 0 J) J J) L fun a s _ L=>?_)
 refine sx 4 (zd (o_nil (E:=(En.slice En.SItem)) (N:=s0.w.heap.size) (te:=47)) J J) L fun a s _ L=>en' (hK1 _ _ ?_)
 refine wp_seq_k fun K2 hK2=>?_
 obtain ⟨r3,h4,h⟩:=h
 refine rg (sx 8 (zo ty24 (o_t 2 J) J J) L fun a s _ L=>?_)
 refine zcb 9 L (sets_Start_ok h4) (xs:=[.tmp 8]) (.cons (o_t 8 J) .nil) J J J J fun a s og5 hg_ L=>?_
 refine sx 5 (zd (o_t 9 J) J J) L fun a s _ L=>en' (hK2 _ _ ?_)
 refine wp_seq_k fun K6 hK6=>wp_seq_k fun K7 hK7=>rg (sx 10 (zb (o_t 1 J) J J) L fun a s _ L=>?_)
 refine sx 11 (t_len (o_t 10 J) Tryz.underlying26 J J) L fun a s _ L=>sx 12 (zb oI J J) L fun a s _ L=>en' (hK7 _ _ ?_)
 refine wp_block ?_
 have J10:∀(l8:(List (List SItem))) (og9:Option Nat) (a:Act) (s:St),Has N0 22 s0 a s [(5,(Pd.row (En.slice En.SItem) s0.w.heap.size 47 og9 l8))]→((zbz.j1 r_) l8)→K6 a s.w:=by
  intro l8 og9 a s L h
  unfold zbz.j1 at h
  show K6 a s.w
  refine hK6 _ _ (wp_seq_k fun K11 hK11=>?_)
  refine rg (sx 21 (zb (o_t 5 J) J J) L fun a s _ L=>?_)
  refine sx 4 (zd (o_t 21 J) J J) L fun a s _ L=>en' (hK11 _ _ ?_)
  subst h
  exact wp_ret (reto J L J)
 obtain ⟨k15,h⟩:=h
 refine lpg (fun k16 a s=>∃(l12:(List (List SItem))) (v14:Int) (og13:Option Nat),Has N0 22 s0 a s [(2,(Pd.ptr En.SDesc d_)),(5,(Pd.row (En.slice En.SItem) s0.w.heap.size 47 og13 l12)),(10,(Pd.rep (En.slice (En.int .u8)) w_)),(11,(Pi (w_.length:Int))),(12,(Pi v14))]∧zbz.l1 d_ w_ (zbz.j1 r_) k16 l12 v14) k15 ⟨r3,0,og5,L.keep (.k 2 (.cons (t:=5) J (fun _ _ h_=>h_) (.k 10 (.k 11 (.k 12 .nil))))),h⟩ ?_
 rintro k16 a s ⟨l12,v14,og13,L,h⟩ KL17 hKL17
 cases k16 with
 | zero=>exact h.elim
 | succ k16=>
 unfold zbz.l1 at h
 refine wp_seq_k fun K18 hK18=>rg (sx 13 (t_lss (o_t 12 J) (o_t 11 J) J J) L fun a s _ L=>?_)
 refine en' (hK18 _ _ ?_)
 refine wp_seq_k fun K19 hK19=>cnd L J (fun hb_=>?_) (fun hb_=>?_)
 ·replace h:=h.1 hb_
  refine wp_skip ?_
  show K19 a s.w
  refine hK19 _ _ (wp_seq_k fun K20 hK20=>?_)
  refine wp_block (wp_seq_k fun K21 hK21=>?_)
  obtain ⟨e22,h23,h⟩:=h
  refine rg (sx 14 (t_idx (o_t 10 J) (o_t 12 J) h23 Tryz.underlying26 ty5 J J) L fun a s _ L=>?_)
  refine sx 15 (zo ty5 (o_t 14 J) J J) L fun a s _ L=>sx 7 (zd (o_t 15 J) J J) L fun a s _ L=>en' (hK21 _ _ ?_)
  obtain ⟨s25,h24,L⟩:=L.freeze (L':=[(2,(Pd.ptr En.SDesc d_)),(7,(Pd.rep (En.int .u8) e22)),(10,(Pd.rep (En.slice (En.int .u8)) w_)),(11,(Pi (w_.length:Int))),(12,(Pi v14))]) 5 rfl (.cons (t:=2) rfl nE (.cons (t:=7) rfl nE (.cons (t:=10) rfl nE (.cons (t:=11) rfl nE (.cons (t:=12) rfl nE .nil)))))
  rw [← h24]
  clear h24
  generalize s25=s at *
  obtain ⟨r26,h27,h⟩:=h
  refine rg (sx 16 (zo ty24 (o_t 2 J) J J) L fun a s _ L=>?_)
  refine sx 17 (zb (o_t 5 J) J J) L fun a s _ L=>sx 18 (zb (o_t 7 J) J J) L fun a s _ L=>zcb 19 L (sets_On_ok h27) (xs:=[.tmp 16,.tmp 17,.tmp 18]) (.cons (o_t 16 J) (.cons (o_t 17 J) (.cons (o_t 18 J) .nil))) J J J J fun a s og28 hg_ L=>?_
  refine sx 5 (zd (o_t 19 J) J J) L fun a s _ L=>en' (hK20 _ _ ?_)
  obtain ⟨h29,h⟩:=h
  refine rg (sx 20 (t_add (o_t 12 J) oI h29 J J) L fun a s _ L=>?_)
  refine sx 12 (zb (o_t 20 J) J J) L fun a s _ L=>en' ?_
  exact hKL17 k16 a s (Nat.lt_succ_self _) ⟨r26,(v14+1),og28,L.keep (.k 2 (.cons (t:=5) J (fun _ _ h_=>h_) (.k 10 (.k 11 (.k 12 .nil))))),h⟩
 ·replace h:=h.2 hb_
  refine wp_exit ?_
  exact J10 l12 og13 a s (L.keep (.cons (t:=5) J (fun _ _ h_=>h_) .nil)) h
theorem sets_Classes_ok {d_:SDesc} {l_:(List (List SItem))} {r_:(List Cl)} (h:zbt d_ l_ r_):Fn Tryz.prog 27 [(Pd.rep En.SDesc d_),(Pd.rep (En.slice (En.slice En.SItem)) l_)] (Ro En.cls 51 r_):=by
 unfold zbt at h
 refine fn_of Tryz.func27 J Tryz.ntmps27 (by rfl) (by simp) fun s0 a L=>?_
 refine wp_seq_k fun K1 hK1=>rg (sx 2 (t_box (o_t 0 J) J J) L fun a s _ L=>?_)
 refine sx 4 (zd (o_nil (E:=En.cls) (N:=s0.w.heap.size) (te:=51)) J J) L fun a s _ L=>en' (hK1 _ _ ?_)
 refine wp_seq_k fun K2 hK2=>rg (sx 5 (zd (o_nil (E:=En.cls) (N:=s0.w.heap.size) (te:=51)) J J) L fun a s _ L=>?_)
 refine en' (hK2 _ _ ?_)
 refine wp_seq_k fun K3 hK3=>wp_seq_k fun K4 hK4=>rg (sx 8 (zb (o_t 1 J) J J) L fun a s _ L=>?_)
 refine sx 9 (t_len (o_t 8 J) Tryz.underlying25 J J) L fun a s _ L=>sx 10 (zb oI J J) L fun a s _ L=>en' (hK4 _ _ ?_)
 refine wp_block ?_
 have J7:∀(out5:(List Cl)) (og6:Option Nat) (a:Act) (s:St),Has N0 21 s0 a s [(5,(Pd.row En.cls s0.w.heap.size 51 og6 out5))]→((zbt.j1 r_) out5)→K3 a s.w:=by
  intro out5 og6 a s L h
  unfold zbt.j1 at h
  show K3 a s.w
  refine hK3 _ _ (wp_seq_k fun K8 hK8=>?_)
  refine rg (sx 20 (zb (o_t 5 J) J J) L fun a s _ L=>?_)
  refine sx 4 (zd (o_t 20 J) J J) L fun a s _ L=>en' (hK8 _ _ ?_)
  subst h
  exact wp_ret (reto J L J)
 obtain ⟨k12,h⟩:=h
 refine lpg (fun k13 a s=>∃(out9:(List Cl)) (v11:Int) (og10:Option Nat),Has N0 21 s0 a s [(2,(Pd.ptr En.SDesc d_)),(5,(Pd.row En.cls s0.w.heap.size 51 og10 out9)),(8,(Pd.rep (En.slice (En.slice En.SItem)) l_)),(9,(Pi (l_.length:Int))),(10,(Pi v11))]∧zbt.l1 d_ l_ (zbt.j1 r_) k13 out9 v11) k12 ⟨([]:(List Cl)),0,none,L.keep (.k 2 (.cons (t:=5) J (fun _ _ h_=>h_) (.k 8 (.k 9 (.k 10 .nil))))),h⟩ ?_
 rintro k13 a s ⟨out9,v11,og10,L,h⟩ KL14 hKL14
 cases k13 with
 | zero=>exact h.elim
 | succ k13=>
 unfold zbt.l1 at h
 refine wp_seq_k fun K15 hK15=>rg (sx 11 (t_lss (o_t 10 J) (o_t 9 J) J J) L fun a s _ L=>?_)
 refine en' (hK15 _ _ ?_)
 refine wp_seq_k fun K16 hK16=>cnd L J (fun hb_=>?_) (fun hb_=>?_)
 ·replace h:=h.1 hb_
  refine wp_skip ?_
  show K16 a s.w
  refine hK16 _ _ (wp_seq_k fun K17 hK17=>?_)
  refine wp_block (wp_seq_k fun K18 hK18=>?_)
  obtain ⟨e19,h20,h⟩:=h
  refine rg (sx 12 (t_idx (o_t 8 J) (o_t 10 J) h20 Tryz.underlying25 ty47 J J) L fun a s _ L=>?_)
  refine sx 13 (zo ty47 (o_t 12 J) J J) L fun a s _ L=>sx 7 (zd (o_t 13 J) J J) L fun a s _ L=>en' (hK18 _ _ ?_)
  obtain ⟨r21,h22,h23,h⟩:=h
  refine rg (sx 14 (zb (o_t 5 J) J J) L fun a s _ L=>?_)
  refine sx 15 (zo ty24 (o_t 2 J) J J) L fun a s _ L=>sx 16 (zb (o_t 7 J) J J) L fun a s _ L=>sx 17 (zu ((next_Classes_ok h22).frz) (xs:=[.tmp 15,.tmp 16]) (.cons (o_t 15 J) (.cons (o_t 16 J) .nil)) J J) L fun a s _ L=>st_appB (L':=[(2,(Pd.ptr En.SDesc d_)),(8,(Pd.rep (En.slice (En.slice En.SItem)) l_)),(9,(Pi (l_.length:Int))),(10,(Pi v11))]) 18 32 L (o_t 14 J) (o_t 17 J) Tryz.underlying36 ty51 (by decide) ⟨_,J,by decide⟩ h23 J J J J (.k 2 (.k 8 (.k 9 (.k 10 .nil)))) fun a s og24 hg_ L=>?_
  refine sx 5 (zd (o_t 18 J) J J) L fun a s _ L=>en' (hK17 _ _ ?_)
  obtain ⟨h25,h⟩:=h
  refine rg (sx 19 (t_add (o_t 10 J) oI h25 J J) L fun a s _ L=>?_)
  refine sx 10 (zb (o_t 19 J) J J) L fun a s _ L=>en' ?_
  exact hKL14 k13 a s (Nat.lt_succ_self _) ⟨(out9++r21),(v11+1),og24,L.keep (.k 2 (.cons (t:=5) J (fun _ _ h_=>h_) (.k 8 (.k 9 (.k 10 .nil))))),h⟩
 ·replace h:=h.2 hb_
  refine wp_exit ?_
  exact J7 out9 og10 a s (L.keep (.cons (t:=5) J (fun _ _ h_=>h_) .nil)) h
theorem sets_Once_ok {l_:(List Cl)} {r_:(List Cl)} (h:zcv l_ r_):Fn Tryz.prog 29 [(Pd.rep (En.slice En.cls) l_)] (Ro En.cls 51 r_):=by
 unfold zcv at h
 refine fn_of Tryz.func29 J Tryz.ntmps29 (by rfl) (by simp) fun s0 a L=>?_
 refine wp_seq_k fun K1 hK1=>rg (sx 2 (zd (o_nil (E:=En.cls) (N:=s0.w.heap.size) (te:=51)) J J) L fun a s _ L=>?_)
 refine en' (hK1 _ _ ?_)
 refine wp_seq_k fun K2 hK2=>rg (st_mkmap 7 En.cls kvCls En.bool L J J J J fun a s g3 hg_ L=>?_)
 refine sx 3 (zd (o_t 7 J) J J) L fun a s _ L=>en' (hK2 _ _ ?_)
 refine wp_seq_k fun K4 hK4=>rg (sx 4 (zd (o_nil (E:=En.cls) (N:=s0.w.heap.size) (te:=51)) J J) L fun a s _ L=>?_)
 refine en' (hK4 _ _ ?_)
 refine wp_seq_k fun K5 hK5=>wp_seq_k fun K6 hK6=>rg (sx 8 (zb (o_t 0 J) J J) L fun a s _ L=>?_)
 refine sx 9 (t_len (o_t 8 J) Tryz.underlying36 J J) L fun a s _ L=>sx 10 (zb oI J J) L fun a s _ L=>en' (hK6 _ _ ?_)
 refine wp_block ?_
 have J9:∀(out7:(List Cl)) (og8:Option Nat) (a:Act) (s:St),Has N0 26 s0 a s [(4,(Pd.row En.cls s0.w.heap.size 51 og8 out7))]→((zcv.j1 r_) out7)→K5 a s.w:=by
  intro out7 og8 a s L h
  unfold zcv.j1 at h
  show K5 a s.w
  refine hK5 _ _ (wp_seq_k fun K10 hK10=>?_)
  refine rg (sx 25 (zb (o_t 4 J) J J) L fun a s _ L=>?_)
  refine sx 2 (zd (o_t 25 J) J J) L fun a s _ L=>en' (hK10 _ _ ?_)
  subst h
  exact wp_ret (reto J L J)
 obtain ⟨k16,h⟩:=h
 refine lpg (fun k17 a s=>∃(met11:(List (Cl × Bool))) (out13:(List Cl)) (v15:Int) (og12:Option Nat) (og14:Option Nat),Has N0 26 s0 a s [(3,(Pd.map En.cls kvCls En.bool s0.w.heap.size og12 met11)),(4,(Pd.row En.cls s0.w.heap.size 51 og14 out13)),(8,(Pd.rep (En.slice En.cls) l_)),(9,(Pi (l_.length:Int))),(10,(Pi v15))]∧Dis og12 og14∧zcv.l1 l_ (zcv.j1 r_) k17 met11 out13 v15) k16 ⟨([]:(List (Cl × Bool))),([]:(List Cl)),0,(some g3),none,L.keep (.cons (t:=3) J (fun _ _ h_=>h_) (.cons (t:=4) J (fun _ _ h_=>h_) (.k 8 (.k 9 (.k 10 .nil))))),(Dis.symm Dis.none),h⟩ ?_
 rintro k17 a s ⟨met11,out13,v15,og12,og14,L,d19,h⟩ KL18 hKL18
 cases k17 with
 | zero=>exact h.elim
 | succ k17=>
 unfold zcv.l1 at h
 refine wp_seq_k fun K20 hK20=>rg (sx 11 (t_lss (o_t 10 J) (o_t 9 J) J J) L fun a s _ L=>?_)
 refine en' (hK20 _ _ ?_)
 refine wp_seq_k fun K21 hK21=>cnd L J (fun hb_=>?_) (fun hb_=>?_)
 ·replace h:=h.1 hb_
  refine wp_skip ?_
  show K21 a s.w
  refine hK21 _ _ (wp_seq_k fun K22 hK22=>?_)
  refine wp_block (wp_seq_k fun K23 hK23=>?_)
  obtain ⟨e24,h25,h⟩:=h
  refine rg (sx 12 (t_idx (o_t 8 J) (o_t 10 J) h25 Tryz.underlying36 ty51 J J) L fun a s _ L=>?_)
  refine sx 13 (zo ty51 (o_t 12 J) J J) L fun a s _ L=>?_
  have lt_d28:=L.rlt 4 rfl
  have lt_d27:=L.mlt 3 rfl
  refine zbb En.cls (z:=(0#256)) 6 L tyz51 J J J J fun a s g26 hg_ L=>?_
  have d27:Dis (some g26) og12:=Dis.newg hg_ lt_d27
  have d28:Dis (some g26) og14:=Dis.newg hg_ lt_d28
  refine zca (L':=[(3,(Pd.map En.cls kvCls En.bool s0.w.heap.size og12 met11)),(4,(Pd.row En.cls s0.w.heap.size 51 og14 out13)),(8,(Pd.rep (En.slice En.cls) l_)),(9,(Pi (l_.length:Int))),(10,(Pi v15))]) 6 L J (o_t 13 J) ty51 J J J (.cons (t:=3) J (Dis.ow (Dis.symm d27)) (.cons (t:=4) J (Dis.ow (Dis.symm d28)) (.k 8 (.k 9 (.k 10 .nil))))) fun s L=>?_
  refine en' (hK23 _ _ ?_)
  refine wp_seq_k fun K29 hK29=>wp_seq_k fun K30 hK30=>rg (sx 14 (zb (o_t 3 J) J J) L fun a s _ L=>?_)
  refine sx 15 (zbh ty51 (o_t 6 J) J J) L fun a s _ L=>sx 16 (t_mget (o_t 14 J) (o_t 15 J) Tryz.underlying90 keycls51 tyv4 J J) L fun a s _ L=>sx 17 (t_not (o_t 16 J) J J) L fun a s _ L=>en' (hK30 _ _ ?_)
  refine cnd L J (fun hb_=>?_) (fun hb_=>?_)
  ·obtain ⟨h31,h⟩:=h.1 hb_
   refine rg (sx 18 (zb (o_t 4 J) J J) L fun a s _ L=>?_)
   refine sx 19 (zbh ty51 (o_t 6 J) J J) L fun a s _ L=>sx 20 (t_lit (xs:=[.tmp 19]) (.cons (o_t 19 J) .nil) Tryz.underlying36 ty51 J J (by decide) J J) L fun a s _ L=>?_
   have lt_og32_0:=L.mlt 3 rfl
   have lt_og32_1:=L.blt 6 rfl
   refine zd2 (L':=[(3,(Pd.map En.cls kvCls En.bool s0.w.heap.size og12 met11)),(6,(Pd.box En.cls s0.w.heap.size g26 e24)),(8,(Pd.rep (En.slice En.cls) l_)),(9,(Pi (l_.length:Int))),(10,(Pi v15))]) 21 L (o_t 18 J) (o_t 20 J) Tryz.underlying36 ty51 h31 J J J J (.cons (t:=3) J (Dis.ow d19) (.cons (t:=6) J (Dis.bx d28) (.k 8 (.k 9 (.k 10 .nil))))) fun a s og32 hg_ L=>?_
   have d33:Dis og32 og12:=Dis.app hg_ (Dis.symm d19) lt_og32_0
   have d34:Dis og32 (some g26):=Dis.app hg_ (Dis.symm d28) lt_og32_1
   refine sx 4 (zd (o_t 21 J) J J) L fun a s _ L=>en' (hK29 _ _ ?_)
   refine rg (sx 22 (zb (o_t 3 J) J J) L fun a s _ L=>?_)
   refine sx 23 (zbh ty51 (o_t 6 J) J J) L fun a s _ L=>st_mputC (L':=[(3,(Pd.map En.cls kvCls En.bool s0.w.heap.size og12 (mput met11 e24 true))),(4,(Pd.row En.cls s0.w.heap.size 51 og32 (out13++[e24]))),(8,(Pd.rep (En.slice En.cls) l_)),(9,(Pi (l_.length:Int))),(10,(Pi v15))]) L (o_t 22 J) (o_t 23 J) o_b Tryz.underlying90 keycls51 (.inl J) J J (.turn (t:=3) J (.cons (t:=4) J (Dis.ow d33) (.k 8 (.k 9 (.k 10 .nil))))) fun s L=>?_
   refine en' (hK22 _ _ ?_)
   obtain ⟨h35,h⟩:=h
   refine rg (sx 24 (t_add (o_t 10 J) oI h35 J J) L fun a s _ L=>?_)
   refine sx 10 (zb (o_t 24 J) J J) L fun a s _ L=>en' ?_
   exact hKL18 k17 a s (Nat.lt_succ_self _) ⟨(mput met11 e24 true),(out13++[e24]),(v15+1),og12,og32,L.keep (.cons (t:=3) J (fun _ _ h_=>h_) (.cons (t:=4) J (fun _ _ h_=>h_) (.k 8 (.k 9 (.k 10 .nil))))),(Dis.symm d33),h⟩
  ·replace h:=h.2 hb_
   refine wp_skip ?_
   show K29 a s.w
   refine hK29 _ _ (rg ?_)
   refine sx 22 (zb (o_t 3 J) J J) L fun a s _ L=>sx 23 (zbh ty51 (o_t 6 J) J J) L fun a s _ L=>st_mputC (L':=[(3,(Pd.map En.cls kvCls En.bool s0.w.heap.size og12 (mput met11 e24 true))),(4,(Pd.row En.cls s0.w.heap.size 51 og14 out13)),(8,(Pd.rep (En.slice En.cls) l_)),(9,(Pi (l_.length:Int))),(10,(Pi v15))]) L (o_t 22 J) (o_t 23 J) o_b Tryz.underlying90 keycls51 (.inl J) J J (.turn (t:=3) J (.cons (t:=4) J (Dis.ow (Dis.symm d19)) (.k 8 (.k 9 (.k 10 .nil))))) fun s L=>?_
   refine en' (hK22 _ _ ?_)
   obtain ⟨h36,h⟩:=h
   refine rg (sx 24 (t_add (o_t 10 J) oI h36 J J) L fun a s _ L=>?_)
   refine sx 10 (zb (o_t 24 J) J J) L fun a s _ L=>en' ?_
   exact hKL18 k17 a s (Nat.lt_succ_self _) ⟨(mput met11 e24 true),out13,(v15+1),og12,og14,L.keep (.cons (t:=3) J (fun _ _ h_=>h_) (.cons (t:=4) J (fun _ _ h_=>h_) (.k 8 (.k 9 (.k 10 .nil))))),d19,h⟩
 ·replace h:=h.2 hb_
  refine wp_exit ?_
  exact J9 out13 og14 a s (L.keep (.cons (t:=4) J (fun _ _ h_=>h_) .nil)) h
theorem sets_Bytes_ok {d_:SDesc} {l_:(List (List SItem))} {r_:(List Int)} (h:sets_Bytes d_ l_ r_):Fn Tryz.prog 24 [(Pd.rep En.SDesc d_),(Pd.rep (En.slice (En.slice En.SItem)) l_)] (Ro (En.int .u8) 5 r_):=by
 unfold sets_Bytes at h
 refine fn_of Tryz.func24 J Tryz.ntmps24 (by rfl) (by simp) fun s0 a L=>?_
 refine wp_seq_k fun K1 hK1=>rg (sx 2 (t_box (o_t 0 J) J J) L fun a s _ L=>?_)
 refine sx 4 (zd (o_nil (E:=(En.int .u8)) (N:=s0.w.heap.size) (te:=5)) J J) L fun a s _ L=>en' (hK1 _ _ ?_)
 refine wp_seq_k fun K2 hK2=>?_
 obtain ⟨r3,h4,r5,h6,r7,h8,h⟩:=h
 refine rg (sx 5 (zo ty24 (o_t 2 J) J J) L fun a s _ L=>?_)
 refine sx 6 (zb (o_t 1 J) J J) L fun a s _ L=>sx 7 (zu ((sets_Classes_ok h4).frz) (xs:=[.tmp 5,.tmp 6]) (.cons (o_t 5 J) (.cons (o_t 6 J) .nil)) J J) L fun a s _ L=>sx 8 (zu ((sets_Once_ok h6).frz) (xs:=[.tmp 7]) (.cons (o_t 7 J) .nil) J J) L fun a s _ L=>zcb 9 L (split_Heads_ok h8) (xs:=[.tmp 8]) (.cons (o_t 8 J) .nil) J J J J fun a s og9 hg_ L=>?_
 refine sx 4 (zd (o_t 9 J) J J) L fun a s _ L=>en' (hK2 _ _ ?_)
 subst h
 exact wp_ret (reto J L J)
theorem law16_awake_ok  {r_:Bool} (h:law16_awake  r_):Fn Tryz.prog 12 [] (Rq (Pd.rep En.bool r_)):=by
 unfold law16_awake at h
 refine fn_of Tryz.func12 J Tryz.ntmps12 (by rfl) (by simp) fun s0 a L=>?_
 refine wp_seq_k fun K1 hK1=>rg (sx 0 (zd o_b J J) L fun a s _ L=>?_)
 refine en' (hK1 _ _ ?_)
 refine wp_seq_k fun K2 hK2=>?_
 obtain ⟨r3,h4,h⟩:=h
 refine rg (sx 6 (zu (ref01_Row_ok h4) (xs:=[.const (.int .u8 5),.const (.int .u8 6)]) (.cons (o_i (k:=.u8) (by decide)) (.cons (o_i (k:=.u8) (by decide)) .nil)) J J) L fun a s _ L=>?_)
 refine sx 7 (zdn (x:=(2,0,0,0,0,r3,([]:Str))) (ps:=[(0,.const (.int .i64 2)),(5,.tmp 6)]) tyz68 J stt68 (.cons (i:=0) oI J (zbl (zy _ _ _)) (.cons (i:=5) (o_t 6 J) J (z6 (z6 (z6 (z6 (z6 (zbl (zy _ _ _)) J) J) J) J) J) .nil)) J J) L fun a s _ L=>sx 8 (t_lit (xs:=[.tmp 7]) (.cons (o_t 7 J) .nil) Tryz.underlying22 ty68 J J (by decide) J J) L fun a s _ L=>sx 9 (zdn (x:=[(2,0,0,0,0,r3,([]:Str))]) (ps:=[(0,.tmp 8)]) tyz24 J stt24 (.cons (i:=0) (o_t 8 J) J (sub_solo (zy _ _ _)) .nil) J J) L fun a s _ L=>zbb En.SDesc (z:=[]) 1 L tyz24 J J J J fun a s g5 hg_ L=>?_
 refine zca (L':=[]) 1 L J (o_t 9 J) ty24 J J J .nil fun s L=>?_
 refine en' (hK2 _ _ ?_)
 refine wp_seq_k fun K6 hK6=>?_
 obtain ⟨r7,h8,h⟩:=h
 refine rg (sx 10 (zbh ty24 (o_t 1 J) J J) L fun a s _ L=>?_)
 refine sx 11 (zu (ref04_Wrap_ok h8) (xs:=[.const (.int .i64 6),.const (.int .i64 0),.const (.int .i64 0),.tmp 10]) (.cons oI (.cons oI (.cons oI (.cons (o_t 10 J) .nil)))) J J) L fun a s _ L=>?_
 have lt_d10:=L.blt 1 rfl
 refine zbb En.SDesc (z:=[]) 2 L tyz24 J J J J fun a s g9 hg_ L=>?_
 have d10:Dis (some g9) (some g5):=Dis.newg hg_ lt_d10
 refine zca (L':=[(1,(Pd.box En.SDesc s0.w.heap.size g5 [(2,0,0,0,0,r3,([]:Str))]))]) 2 L J (o_t 11 J) ty24 J J J (.cons (t:=1) J (Dis.bx (Dis.symm d10)) .nil) fun s L=>?_
 refine en' (hK6 _ _ ?_)
 refine wp_seq_k fun K11 hK11=>?_
 obtain ⟨r12,h13,h⟩:=h
 refine rg (sx 12 (zbh ty24 (o_t 2 J) J J) L fun a s _ L=>?_)
 refine sx 13 (zu ((sets_Start_ok h13).frz) (xs:=[.tmp 12]) (.cons (o_t 12 J) .nil) J J) L fun a s _ L=>sx 3 (zd (o_t 13 J) J J) L fun a s _ L=>en' (hK11 _ _ ?_)
 refine wp_seq_k fun K14 hK14=>?_
 obtain ⟨r15,h16,h⟩:=h
 refine rg (sx 14 (zbh ty24 (o_t 2 J) J J) L fun a s _ L=>?_)
 refine sx 15 (zb (o_t 3 J) J J) L fun a s _ L=>sx 16 (zu ((sets_On_ok h16).frz) (xs:=[.tmp 14,.tmp 15,.const (.int .u8 5)]) (.cons (o_t 14 J) (.cons (o_t 15 J) (.cons (o_i (k:=.u8) (by decide)) .nil))) J J) L fun a s _ L=>sx 4 (zd (o_t 16 J) J J) L fun a s _ L=>en' (hK14 _ _ ?_)
 refine wp_seq_k fun K17 hK17=>?_
 obtain ⟨r18,h19,h⟩:=h
 refine rg (sx 17 (zbh ty24 (o_t 2 J) J J) L fun a s _ L=>?_)
 refine sx 18 (zb (o_t 3 J) J J) L fun a s _ L=>sx 19 (zu ((sets_On_ok h19).frz) (xs:=[.tmp 17,.tmp 18,.const (.int .u8 7)]) (.cons (o_t 17 J) (.cons (o_t 18 J) (.cons (o_i (k:=.u8) (by decide)) .nil))) J J) L fun a s _ L=>sx 5 (zd (o_t 19 J) J J) L fun a s _ L=>en' (hK17 _ _ ?_)
 refine wp_seq_k fun K20 hK20=>wp_seq_k fun K21 hK21=>?_
 obtain ⟨b22,h23,h⟩:=h
 refine rg (sx 20 (zb (o_t 3 J) J J) L fun a s _ L=>?_)
 refine sx 21 (t_len (o_t 20 J) Tryz.underlying25 J J) L fun a s _ L=>sx 22 (t_nei (o_t 21 J) oI J J) L fun a s _ L=>sx 23 (zb (o_t 22 J) J J) L fun a s _ L=>sx 24 (t_g1 J J J (fun hc_=>zb (o_t 4 J) J J)) L fun a s _ L=>sx 25 (t_g1 J J J (fun hc_=>t_len (o_w hc_ 24 J) Tryz.underlying25 J J)) L fun a s _ L=>sx 26 (t_g1 J J J (fun hc_=>t_nei (o_w hc_ 25 J) oI J J)) L fun a s _ L=>sx 27 (h23 ▸ (t_or (o_t 23 J) (fun hc2_=>(o_w hc2_ 26 J)) J J)) L fun a s _ L=>en' (hK21 _ _ ?_)
 refine cnd L J (fun hb_=>?_) (fun hb_=>?_)
 ·replace h:=h.1 hb_
  refine wp_seq_k fun K24 hK24=>rg (sx 0 (zd o_b J J) L fun a s _ L=>?_)
  refine en' (hK24 _ _ ?_)
  subst h
  exact wp_ret (retq J L J)
 ·replace h:=h.2 hb_
  refine wp_skip ?_
  show K20 a s.w
  refine hK20 _ _ (wp_seq_k fun K25 hK25=>?_)
  obtain ⟨r26,h27,r28,h29,r30,h31,b32,h33,r34,h35,r36,h37,r38,h39,r40,h41,r42,h43,r44,h45,r46,h47,r48,h49,r50,h51,r52,h53,b54,h55,r56,h57,r58,h59,h⟩:=h
  refine rda zbk 61 [(Pd.rep (En.slice (En.slice En.SItem)) r15),(Pd.rep (En.slice (En.slice En.SItem)) r12),(Pd.rep En.bool r26),(Pd.rep En.bool r26),(Pd.when ((r26)=true) (Pd.rep (En.slice (En.slice En.SItem)) r18)),(Pd.when ((r26)=true) (Pi (r18.length:Int))),(Pd.when ((r26)=true) (Pd.rep En.bool ((r18.length:Int)==0))),(Pd.rep En.bool (r26&&((r18.length:Int)==0))),(Pd.rep En.bool (r26&&((r18.length:Int)==0))),(Pd.when (((r26&&((r18.length:Int)==0)))=true) (Pd.rep En.SDesc r7)),(Pd.when (((r26&&((r18.length:Int)==0)))=true) (Pd.rep (En.slice (En.slice En.SItem)) r12)),(Pd.when (((r26&&((r18.length:Int)==0)))=true) (Pd.rep En.bool r28)),(Pd.rep En.bool ((r26&&((r18.length:Int)==0))&&r28)),(Pd.rep En.bool ((r26&&((r18.length:Int)==0))&&r28)),(Pd.when ((((r26&&((r18.length:Int)==0))&&r28))=true) (Pd.rep En.SDesc r7)),(Pd.when ((((r26&&((r18.length:Int)==0))&&r28))=true) (Pd.rep (En.slice (En.slice En.SItem)) r18)),(Pd.when ((((r26&&((r18.length:Int)==0))&&r28))=true) (Pd.rep En.bool r30)),(Pd.when ((((r26&&((r18.length:Int)==0))&&r28))=true) (Pd.rep En.bool (!r30))),(Pd.rep En.bool b32),(Pd.rep En.bool b32),(Pd.when ((b32)=true) (Pd.rep En.SDesc [(2,0,0,0,0,r3,([]:Str))])),(Pd.when ((b32)=true) (Pd.rep En.SDesc [(2,0,0,0,0,r3,([]:Str))])),(Pd.when ((b32)=true) (Pd.rep (En.slice (En.slice En.SItem)) r34)),(Pd.when ((b32)=true) (Pd.rep En.bool r36)),(Pd.when ((b32)=true) (Pd.rep En.bool (!r36))),(Pd.rep En.bool (b32&&(!r36))),(Pd.rep En.bool (b32&&(!r36))),(Pd.when (((b32&&(!r36)))=true) (Pd.rep En.SDesc [(2,0,0,0,0,r3,([]:Str))])),(Pd.when (((b32&&(!r36)))=true) (Pd.rep En.SDesc [(2,0,0,0,0,r3,([]:Str))])),(Pd.when (((b32&&(!r36)))=true) (Pd.rep (En.slice (En.int .u8)) [6])),(Pd.when (((b32&&(!r36)))=true) (Pd.rep (En.slice (En.slice En.SItem)) r38)),(Pd.when (((b32&&(!r36)))=true) (Pd.rep En.bool r40)),(Pd.rep En.bool ((b32&&(!r36))&&r40)),(Pd.rep En.bool ((b32&&(!r36))&&r40)),(Pd.when ((((b32&&(!r36))&&r40))=true) (Pd.rep En.SDesc r7)),(Pd.when ((((b32&&(!r36))&&r40))=true) (Pd.rep (En.slice (En.slice En.SItem)) r12)),(Pd.when ((((b32&&(!r36))&&r40))=true) (Pd.rep (En.slice (En.int .u8)) r42)),(Pd.when ((((b32&&(!r36))&&r40))=true) (Pd.rep (En.slice (En.int .u8)) [0,5])),(Pd.when ((((b32&&(!r36))&&r40))=true) (Pd.rep En.bool r44)),(Pd.rep En.bool (((b32&&(!r36))&&r40)&&r44)),(Pd.rep En.bool (((b32&&(!r36))&&r40)&&r44)),(Pd.when (((((b32&&(!r36))&&r40)&&r44))=true) (Pd.rep En.SDesc r7)),(Pd.when (((((b32&&(!r36))&&r40)&&r44))=true) (Pd.rep (En.slice (En.slice En.SItem)) r18)),(Pd.when (((((b32&&(!r36))&&r40)&&r44))=true) (Pd.rep (En.slice (En.int .u8)) r46)),(Pd.when (((((b32&&(!r36))&&r40)&&r44))=true) (Pd.rep (En.slice (En.int .u8)) [0])),(Pd.when (((((b32&&(!r36))&&r40)&&r44))=true) (Pd.rep En.bool r48)),(Pd.rep En.bool ((((b32&&(!r36))&&r40)&&r44)&&r48)),(Pd.rep En.bool ((((b32&&(!r36))&&r40)&&r44)&&r48)),(Pd.when ((((((b32&&(!r36))&&r40)&&r44)&&r48))=true) (Pd.rep (En.slice (En.slice En.SItem)) r12)),(Pd.when ((((((b32&&(!r36))&&r40)&&r44)&&r48))=true) (Pd.rep En.str r50)),(Pd.when ((((((b32&&(!r36))&&r40)&&r44)&&r48))=true) (Pd.rep (En.slice (En.slice En.SItem)) r15)),(Pd.when ((((((b32&&(!r36))&&r40)&&r44)&&r48))=true) (Pd.rep En.str r52)),(Pd.when ((((((b32&&(!r36))&&r40)&&r44)&&r48))=true) (Pd.rep En.bool (r50==r52))),(Pd.rep En.bool b54),(Pd.rep En.bool b54),(Pd.when ((b54)=true) (Pd.rep (En.slice (En.slice En.SItem)) r12)),(Pd.when ((b54)=true) (Pd.rep En.str r56)),(Pd.when ((b54)=true) (Pd.rep (En.slice (En.slice En.SItem)) r18)),(Pd.when ((b54)=true) (Pd.rep En.str r58)),(Pd.when ((b54)=true) (Pd.rep En.bool (r56 != r58))),(Pd.rep En.bool (b54&&(r56 != r58)))] L (by kernel_rfl) J J ?_ ?_
  ·refine AllT.cons (zb (o_t 4 J) J J) ?_
   refine AllT.cons (zb (o_t 3 J) J J) (AllT.cons (zu (ref16_Same_ok h27) (xs:=[.tmp 28,.tmp 29]) (.cons (o_t 28 J) (.cons (o_t 29 J) .nil)) J J) ?_)
   refine AllT.cons (zb (o_t 30 J) J J) (AllT.cons (t_g1 J J J (fun hc_=>zb (o_t 5 J) J J)) ?_)
   refine AllT.cons (t_g1 J J J (fun hc_=>t_len (o_w hc_ 32 J) Tryz.underlying25 J J)) (AllT.cons (t_g1 J J J (fun hc_=>t_eqi (o_w hc_ 33 J) oI J J)) ?_)
   refine AllT.cons (t_and (o_t 31 J) (fun hc2_=>(o_w hc2_ 34 J)) J J) (AllT.cons (zb (o_t 35 J) J J) ?_)
   refine AllT.cons (t_g1 J J J (fun hc_=>zbh ty24 (o_t 2 J) J J)) (AllT.cons (t_g1 J J J (fun hc_=>zb (o_t 3 J) J J)) ?_)
   refine AllT.cons (t_g1 J J J (fun hc_=>zu (sets_Ends_ok (h29 hc_)) (xs:=[.tmp 37,.tmp 38]) (.cons (o_w hc_ 37 J) (.cons (o_w hc_ 38 J) .nil)) J J)) (AllT.cons (t_and (o_t 36 J) (fun hc2_=>(o_w hc2_ 39 J)) J J) ?_)
   refine AllT.cons (zb (o_t 40 J) J J) (AllT.cons (t_g1 J J J (fun hc_=>zbh ty24 (o_t 2 J) J J)) ?_)
   refine AllT.cons (t_g1 J J J (fun hc_=>zb (o_t 5 J) J J)) (AllT.cons (t_g1 J J J (fun hc_=>zu (sets_Ends_ok (h31 hc_)) (xs:=[.tmp 42,.tmp 43]) (.cons (o_w hc_ 42 J) (.cons (o_w hc_ 43 J) .nil)) J J)) ?_)
   refine AllT.cons (t_g1 J J J (fun hc_=>t_not (o_w hc_ 44 J) J J)) (AllT.cons (h33 ▸ (t_and (o_t 41 J) (fun hc2_=>(o_w hc2_ 45 J)) J J)) ?_)
   refine AllT.cons (zb (o_t 46 J) J J) (AllT.cons (t_g1 J J J (fun hc_=>zbh ty24 (o_t 1 J) J J)) ?_)
   refine AllT.cons (t_g1 J J J (fun hc_=>zbh ty24 (o_t 1 J) J J)) (AllT.cons (t_g1 J J J (fun hc_=>zu ((sets_Start_ok (h35 hc_)).frz) (xs:=[.tmp 49]) (.cons (o_w hc_ 49 J) .nil) J J)) ?_)
   refine AllT.cons (t_g1 J J J (fun hc_=>zu (sets_Ends_ok (h37 hc_)) (xs:=[.tmp 48,.tmp 50]) (.cons (o_w hc_ 48 J) (.cons (o_w hc_ 50 J) .nil)) J J)) (AllT.cons (t_g1 J J J (fun hc_=>t_not (o_w hc_ 51 J) J J)) ?_)
   refine AllT.cons (t_and (o_t 47 J) (fun hc2_=>(o_w hc2_ 52 J)) J J) (AllT.cons (zb (o_t 53 J) J J) ?_)
   refine AllT.cons (t_g1 J J J (fun hc_=>zbh ty24 (o_t 1 J) J J)) (AllT.cons (t_g1 J J J (fun hc_=>zbh ty24 (o_t 1 J) J J)) ?_)
   refine AllT.cons (t_g1 J J J (fun hc_=>t_lit (xs:=[.const (.int .u8 6)]) (.cons (o_i (k:=.u8) (by decide)) .nil) Tryz.underlying26 ty5 J J (by decide) J J)) (AllT.cons (t_g1 J J J (fun hc_=>zu ((sets_After_ok (h39 hc_)).frz) (xs:=[.tmp 56,.tmp 57]) (.cons (o_w hc_ 56 J) (.cons (o_w hc_ 57 J) .nil)) J J)) ?_)
   refine AllT.cons (t_g1 J J J (fun hc_=>zu (sets_Ends_ok (h41 hc_)) (xs:=[.tmp 55,.tmp 58]) (.cons (o_w hc_ 55 J) (.cons (o_w hc_ 58 J) .nil)) J J)) (AllT.cons (t_and (o_t 54 J) (fun hc2_=>(o_w hc2_ 59 J)) J J) ?_)
   refine AllT.cons (zb (o_t 60 J) J J) (AllT.cons (t_g1 J J J (fun hc_=>zbh ty24 (o_t 2 J) J J)) ?_)
   refine AllT.cons (t_g1 J J J (fun hc_=>zb (o_t 3 J) J J)) (AllT.cons (t_g1 J J J (fun hc_=>zu ((sets_Bytes_ok (h43 hc_)).frz) (xs:=[.tmp 62,.tmp 63]) (.cons (o_w hc_ 62 J) (.cons (o_w hc_ 63 J) .nil)) J J)) ?_)
   refine AllT.cons (t_g1 J J J (fun hc_=>t_lit (xs:=[.const (.int .u8 0),.const (.int .u8 5)]) (.cons (o_i (k:=.u8) (by decide)) (.cons (o_i (k:=.u8) (by decide)) .nil)) Tryz.underlying26 ty5 J J (by decide) J J)) (AllT.cons (t_g1 J J J (fun hc_=>zu (ref02_Bytes_ok (h45 hc_)) (xs:=[.tmp 64,.tmp 65]) (.cons (o_w hc_ 64 J) (.cons (o_w hc_ 65 J) .nil)) J J)) ?_)
   refine AllT.cons (t_and (o_t 61 J) (fun hc2_=>(o_w hc2_ 66 J)) J J) (AllT.cons (zb (o_t 67 J) J J) ?_)
   refine AllT.cons (t_g1 J J J (fun hc_=>zbh ty24 (o_t 2 J) J J)) (AllT.cons (t_g1 J J J (fun hc_=>zb (o_t 5 J) J J)) ?_)
   refine AllT.cons (t_g1 J J J (fun hc_=>zu ((sets_Bytes_ok (h47 hc_)).frz) (xs:=[.tmp 69,.tmp 70]) (.cons (o_w hc_ 69 J) (.cons (o_w hc_ 70 J) .nil)) J J)) (AllT.cons (t_g1 J J J (fun hc_=>t_lit (xs:=[.const (.int .u8 0)]) (.cons (o_i (k:=.u8) (by decide)) .nil) Tryz.underlying26 ty5 J J (by decide) J J)) ?_)
   refine AllT.cons (t_g1 J J J (fun hc_=>zu (ref02_Bytes_ok (h49 hc_)) (xs:=[.tmp 71,.tmp 72]) (.cons (o_w hc_ 71 J) (.cons (o_w hc_ 72 J) .nil)) J J)) (AllT.cons (t_and (o_t 68 J) (fun hc2_=>(o_w hc2_ 73 J)) J J) ?_)
   refine AllT.cons (zb (o_t 74 J) J J) (AllT.cons (t_g1 J J J (fun hc_=>zb (o_t 3 J) J J)) ?_)
   refine AllT.cons (t_g1 J J J (fun hc_=>zu (sets_Key_ok (h51 hc_)) (xs:=[.tmp 76]) (.cons (o_w hc_ 76 J) .nil) J J)) (AllT.cons (t_g1 J J J (fun hc_=>zb (o_t 4 J) J J)) ?_)
   refine AllT.cons (t_g1 J J J (fun hc_=>zu (sets_Key_ok (h53 hc_)) (xs:=[.tmp 78]) (.cons (o_w hc_ 78 J) .nil) J J)) (AllT.cons (t_g1 J J J (fun hc_=>t_eqv eqv_str (o_w hc_ 77 J) (o_w hc_ 79 J) J J)) ?_)
   refine AllT.cons (h55 ▸ (t_and (o_t 75 J) (fun hc2_=>(o_w hc2_ 80 J)) J J)) (AllT.cons (zb (o_t 81 J) J J) ?_)
   refine AllT.cons (t_g1 J J J (fun hc_=>zb (o_t 3 J) J J)) (AllT.cons (t_g1 J J J (fun hc_=>zu (sets_Key_ok (h57 hc_)) (xs:=[.tmp 83]) (.cons (o_w hc_ 83 J) .nil) J J)) ?_)
   refine AllT.cons (t_g1 J J J (fun hc_=>zb (o_t 5 J) J J)) (AllT.cons (t_g1 J J J (fun hc_=>zu (sets_Key_ok (h59 hc_)) (xs:=[.tmp 85]) (.cons (o_w hc_ 85 J) .nil) J J)) ?_)
   refine AllT.cons (t_g1 J J J (fun hc_=>t_nev eqv_str (o_w hc_ 84 J) (o_w hc_ 86 J) J J)) (AllT.cons (t_and (o_t 82 J) (fun hc2_=>(o_w hc2_ 87 J)) J J) ?_)
   exact AllT.nil
  intro a s _ L
  refine sx 0 (zd (o_t 88 J) J J) L fun a s _ L=>en' (hK25 _ _ ?_)
  subst h
  exact wp_ret (retq J L J)
end Go.Proofs.YtahgmdbioafmbaaGreatDoor.V
