/-
  The texts that the law's proof needs, part 4.
-/
import Derived.Lib.ItoaNum
import Derived.Shelf.SlSortCmp.NoneTotal
import Derived.Shelf.SlSortCmp.WholeK
import Derived.Test.YtjdaaiodniicoaaGreatDoorTwicePartsP3

namespace Go.Proofs.YtjdaaiodniicoaaGreatDoor.V
open Go Go.Shelf Go.Sort
set_option linter.unusedVariables false
theorem grow_of {w w':World} (hd:w.drawn≤w'.drawn) (ho:w'.os=w.os) (ht:w'.tape=w.tape) (hu:w'.output=w.output) (hs:w.heap.size≤w'.heap.size) (hb:∀b,b<w.heap.size→w'.heap[b]?=w.heap[b]?):∃q os,w'=Sort.grow (w.drewN q) os:=by
 refine ⟨w'.drawn-w.drawn,w'.heap.extract w.heap.size w'.heap.size, ?_⟩;have hh:w'.heap=w.heap++w'.heap.extract w.heap.size w'.heap.size:=by
  apply Array.ext_getElem?;intro i;rw [Array.getElem?_append];split
  ·exact hb i ‹_›
  ·rw [Array.getElem?_extract]
   rename_i h
   by_cases hi:i<w'.heap.size
   ·rw [if_pos (by omega)];congr 1;omega
   ·rw [if_neg (by omega),Array.getElem?_eq_none (by omega)]
 have hd2:w'.drawn=w.drawn+(w'.drawn-w.drawn):=by omega
 obtain ⟨h1,t1,d1,o1,u1⟩:=w';obtain ⟨h0,t0,d0,o0,u0⟩:=w;simp only at *;subst ho ht hu;unfold Sort.grow World.drewN;simp only;rw [← hh,← hd2]
section
attribute [local instance] dLe
theorem cmp_grow {P:Program} {g:FuncId} {α:Type} {E':VD.En α} {x y:α} {c:Int} (hc:VD.Fn P g [VD.Pd.rep E' x,VD.Pd.rep E' y] (VD.Rq (VD.Pd.rep (VD.En.int .i64) c))) (s:VD.St) (hg:VD.Gl s) {cx cy:List Value} (hx:E'.R s.w (zgh s) cx x) (hy:E'.R s.w (zgh s) cy y):
  Calls P g #[E'.val cx,E'.val cy] s.w fun e w'=>e = .returned (.int .i64 c)∧∃q os',w'=Sort.grow (s.w.drewN q) os':=
 (hc.run s [E'.val cx,E'.val cy] hg ⟨⟨cx,rfl,hx⟩,⟨cy,rfl,hy⟩,trivial⟩).mono fun e w' ⟨v,s',he,hw,hX,hq⟩=>by
  subst he;subst hw;refine ⟨by rw [(zbf.1 hq).1],grow_of hX.mv.dr hX.mv.os hX.mv.tape hX.mv.output hX.mv.size fun b hb=>hX.mv.blk b hb id⟩
end
theorem swo_cmp {α:Type} {cf:α→α→Int} (h0:∀x,cf x x=0) (ha:∀x y,cf y x = -cf x y) (ht:∀x y z,cf x y≤0→cf y z≤0→cf x z≤0):SWO (Go.Proofs.ltOf cf) where
 irrefl x:=by unfold Go.Proofs.ltOf;rw [h0];rfl
 trans x y z h1 h2:=by
  unfold Go.Proofs.ltOf at *;simp only [decide_eq_true_eq] at *;have a1:=ha x y;have a2:=ha y z;have a3:=ha x z;rcases Int.lt_or_le (cf x z) 0 with h | h
  ·exact h
  ·have:=ht z x y (by omega) (by omega);omega
 ntrans x y z h1 h2:=by
  unfold Go.Proofs.ltOf at *;simp only [decide_eq_false_iff_not,Int.not_lt] at *;have a1:=ha x y;have a2:=ha y z;have a3:=ha x z;have:=ht z y x (by omega) (by omega);omega
theorem put_block {w:World} {b:Nat} {cur:Array Value} {te:TypeId} {F:Array Value} (m:Nat) (os:Array Obj) (hb:w.heap[b]?=some (.cells cur te (0,0))):
  (Sort.grow (putRow id (Sort.ahead w m) b 0 F) os).heap[b]?=some (.cells (putCells id 0 F cur) te (0,0)):=by
 have hlt:=(Array.getElem?_eq_some_iff.1 hb).1;unfold Sort.grow putRow mapBlock;simp only;rw [Array.getElem?_append_left (by simpa [Sort.ahead] using hlt),Array.getElem?_modify,if_pos rfl];show Option.map _ (w.heap[b]?)=_;rw [hb];rfl
theorem put_other {w:World} {b c:Nat} {F:Array Value} (m:Nat) (os:Array Obj) (hc:c<w.heap.size) (hne:c≠b):(Sort.grow (putRow id (Sort.ahead w m) b 0 F) os).heap[c]?=w.heap[c]?:=by
 unfold Sort.grow putRow mapBlock;simp only;rw [Array.getElem?_append_left (by simpa [Sort.ahead] using hc),Array.getElem?_modify,if_neg (Ne.symm hne)];rfl
theorem flat_idx {css:List (List Value)} {k:Nat} (hk:0<k) (h:∀cs∈css,cs.length=k) (j:Nat):css.flatten[j]?=(css[j / k]?).bind (fun cs=>cs[j % k]?):=by
 cases hi:css[j / k]? with
 | none=>
  rw [Option.bind_none,List.getElem?_eq_none];rw [zhc h];have:=List.getElem?_eq_none_iff.1 hi;have h2:=Nat.div_add_mod j k;have h3:css.length*k≤(j / k)*k:=Nat.mul_le_mul_right _ this;rw [Nat.mul_comm] at h2;omega
 | some cs=>
  have hc:cs.length=k:=h cs (List.mem_of_getElem? hi);have hm:=Nat.mod_lt j hk;have e:cs[j % k]?=some cs[j % k]:=List.getElem?_eq_getElem (by omega);have:=zlj h hi e;rw [Nat.mul_comm,Nat.div_add_mod] at this;rw [this,Option.bind_some,e]
theorem fm_sort {P:Program} {ρ:Ren} (L:Go.Proofs.SlLaysF0.n6 P ρ) {α:Type} {E:En α} {E':VD.En α} {te:TypeId} {g:FuncId} {cf:α→α→Int} (ht24:ρ.t 24=te) (hE:Ty P te E) (hA:E.agg=true) (hA':E'.agg=true) (hR:∀{w S cs x},E.R w S cs x→E'.R w S cs x)
  (hf:∀(args:Array Value) (w:World),(callFunc (ρ.f 6) args).run P w = .ok (.enter (ρ.f 6) args) w) (eg:∀(args:Array Value) (w:World),(callFunc g args).run P w = .ok (.enter g args) w) (hO:SWO (Go.Proofs.ltOf cf)) {xs:List α} (hlen:xs.length≤2147483648)
  (hc:∀x∈xs,∀y∈xs,VD.Fn P g [VD.Pd.rep E' x,VD.Pd.rep E' y] (VD.Rq (VD.Pd.rep (VD.En.int .i64) (cf x y)))) (v0:Value):
  Fm P (ρ.f 6) (fun b=>v0.ownBlock=some b) [Pd.prow E te v0 xs,Pd.is (.func (.func g) #[] #[])] (fun _ s' _=>∃ys:List α,ys.Perm xs∧ys.Pairwise (fun a b=>¬ cf b a<0)∧(Pd.prow E te v0 ys).p s' v0):=by
 refine ⟨hf,fun s vs hgl hX hv=>?_⟩
 match vs,hv with
 | [v,fv],⟨⟨hv0,hrow⟩,hfv,_⟩=>
 have hfv:fv = .func (.func g) #[] #[]:=hfv;subst hfv;subst hv0;obtain ⟨h1,h2,h3,css,hEl,how⟩:=hrow
 by_cases hx0:xs=[]
 ·subst hx0;obtain ⟨p,cap,rfl⟩:∃p cap,v = .slice p 0 cap:=by
   rcases how.2 with ⟨e,_⟩ | ⟨b,cap,cur,e,_⟩
   ·exact ⟨none,0,e⟩
   ·exact ⟨_,cap,e⟩
  refine (Go.Proofs.AnyF.slices_SortFunc_none L p cap _ s.w).mono fun e w' ⟨he,hw⟩=>?_;subst he;subst hw;exact ⟨_,s,rfl,rfl,Fr.refl hX,[],.refl _,List.Pairwise.nil,rfl,h1,h2,h3,css,hEl,how⟩
 have hpos:0<xs.length:=List.length_pos_iff.2 hx0;rcases how.2 with ⟨e,hn⟩ | ⟨b,cap,cur,hvb,hN,hgb,hnc,hcm,hcs,htk⟩
 ·omega
 subst hvb;have hlens:=hEl.lens;have hXb:s.X b:=h2 b rfl;have hblt:b<s.w.heap.size:=s.lt b hXb
 let α':={p:List Value × α // E.R s.w (zgh s) p.1 p.2∧p.2∈xs}
 have hel:∀i:Fin xs.length,E.R s.w (zgh s) (css[i.1]'(by rw [hEl.1];exact i.2)) xs[i.1]∧xs[i.1]∈xs:=fun i=>⟨hEl.2 i.1 _ _ (List.getElem?_eq_getElem _) (List.getElem?_eq_getElem _),List.getElem_mem _⟩
 let d:Array α':=Array.ofFn fun i:Fin xs.length=>⟨(css[i.1]'(by rw [hEl.1];exact i.2),xs[i.1]),hel i⟩
 have hdn:d.size=xs.length:=by simp [d]
 haveI:Inhabited α':=⟨d[0]'(by rw [hdn];exact hpos)⟩
 let enc:α'→List Value:=fun p=>p.1.1
 have hk:∀x:α',(enc x).length=E.sz:=fun x=>E.len x.2.1;have hone:∀x:α',∀u∈enc x,u.oneCell'=true:=fun x=>E.one x.2.1;have hdl:d.toList.map (fun p=>p.1.1)=css:=by
  apply List.ext_getElem?;intro i;simp only [d,List.getElem?_map,Array.toList_ofFn,List.getElem?_ofFn]
  by_cases hi:i<xs.length
  ·rw [dif_pos hi,Option.map_some,List.getElem?_eq_getElem (by rw [hEl.1];exact hi)]
  ·rw [dif_neg hi,Option.map_none,List.getElem?_eq_none (by rw [hEl.1];omega)]
 have hdx:d.toList.map (fun p=>p.1.2)=xs:=by
  apply List.ext_getElem?;intro i;simp only [d,List.getElem?_map,Array.toList_ofFn,List.getElem?_ofFn]
  by_cases hi:i<xs.length
  ·rw [dif_pos hi,Option.map_some,List.getElem?_eq_getElem hi]
  ·rw [dif_neg hi,Option.map_none,List.getElem?_eq_none (by omega)]
 have hflat:∀(q:Array α') (j:Nat),j<q.size*E.sz→(q.toList.map (fun p=>p.1.1)).flatten[j]?=some (flatK enc E.sz q)[j]!:=by
  intro q j hj;have hjk:j / E.sz<q.size:=Nat.div_lt_of_lt_mul (by rw [Nat.mul_comm];exact hj);rw [flat_idx E.pos (fun cs hcs=>by obtain ⟨p,hp,rfl⟩:=List.mem_map.1 hcs;exact E.len p.2.1),get_flatK _ _ _ _ hj,List.getElem?_map,Array.getElem?_toList,Array.getElem?_eq_getElem hjk];simp only [Option.map_some,Option.bind_some];rw [getElem!_pos q (j / E.sz) hjk];have hm:j % E.sz<(enc q[j / E.sz]).length:=by rw [hk];exact Nat.mod_lt _ E.pos
  rw [getElem!_pos (enc q[j / E.sz]) _ hm];exact List.getElem?_eq_getElem hm
 have hH:HoldsK enc E.sz s.w b 0 d:=by
  intro j hj;rw [size_flatK] at hj;have hf:=hflat d j hj;rw [hdl] at hf;have hcj:cur[j]?=some (flatK enc E.sz d)[j]!:=by
   rw [← htk,List.getElem?_take] at hf;split at hf
   ·simpa using hf
   ·cases hf
  refine ⟨?_, ?_⟩
  ·rw [Nat.zero_add,cell_of_row s.w b j cur te (0,0) hgb];exact hcj
  ·unfold World.frozen?;simp [hgb]
 have hO':SWO (Go.Proofs.ltOf fun p q:α'=>cf p.1.2 q.1.2):=⟨fun x=>hO.irrefl x.1.2,fun x y z=>hO.trans x.1.2 y.1.2 z.1.2,fun x y z=>hO.ntrans x.1.2 y.1.2 z.1.2⟩;have hcmp:Go.Proofs.CmpLays P g #[] enc E.sz (fun p q:α'=>cf p.1.2 q.1.2) b 0 d.size s.w:=by
  intro m os dk hdk x y;have hsz:s.w.heap.size≤(sortWorldK enc E.sz s.w b 0 m dk os).heap.size:=Go.Proofs.size_sortWorldK_c enc E.sz s.w b 0 m dk os;have hoth:∀c,c<s.w.heap.size→c≠b→(sortWorldK enc E.sz s.w b 0 m dk os).heap[c]?=s.w.heap[c]?:=fun c hc hne=>put_other m os hc hne
  let sd:VD.St:=⟨sortWorldK enc E.sz s.w b 0 m dk os,fun c=>c=b,fun c hc=>by subst hc;omega⟩
  have hgd:VD.Gl sd:=by
   have key:∀c o,¬ s.X c→s.w.heap[c]?=some o→c≠b∧sd.w.heap[c]?=some o:=fun c o k1 k2=>by
    have hpb:c≠b:=fun e=>k1 (e ▸ hXb);exact ⟨hpb,(hoth c (Array.getElem?_eq_some_iff.1 k2).1 hpb).trans k2⟩
   refine ⟨fun p hp=>?_,fun p hp=>?_⟩
   ·obtain ⟨k1,t,fr,k2⟩:=hgl.1 p hp;obtain ⟨k3,k4⟩:=key _ _ k1 k2;exact ⟨k3,t,fr,k4⟩
   ·obtain ⟨k1,m',t,fr,es,clock,ys,k2,k3,k4,k5,k6⟩:=hgl.2 p hp;obtain ⟨j1,j2⟩:=key _ _ k1 k2;obtain ⟨j3,j4⟩:=key _ _ k3 k4;exact ⟨j1,m',t,fr,es,clock,ys,j2,j3,j4,k5,k6⟩
  have hfoot:∀c,zgh s c→zgh sd c:=fun c hc=>⟨Nat.lt_of_lt_of_le hc.1 hsz,fun e=>hc.2 (e ▸ hXb)⟩;have conv:∀z:α',E'.R sd.w (zgh sd) (enc z) z.1.2:=fun z=>E'.mono hfoot (E'.move (fun c hc=>hoth c hc.1 (fun e=>hc.2 (e ▸ hXb))) (hR z.2.1))
  have:=cmp_grow (hc _ x.2.2 _ y.2.2) sd hgd (conv x) (conv y);have hval:∀z:α',E'.val (enc z) = .agg (enc z).toArray:=fun z=>by unfold En.val;rw [hA'];rfl
  rw [hval,hval] at this;exact this
 have hmain:=Go.Proofs.AnyQ.slices_SortFunc L E.sz (fun w=>by rw [ht24,← hA];exact zk7 hE w) (fun w=>by rw [ht24];exact zbw hE w) enc hk hone (fun p q:α'=>cf p.1.2 q.1.2) hO' g #[] b 0 cap d s.w eg hcmp hH hblt (by rw [hdn];omega);rw [hdn] at hmain;refine hmain.mono fun e w' ⟨he,d',m,os,hP,hS,hw⟩=>?_;subst he;subst hw;have hd'n:d'.size=xs.length:=hP.1.trans hdn;have hsz:s.w.heap.size≤(sortWorldK enc E.sz s.w b 0 m d' os).heap.size:=Go.Proofs.size_sortWorldK_c enc E.sz s.w b 0 m d' os
 let s':St:=⟨sortWorldK enc E.sz s.w b 0 m d' os,s.X,fun c hc=>Nat.lt_of_lt_of_le (s.lt c hc) hsz⟩
 have hmv:Mv (fun c=>(Value.slice (some ⟨b,0,none⟩) xs.length cap).ownBlock=some c) s s':=
  ⟨trivial,rfl,rfl,rfl,hsz,fun c hc hne=>put_other m os hc (fun e=>hne (by rw [e];rfl)),fun c hc=>hX c hc,fun c hc=>.inl hc⟩
 refine ⟨_,s',rfl,rfl,⟨hmv,fun c hc=>hc⟩,d'.toList.map (fun p=>p.1.2), ?_, ?_,rfl,rfl,fun c hc=>h2 c hc,by simp [hd'n];exact h3,d'.toList.map (fun p=>p.1.1),⟨by simp,fun i cs x hi hx=>?_⟩, ?_⟩
 ·have hp:=(hP.2.2).map (fun p:α'=>p.1.2);have e1:(d'.extract 0 xs.length).toList=d'.toList:=by rw [← hd'n];simp
  have e2:(d.extract 0 xs.length).toList=d.toList:=by rw [← hdn];simp
  rw [e1,e2,hdx] at hp;exact hp
 ·rw [List.pairwise_iff_getElem];intro i j hi hj hij;simp only [List.length_map,Array.length_toList] at hi hj;have:=hS i j (Nat.zero_le _) hij (by omega);unfold Go.Proofs.ltOf at this;rw [getElem!_pos d' i hi,getElem!_pos d' j hj] at this;simpa using this
 ·simp only [List.getElem?_map,Array.getElem?_toList] at hi hx;cases hq:d'[i]? with
  | none=>rw [hq] at hi;cases hi
  | some q=>
   rw [hq] at hi hx;simp only [Option.map_some,Option.some.injEq] at hi hx;subst hi;subst hx;exact E.go hmv q.2.1
 ·have hfl:(d'.toList.map (fun p=>p.1.1)).flatten.length=d'.size*E.sz:=by
   rw [zhc (fun cs hcs=>by obtain ⟨p,hp,rfl⟩:=List.mem_map.1 hcs;exact E.len p.2.1)];simp
  have hle:d'.size*E.sz≤cur.size:=by rw [hcs,hd'n];exact Nat.mul_le_mul_right _ hnc
  refine ⟨by rw [hfl];simp,.inr ⟨b,cap,_,by simp [hd'n],Nat.zero_le _,put_block m os hgb,by simp [hd'n];exact hnc,hcm,by simp [putCells];exact hcs, ?_⟩⟩;apply List.ext_getElem?;intro j;rw [List.getElem?_take];simp only [List.length_map,Array.length_toList];split
  ·rename_i hj
   rw [hflat d' j hj,Array.getElem?_toList];unfold putCells;rw [Array.getElem?_mapIdx,Array.getElem?_eq_getElem (by omega)];simp only [Option.map_some,id];rw [if_pos ⟨Nat.zero_le _,by rw [size_flatK];omega⟩,Nat.sub_zero]
  ·rename_i hj
   rw [List.getElem?_eq_none (by rw [hfl];omega)]
end Go.Proofs.YtjdaaiodniicoaaGreatDoor.V
namespace Go.Proofs.YtjdaaiodniicoaaGreatDoor.V
open Go
set_option linter.unusedVariables false
def zc9.j1 (r_:(List Int)) (out3:(List Int)):Prop:=r_=out3
def zc9.l1 (s_:(List SItem)) (X1:(List Int)→Prop):Nat→(List Int)→Int→Prop
 | 0,_,_=>False
 | k_0+1,out6,i8=>((decide (i8<(s_.length:Int)))=true→∃e14:SItem,at? s_ i8=some e14∧∃e16:SItem,at? s_ i8=some e16∧∃e18:SItem,at? s_ i8=some e18∧∃e20:SItem,at? s_ i8=some e20∧(out6.length+[e14.1,e16.2.1,e18.2.2.1,e20.2.2.2].length≤2147483648)∧(InR .i64 (i8+1))∧zc9.l1 s_ X1 k_0 (out6++[e14.1,e16.2.1,e18.2.2.1,e20.2.2.2]) (i8+1))∧((decide (i8<(s_.length:Int)))=false→X1 out6)
def zc9 (s_:(List SItem)) (r_:(List Int)):Prop:=∃k9,zc9.l1 s_ (zc9.j1 r_) k9 [(s_.length:Int)] 0
def zcw.j1 (r_:Int):Prop:=r_=0
def zcw.l1 (r1:(List Int)) (r3:(List Int)) (r_:Int) (X1:Prop):Nat→Int→Prop
 | 0,_=>False
 | k_0+1,i7=>∃b12:Bool,b12=((decide (i7<(r1.length:Int)))&&(decide (i7<(r3.length:Int))))∧((b12)=true→∃e16:Int,at? r1 i7=some e16∧∃e18:Int,at? r3 i7=some e18∧((decide (e16<e18))=true→r_=(-1))∧((decide (e16<e18))=false→∃e20:Int,at? r1 i7=some e20∧∃e22:Int,at? r3 i7=some e22∧((decide (e22<e20))=true→r_=1)∧((decide (e22<e20))=false→(InR .i64 (i7+1))∧zcw.l1 r1 r3 r_ X1 k_0 (i7+1))))∧((b12)=false→X1)
def zcw (a_:(List SItem)) (b_:(List SItem)) (r_:Int):Prop:=∃r1:(List Int),zc9 a_ r1∧∃r3:(List Int),zc9 b_ r3∧∃k8,zcw.l1 r1 r3 r_ (zcw.j1 r_) k8 0
def zby.j1 (r_:((List SItem) × Bool)) (out5:(List SItem)):Prop:=r_=(out5,true)
def zby.j2 (L1_:(List SItem)→Int→Prop) (out9:(List SItem)) (i11:Int) (x25:SItem):Prop:=(out9.length+[x25].length≤2147483648)∧(InR .i64 (i11+1))∧L1_ (out9++[x25]) (i11+1)
def zby.l1 (s_:(List SItem)) (r_:((List SItem) × Bool)) (X1:(List SItem)→Prop):Nat→(List SItem)→Int→Prop
 | 0,_,_=>False
 | k_0+1,out9,i11=>((decide (i11<(s_.length:Int)))=true→∃e19:SItem,at? s_ i11=some e19∧(((e19.1==5))=true→((decide (e19.2.2.1≤0))=true→r_=(([]:(List SItem)),false))∧((decide (e19.2.2.1≤0))=false→(InR .i64 (e19.2.2.1-1))∧(zby.j2 (zby.l1 s_ r_ X1 k_0) out9 i11) (e19.1,e19.2.1,e19.2.2.1-1,e19.2.2.2)))∧(((e19.1==5))=false→(zby.j2 (zby.l1 s_ r_ X1 k_0) out9 i11) e19))∧((decide (i11<(s_.length:Int)))=false→X1 out9)
def zby (s_:(List SItem)) (r_:((List SItem) × Bool)):Prop:=∃k12,zby.l1 s_ r_ (zby.j1 r_) k12 ([]:(List SItem)) 0
def zod (d_:SDesc) (s_:(List SItem)) (r_:Bool):Prop:=∃e2:SItem,(((((s_.length:Int)==0))=false)→at? s_ 0=some e2)∧∃e4:SItem,((((((s_.length:Int)==0)||(e2.1==3)))=false)→at? s_ 0=some e4)∧∃b6:Bool,b6=((((s_.length:Int)==0)||(e2.1==3))||(e4.1==4))∧((b6)=true→r_=true)∧((b6)=false→∃e8:SItem,at? s_ 0=some e8∧∃e10:SNode,at? d_ e8.2.1=some e10∧∃e12:SItem,at? s_ 0=some e12∧∃b14:Bool,b14=((e12.1==1)&&(((e10.1==2)||(e10.1==8))||(e10.1==9)))∧r_=b14)
def zcc (l_:(List SItem)) (s_:(List SItem)) (r_:(List SItem)):Prop:=(([]:(List SItem)).length+l_.length≤2147483648)∧((([]:(List SItem))++l_).length+s_.length≤2147483648)∧r_=(([]:(List SItem))++l_)++s_
def zdn.j1 (s_:(List SItem)) (many_:Int) (r_:(List SBranch)) (out2:(List SBranch)) (done4:Bool):Prop:=(((!done4))=true→(out2.length+[(s_,many_)].length≤2147483648)∧r_=out2++[(s_,many_)])∧(((!done4))=false→r_=out2)
def zdn.j2 (L1_:(List SBranch)→Bool→Int→Prop) (l_:(List SBranch)) (i12:Int) (out30:(List SBranch)) (done32:Bool):Prop:=∃e34:SBranch,at? l_ i12=some e34∧(out30.length+[e34].length≤2147483648)∧(InR .i64 (i12+1))∧L1_ (out30++[e34]) done32 (i12+1)
def zdn.l1 (l_:(List SBranch)) (s_:(List SItem)) (many_:Int) (X1:(List SBranch)→Bool→Prop):Nat→(List SBranch)→Bool→Int→Prop
 | 0,_,_,_=>False
 | k_0+1,out9,done11,i12=>((decide (i12<(l_.length:Int)))=true→∃e18:SBranch,at? l_ i12=some e18∧∃r20:Int,zcw s_ e18.1 r20∧(((r20==0))=true→∃e23:SBranch,at? l_ i12=some e23∧(InR .i64 (e23.2+many_))∧(out9.length+[(s_,(min 2 (e23.2+many_)))].length≤2147483648)∧(InR .i64 (i12+1))∧zdn.l1 l_ s_ many_ X1 k_0 (out9++[(s_,(min 2 (e23.2+many_)))]) true (i12+1))∧(((r20==0))=false→((((decide (r20<0))&&(!done11)))=true→(out9.length+[(s_,many_)].length≤2147483648)∧(zdn.j2 (zdn.l1 l_ s_ many_ X1 k_0) l_ i12) (out9++[(s_,many_)]) true)∧((((decide (r20<0))&&(!done11)))=false→(zdn.j2 (zdn.l1 l_ s_ many_ X1 k_0) l_ i12) out9 done11)))∧((decide (i12<(l_.length:Int)))=false→X1 out9 done11)
def zdn (l_:(List SBranch)) (s_:(List SItem)) (many_:Int) (r_:(List SBranch)):Prop:=∃k13,zdn.l1 l_ s_ many_ (zdn.j1 s_ many_ r_) k13 ([]:(List SBranch)) false 0
def zdk.j1 (r_:(List (List SItem))) (out18:(List (List SItem))):Prop:=r_=out18
def zdk.j2 (r_:(List (List SItem))) (out34:(List (List SItem))):Prop:=r_=out34
def zdk.j3 (s_:(List SItem)) (r_:(List (List SItem))) (e1:SItem) (e5:SNode) (out27:(List (List SItem))):Prop:=((decide (0<e1.2.2.2))=true→(InR .i64 (e1.2.2.1-1))∧(InR .i64 (e1.2.2.2-1))∧∃r39:(List SItem),zcc [(1,e5.2.1,0,0),(2,e1.2.1,(max 0 (e1.2.2.1-1)),e1.2.2.2-1)] (s_.drop (1:Int).toNat) r39∧(out27.length+[r39].length≤2147483648)∧(zdk.j2 r_) (out27++[r39]))∧((decide (0<e1.2.2.2))=false→(zdk.j2 r_) out27)
def zdk (d_:SDesc) (s_:(List SItem)) (r_:(List (List SItem))):Prop:=∃e1:SItem,at? s_ 0=some e1∧((0:Int)≤1∧1≤(s_.length:Int))∧∃e5:SNode,at? d_ e1.2.1=some e5∧(((e1.1==5))=true→(((e1.2.2.1==0))=true→∃r21:(List SItem),zcc ([]:(List SItem)) (s_.drop (1:Int).toNat) r21∧(([]:(List (List SItem))).length+[r21].length≤2147483648)∧(zdk.j1 r_) (([]:(List (List SItem)))++[r21]))∧(((e1.2.2.1==0))=false→(zdk.j1 r_) ([]:(List (List SItem)))))∧(((e1.1==5))=false→(((e1.1==2))=true→(((e1.2.2.1==0))=true→∃r43:(List SItem),zcc ([]:(List SItem)) (s_.drop (1:Int).toNat) r43∧(([]:(List (List SItem))).length+[r43].length≤2147483648)∧(zdk.j3 s_ r_ e1 e5) (([]:(List (List SItem)))++[r43]))∧(((e1.2.2.1==0))=false→(zdk.j3 s_ r_ e1 e5) ([]:(List (List SItem)))))∧(((e1.1==2))=false→(((e5.1==1))=true→∃r50:(List SItem),zcc ([]:(List SItem)) (s_.drop (1:Int).toNat) r50∧(([]:(List (List SItem))).length+[r50].length≤2147483648)∧r_=([]:(List (List SItem)))++[r50])∧(((e5.1==1))=false→(((e5.1==3))=true→∃r54:(List SItem),zcc [(3,e1.2.1,0,0)] (s_.drop (1:Int).toNat) r54∧(([]:(List (List SItem))).length+[r54].length≤2147483648)∧r_=([]:(List (List SItem)))++[r54])∧(((e5.1==3))=false→(((e5.1==4))=true→∃r58:(List SItem),zcc [(1,e5.2.1,0,0),(1,e5.2.2.1,0,0)] (s_.drop (1:Int).toNat) r58∧(([]:(List (List SItem))).length+[r58].length≤2147483648)∧r_=([]:(List (List SItem)))++[r58])∧(((e5.1==4))=false→(((e5.1==5))=true→∃r62:(List SItem),zcc [(1,e5.2.1,0,0)] (s_.drop (1:Int).toNat) r62∧∃r64:(List SItem),zcc [(1,e5.2.2.1,0,0)] (s_.drop (1:Int).toNat) r64∧(([]:(List (List SItem))).length+[r62,r64].length≤2147483648)∧r_=([]:(List (List SItem)))++[r62,r64])∧(((e5.1==5))=false→(((e5.1==6))=true→∃r68:(List SItem),zcc ([]:(List SItem)) (s_.drop (1:Int).toNat) r68∧∃r70:(List SItem),zcc [(1,e5.2.1,0,0),e1] (s_.drop (1:Int).toNat) r70∧(([]:(List (List SItem))).length+[r68,r70].length≤2147483648)∧r_=([]:(List (List SItem)))++[r68,r70])∧(((e5.1==6))=false→(((e5.1==7))=true→∃r74:(List SItem),zcc [(2,e1.2.1,e5.2.2.2.1,e5.2.2.2.2.1)] (s_.drop (1:Int).toNat) r74∧(([]:(List (List SItem))).length+[r74].length≤2147483648)∧r_=([]:(List (List SItem)))++[r74])∧(((e5.1==7))=false→r_=([]:(List (List SItem)))))))))))
def zda.j1 (r_:(List SBranch)) (l11:(List SBranch)):Prop:=r_=l11
def zda.l1 (n_:SDesc→(List SItem)→(List SBranch)→(List SBranch)→Prop) (d_:SDesc) (r8:(List (List SItem))) (X1:(List SBranch)→Prop):Nat→(List SBranch)→Int→Prop
 | 0,_,_=>False
 | k_0+1,l13,i14=>((decide (i14<(r8.length:Int)))=true→∃e20:(List SItem),at? r8 i14=some e20∧∃r22:(List SBranch),n_ d_ e20 l13 r22∧(InR .i64 (i14+1))∧zda.l1 n_ d_ r8 X1 k_0 r22 (i14+1))∧((decide (i14<(r8.length:Int)))=false→X1 l13)
def zda.n:Nat→SDesc→(List SItem)→(List SBranch)→(List SBranch)→Prop
 | 0,_,_,_,_=>False
 | k_+1,d_,s_,l_,r_=>∃r2:Bool,zod d_ s_ r2∧((r2)=true→∃r4:(List SItem),zcc ([]:(List SItem)) s_ r4∧∃r6:(List SBranch),zdn l_ r4 1 r6∧r_=r6)∧((r2)=false→∃r8:(List (List SItem)),zdk d_ s_ r8∧∃k15,zda.l1 (zda.n k_) d_ r8 (zda.j1 r_) k15 l_ 0)
def zda (d_:SDesc) (s_:(List SItem)) (l_:(List SBranch)) (r_:(List SBranch)):Prop:=∃k_,zda.n k_ d_ s_ l_ r_
def zig (d_:SDesc) (s_:(List SItem)) (r_:(List SBranch)):Prop:=∃r1:(List SBranch),zda d_ s_ ([]:(List SBranch)) r1∧r_=r1
def zql (d_:SDesc) (s_:(List SItem)) (cv_:Int) (r_:((List SItem) × Bool)):Prop:=((((s_.length:Int)==0))=true→r_=(([]:(List SItem)),false))∧((((s_.length:Int)==0))=false→((0:Int)≤1∧1≤(s_.length:Int))∧∃r7:((List SItem) × Bool),zby (s_.drop (1:Int).toNat) r7∧(((!r7.2))=true→r_=(([]:(List SItem)),false))∧(((!r7.2))=false→∃e13:SItem,at? s_ 0=some e13∧∃e17:SNode,at? d_ e13.2.1=some e17∧(((e13.1==3))=true→∃c30:Int,zd9 e17.2.2.2.2.2.2 e13.2.2.1=some c30∧(((c30 != cv_))=true→r_=(([]:(List SItem)),false))∧(((c30 != cv_))=false→(InR .i64 (e13.2.2.1+1))∧∃b35:Bool,b35=(decide (e13.2.2.1+1<(e17.2.2.2.2.2.2.length:Int)))∧((b35)=true→(InR .i64 (e13.2.2.1+1))∧([(3,e13.2.1,e13.2.2.1+1,0)].length+r7.1.length≤2147483648)∧r_=([(3,e13.2.1,e13.2.2.1+1,0)]++r7.1,true))∧((b35)=false→(([]:(List SItem)).length+r7.1.length≤2147483648)∧r_=(([]:(List SItem))++r7.1,true))))∧(((e13.1==3))=false→(((e13.1==4))=true→(InR .i64 (256*e13.2.2.1))∧(InR .i64 ((256*e13.2.2.1)+cv_))∧([(1,e17.2.1,0,0),(5,0,(256*e13.2.2.1)+cv_,0)].length+r7.1.length≤2147483648)∧r_=([(1,e17.2.1,0,0),(5,0,(256*e13.2.2.1)+cv_,0)]++r7.1,true))∧(((e13.1==4))=false→(((e17.1==8))=true→([(1,e17.2.1,0,0),(5,0,cv_,0)].length+r7.1.length≤2147483648)∧r_=([(1,e17.2.1,0,0),(5,0,cv_,0)]++r7.1,true))∧(((e17.1==8))=false→(((e17.1==9))=true→([(4,e13.2.1,cv_,0)].length+r7.1.length≤2147483648)∧r_=([(4,e13.2.1,cv_,0)]++r7.1,true))∧(((e17.1==9))=false→∃r75:Bool,zc0 e17.2.2.2.2.2.1 cv_ r75∧(((!r75))=true→r_=(([]:(List SItem)),false))∧(((!r75))=false→(([]:(List SItem)).length+r7.1.length≤2147483648)∧r_=(([]:(List SItem))++r7.1,true))))))))
def zev.j1 (r_:(List SBranch)) (out8:(List SBranch)):Prop:=r_=out8
def zev.l1 (d_:SDesc) (cv_:Int) (r3:(List SBranch)) (X1:(List SBranch)→Prop):Nat→(List SBranch)→Int→Prop
 | 0,_,_=>False
 | k_0+1,out12,i14=>((decide (i14<(r3.length:Int)))=true→∃e22:SBranch,at? r3 i14=some e22∧∃r24:((List SItem) × Bool),zql d_ e22.1 cv_ r24∧((r24.2)=true→∃e29:SBranch,at? r3 i14=some e29∧∃r31:(List SBranch),zdn out12 r24.1 e29.2 r31∧(InR .i64 (i14+1))∧zev.l1 d_ cv_ r3 X1 k_0 r31 (i14+1))∧((r24.2)=false→(InR .i64 (i14+1))∧zev.l1 d_ cv_ r3 X1 k_0 out12 (i14+1)))∧((decide (i14<(r3.length:Int)))=false→X1 out12)
def zev (d_:SDesc) (s_:(List SItem)) (cv_:Int) (r_:(List SBranch)):Prop:=∃r3:(List SBranch),zig d_ s_ r3∧∃k15,zev.l1 d_ cv_ r3 (zev.j1 r_) k15 ([]:(List SBranch)) 0
def zbg.j1 (r_:(List Cl)) (out8:(List Cl)):Prop:=r_=out8
def zbg.j2 (L1_:(List Cl)→Int→Prop) (i14:Int) (out54:(List Cl)):Prop:=(InR .i64 (i14+1))∧L1_ out54 (i14+1)
def zbg.l2 (X2:(List Cl)→Prop):Nat→(List Cl)→Int→Prop
 | 0,_,_=>False
 | k_0+1,out58,c60=>((decide (c60<256))=true→∃r67:Cl,zcz (c60 % 256) (c60 % 256) r67∧(out58.length+[r67].length≤2147483648)∧(InR .i64 (c60+1))∧zbg.l2 X2 k_0 (out58++[r67]) (c60+1))∧((decide (c60<256))=false→X2 out58)
def zbg.l1 (d_:SDesc) (r3:(List SBranch)) (X1:(List Cl)→Prop):Nat→(List Cl)→Int→Prop
 | 0,_,_=>False
 | k_0+1,out12,i14=>((decide (i14<(r3.length:Int)))=true→∃e23:SBranch,at? r3 i14=some e23∧((((e23.1.length:Int)==0))=true→(InR .i64 (i14+1))∧zbg.l1 d_ r3 X1 k_0 out12 (i14+1))∧((((e23.1.length:Int)==0))=false→∃e27:SBranch,at? r3 i14=some e27∧∃e29:SItem,at? e27.1 0=some e29∧∃e34:SNode,at? d_ e29.2.1=some e34∧(((e29.1==3))=true→∃c40:Int,zd9 e34.2.2.2.2.2.2 e29.2.2.1=some c40∧∃c42:Int,zd9 e34.2.2.2.2.2.2 e29.2.2.1=some c42∧∃r44:Cl,zcz c40 c42 r44∧(out12.length+[r44].length≤2147483648)∧(InR .i64 (i14+1))∧zbg.l1 d_ r3 X1 k_0 (out12++[r44]) (i14+1))∧(((e29.1==3))=false→((((e29.1==1)&&(e34.1==2)))=true→(out12.length+[e34.2.2.2.2.2.1].length≤2147483648)∧(InR .i64 (i14+1))∧zbg.l1 d_ r3 X1 k_0 (out12++[e34.2.2.2.2.2.1]) (i14+1))∧((((e29.1==1)&&(e34.1==2)))=false→∃k61,zbg.l2 (zbg.j2 (zbg.l1 d_ r3 X1 k_0) i14) k61 out12 0))))∧((decide (i14<(r3.length:Int)))=false→X1 out12)
def zbg (d_:SDesc) (s_:(List SItem)) (r_:(List Cl)):Prop:=∃r3:(List SBranch),zig d_ s_ r3∧∃k15,zbg.l1 d_ r3 (zbg.j1 r_) k15 ([]:(List Cl)) 0
def zek.j1 (r_:Int):Prop:=r_=0
def zek.l1 (r3:(List SBranch)) (r_:Int) (X1:Prop):Nat→Int→Prop
 | 0,_=>False
 | k_0+1,i9=>((decide (i9<(r3.length:Int)))=true→∃e17:SBranch,at? r3 i9=some e17∧((((e17.1.length:Int)==0))=true→∃e20:SBranch,at? r3 i9=some e20∧r_=e20.2)∧((((e17.1.length:Int)==0))=false→(InR .i64 (i9+1))∧zek.l1 r3 r_ X1 k_0 (i9+1)))∧((decide (i9<(r3.length:Int)))=false→X1)
def zek (d_:SDesc) (s_:(List SItem)) (r_:Int):Prop:=∃r3:(List SBranch),zig d_ s_ r3∧∃k10,zek.l1 r3 r_ (zek.j1 r_) k10 0
theorem dig10:∀d:Fin 10,(UInt8.ofNat (48+d.1)).toNat=48+d.1:=by decide
theorem dec_ge (u:Nat):∀c∈Lib.decDigits u,48≤c.toNat∧c.toNat≤57:=by
 induction u using Nat.strongRecOn with
 | ind u ih=>
  intro c hc;have hd:∀d,d<10→(UInt8.ofNat (48+d)).toNat=48+d:=fun d hd=>dig10 ⟨d,hd⟩;rw [Lib.decDigits] at hc;split at hc
  ·rename_i h
   rw [List.mem_singleton.1 hc,hd u h];omega
  ·rename_i h
   rcases List.mem_append.1 hc with hc | hc
   ·exact ih (u / 10) (by omega) c hc
   ·rw [List.mem_singleton.1 hc,hd _ (Nat.mod_lt _ (by omega))];omega
def valD (l:List UInt8):Nat:=l.foldl (fun a c=>10*a+(c.toNat-48)) 0
theorem znb (u:Nat):valD (Lib.decDigits u)=u:=by
 induction u using Nat.strongRecOn with
 | ind u ih=>
  have hd:∀d,d<10→(UInt8.ofNat (48+d)).toNat=48+d:=fun d hd=>dig10 ⟨d,hd⟩;rw [Lib.decDigits];split
  ·rename_i h
   simp only [valD,List.foldl_cons,List.foldl_nil,hd u h];omega
  ·rename_i h
   have:=ih (u / 10) (by omega);unfold valD at this ⊢;rw [List.foldl_append,this];simp only [List.foldl_cons,List.foldl_nil,hd _ (Nat.mod_lt u (show 10 > 0 by omega))];omega
theorem zqs (n:Int):∀c∈Lib.itoa n,c≠32:=by
 intro c hc he;subst he;unfold Lib.itoa at hc;split at hc
 ·rcases List.mem_cons.1 hc with h | h
  ·exact absurd h (by decide)
  ·have:=(dec_ge _ _ h).1;exact absurd this (by decide)
 ·have:=(dec_ge _ _ hc).1;exact absurd this (by decide)
theorem itoa_inj {n m:Int} (h:Lib.itoa n=Lib.itoa m):n=m:=by
 have no45:∀u (l:List UInt8),Lib.decDigits u≠45::l:=fun u l he=>by
  have:=(dec_ge u 45 (by rw [he];simp)).1;exact absurd this (by decide)
 unfold Lib.itoa at h;split at h <;> split at h
 ·have:=congrArg valD (List.cons.inj h).2;rw [znb,znb] at this;omega
 ·exact absurd h.symm (no45 _ _)
 ·exact absurd h (no45 _ _)
 ·have:=congrArg valD h;rw [znb,znb] at this;omega
theorem at_none {α:Type} {xs:List α} {i:Int} (h:i<0∨(xs.length:Int)≤i):at? xs i=none:=by
 unfold at?;split
 ·exact List.getElem?_eq_none (by omega)
 ·rfl
theorem zm6 {α:Type} {xs:List α} {i:Int} (h0:0≤i) (h1:i<(xs.length:Int)):∃x,at? xs i=some x∧x∈xs:=by
 refine ⟨xs[i.toNat]'(by omega), ?_,List.getElem_mem _⟩;unfold at?;rw [if_pos h0];exact List.getElem?_eq_getElem _
theorem uptoK {σ:Type} {P:Nat→σ→Int→Prop} (n:Nat) (I:Nat→σ→Prop)
  (hs:∀i s k,i<n→I i s→(∀s',I (i+1) s'→P k s' ((i:Int)+1))→P (k+1) s (i:Int))
  (hx:∀s,I n s→∀k,P (k+1) s (n:Int)) (s:σ) (h:I 0 s):∃k,P k s 0:=by
 have:∀m i s,i+m=n→I i s→P (m+1) s (i:Int):=by
  intro m
  induction m with
  | zero=>intro i s hi hI;have:i=n:=by omega
          subst this;exact hx s hI 0
  | succ m ih=>
   intro i s hi hI;exact hs i s (m+1) (by omega) hI fun s' h'=>by simpa using ih (i+1) s' (by omega) h'
 exact ⟨n+1,by simpa using this n 0 s (by omega) h⟩
theorem zrx {κ ν:Type} [DecidableEq κ] (k:κ) (z:ν):zd4 ([]:List (κ × ν)) k z=z:=rfl
theorem zjj {κ ν:Type} [DecidableEq κ] (p:κ × ν) (xs:List (κ × ν)) (k:κ) (z:ν):zd4 (p::xs) k z=if p.1=k then p.2 else zd4 xs k z:=by
 unfold zd4;rw [List.find?_cons]
 by_cases h:p.1=k
 ·subst h;simp
 ·have h':(p.1==k)=false:=by simpa using h
  rw [h',if_neg h]
theorem zov {κ ν:Type} [DecidableEq κ] (xs:List (κ × ν)) (k k':κ) (v z:ν):zd4 (zf4 xs k v) k' z=if k=k' then v else zd4 xs k' z:=by
 have hmap:∀xs:List (κ × ν),zd4 (xs.map (fun p=>bif p.1==k then (k,v) else p)) k' z=if k=k' then (if zha xs k=true then v else z) else zd4 xs k' z:=by
  intro xs
  induction xs with
  | nil=>simp [zrx,zha]
  | cons p xs ih=>
   rw [List.map_cons,zjj,ih,zjj]
   by_cases hp:p.1=k
   ·subst hp
    by_cases hk:p.1=k' <;> simp [hk,zha]
   ·have:(p.1==k)=false:=by simpa using hp
    rw [this]
    by_cases hk:k=k'
    ·subst hk;simp only [zha,List.any_cons,this,Bool.false_or,cond_false,if_neg hp];rfl
    ·simp [hk]
 have happ:∀xs:List (κ × ν),zha xs k=false→zd4 (xs++[(k,v)]) k' z=if k=k' then v else zd4 xs k' z:=by
  intro xs
  induction xs with
  | nil=>intro _;rw [List.nil_append,zjj,zrx]
  | cons p xs ih=>
   intro h;simp only [zha,List.any_cons,Bool.or_eq_false_iff] at h;rw [List.cons_append,zjj,ih h.2,zjj];have hp:p.1≠k:=by simpa using h.1
   by_cases hk:k=k'
   ·subst hk;simp [hp]
   ·simp [hk]
 unfold zf4;cases h:zha xs k
 ·exact happ xs h
 ·rw [cond_true,hmap,h];simp
theorem zoz (x y:Int) (a b:List Int):zh6 (x::a) (y::b)=if sgnI x y≠0 then sgnI x y else zh6 a b:=by
 unfold sgnI;rw [zh6]
 by_cases h1:x<y
 ·simp [h1]
 ·by_cases h2:y<x
  ·simp [h1,h2]
  ·simp [h1,h2]
theorem zd5 (b:List Int):zh6 [] b=0:=by cases b <;> rfl
theorem zhk (a:List Int):zh6 a []=0:=by cases a <;> rfl
theorem cmpItem_lex (x y:SItem):cmpItem x y=zh6 (zdo x) (zdo y):=by
 unfold cmpItem zdo;simp only [zoz,zli,zd5]
theorem lexI_app {a b:List Int} (h:a.length=b.length) (u v:List Int):zh6 (a++u) (b++v)=if zh6 a b≠0 then zh6 a b else zh6 u v:=by
 induction a generalizing b with
 | nil=>
  cases b with
  | nil=>simp [zd5]
  | cons y b=>simp at h
 | cons x a ih=>
  cases b with
  | nil=>simp at h
  | cons y b=>
   simp only [List.cons_append,zoz];rw [ih (by simpa using h)];split <;> simp_all
theorem lexI_self (a:List Int):zh6 a a=0:=by
 induction a with
 | nil=>rfl
 | cons x a ih=>rw [zh6,if_neg (by omega),if_neg (by omega),ih]
theorem lexI_anti (a b:List Int):zh6 b a = -zh6 a b:=by
 induction a generalizing b with
 | nil=>rw [zd5,zhk];rfl
 | cons x a ih=>
  cases b with
  | nil=>rw [zd5,zhk];rfl
  | cons y b=>
   rw [zh6,zh6]
   by_cases h1:x<y
   ·rw [if_neg (by omega),if_pos h1,if_pos h1];rfl
   ·by_cases h2:y<x
    ·rw [if_pos h2,if_neg h1,if_pos h2]
    ·rw [if_neg h2,if_neg h1,if_neg h1,if_neg h2,ih]
theorem lexI_zero {a b:List Int} (hl:a.length=b.length) (h:zh6 a b=0):a=b:=by
 induction a generalizing b with
 | nil=>cases b with
  | nil=>rfl
  | cons y b=>simp at hl
 | cons x a ih=>
  cases b with
  | nil=>simp at hl
  | cons y b=>
   rw [zh6] at h
   by_cases h1:x<y
   ·rw [if_pos h1] at h;cases h
   ·by_cases h2:y<x
    ·rw [if_neg h1,if_pos h2] at h;cases h
    ·rw [if_neg h1,if_neg h2] at h;rw [ih (by simpa using hl) h,show x=y by omega]
theorem lexI_trans {a b c:List Int} (h1:a.length=b.length) (h2:b.length=c.length) (h:zh6 a b<0) (k:zh6 b c<0):zh6 a c<0:=by
 induction a generalizing b c with
 | nil=>rw [zd5] at h;omega
 | cons x a ih=>
  cases b with
  | nil=>simp at h1
  | cons y b=>
   cases c with
   | nil=>simp at h2
   | cons z c=>
    rw [zh6] at h k ⊢
    by_cases e1:x<y
    ·by_cases e2:y<z
     ·rw [if_pos (by omega)];omega
     ·by_cases e3:z<y
      ·rw [if_neg e2,if_pos e3] at k;omega
      ·rw [if_pos (by omega)];omega
    ·by_cases e2:y<x
     ·rw [if_neg e1,if_pos e2] at h;omega
     ·rw [if_neg e1,if_neg e2] at h
      by_cases e3:y<z
      ·rw [if_pos (by omega)];omega
      ·by_cases e4:z<y
       ·rw [if_neg e3,if_pos e4] at k;omega
       ·rw [if_neg e3,if_neg e4] at k;rw [if_neg (by omega),if_neg (by omega)];exact ih (by simpa using h1) (by simpa using h2) h k
theorem zfo (x:SItem) (s:List SItem):zes (x::s)=zdo x++zes s:=by simp [zes]
theorem zd1 (l:List SItem):(zes l).length=4*l.length:=by
 induction l with
 | nil=>rfl
 | cons x l ih=>rw [zfo,List.length_append,ih];simp [zdo];omega
theorem numsS_inj {s t:List SItem} (h:zes s=zes t):s=t:=by
 induction s generalizing t with
 | nil=>
  cases t with
  | nil=>rfl
  | cons y t=>rw [zfo] at h;simp [zes,zdo] at h
 | cons x s ih=>
  cases t with
  | nil=>rw [zfo] at h;simp [zes,zdo] at h
  | cons y t=>
   rw [zfo,zfo] at h;obtain ⟨x1,x2,x3,x4⟩:=x;obtain ⟨y1,y2,y3,y4⟩:=y;simp only [zdo,List.cons_append,List.nil_append,List.cons.injEq] at h;obtain ⟨rfl,rfl,rfl,rfl,h⟩:=h;rw [ih h]
theorem zb8 {a b:List SItem}:zdu a b=0↔a=b:=by
 constructor
 ·intro h;unfold zdu numsL at h;rw [zh6] at h
  by_cases h1:(a.length:Int)<(b.length:Int)
  ·rw [if_pos h1] at h;cases h
  ·by_cases h2:(b.length:Int)<(a.length:Int)
   ·rw [if_neg h1,if_pos h2] at h;cases h
   ·rw [if_neg h1,if_neg h2] at h;exact numsS_inj (lexI_zero (by rw [zd1,zd1];omega) h)
 ·rintro rfl;exact lexI_self _
theorem zfj (a b:List SItem):zdu b a = -zdu a b:=lexI_anti _ _
theorem ze8 {a b c:List SItem} (h:zdu a b<0) (k:zdu b c<0):zdu a c<0:=by
 unfold zdu numsL at *;rw [zh6] at h k ⊢
 by_cases e1:(a.length:Int)<(b.length:Int)
 ·by_cases e2:(b.length:Int)<(c.length:Int)
  ·rw [if_pos (by omega)];omega
  ·by_cases e3:(c.length:Int)<(b.length:Int)
   ·rw [if_neg e2,if_pos e3] at k;omega
   ·rw [if_pos (by omega)];omega
 ·by_cases e2:(b.length:Int)<(a.length:Int)
  ·rw [if_neg e1,if_pos e2] at h;omega
  ·rw [if_neg e1,if_neg e2] at h
   by_cases e3:(b.length:Int)<(c.length:Int)
   ·rw [if_pos (by omega)];omega
   ·by_cases e4:(c.length:Int)<(b.length:Int)
    ·rw [if_neg e3,if_pos e4] at k;omega
    ·rw [if_neg e3,if_neg e4] at k;rw [if_neg (by omega),if_neg (by omega)];exact lexI_trans (by rw [zd1,zd1];omega) (by rw [zd1,zd1];omega) h k
theorem cut32 {a b:List UInt8} (ha:∀c∈a,c≠32) (hb:∀c∈b,c≠32) {u v:List UInt8} (h:a++32::u=b++32::v):a=b∧u=v:=by
 induction a generalizing b with
 | nil=>
  cases b with
  | nil=>exact ⟨rfl,(List.cons.inj h).2⟩
  | cons y b=>exact absurd (List.cons.inj h).1.symm (hb y (by simp))
 | cons x a ih=>
  cases b with
  | nil=>exact absurd (List.cons.inj h).1 (ha x (by simp))
  | cons y b=>
   obtain ⟨h1,h2⟩:=List.cons.inj h;obtain ⟨h3,h4⟩:=ih (fun c hc=>ha c (by simp [hc])) (fun c hc=>hb c (by simp [hc])) h2;exact ⟨by rw [h1,h3],h4⟩
theorem zjn (z:Int) (l:List Int):zlg (z::l)=Lib.itoa z++32::zlg l:=by simp [zlg]
theorem keyN_inj {l m:List Int} (h:zlg l=zlg m):l=m:=by
 induction l generalizing m with
 | nil=>
  cases m with
  | nil=>rfl
  | cons y m=>rw [zjn] at h;simp [zlg] at h
 | cons z l ih=>
  cases m with
  | nil=>rw [zjn] at h;simp [zlg] at h
  | cons y m=>
   rw [zjn,zjn] at h;obtain ⟨h1,h2⟩:=cut32 (zqs z) (zqs y) h;rw [itoa_inj h1,ih h2]
theorem zgf {s t:List SItem}:keyS s=keyS t↔s=t:=⟨fun h=>numsS_inj (keyN_inj h),fun h=>by rw [h]⟩
def badI (x:SItem):Bool:=x.1==5&&decide (x.2.2.1≤0)
def zi3 (x:SItem):SItem:=if x.1=5 then (x.1,x.2.1,x.2.2.1-1,x.2.2.2) else x
def zds (s:List SItem):List SItem × Bool:=if s.any badI=true then ([],false) else (s.map zi3,true)
theorem zow {α β:Type} {f g:α→Option β} (h:∀a b,f a=some b→g a=some b):∀(l:List α) (r:List β),l.mapM f=some r→l.mapM g=some r
 | [],r,hr=>by simpa using hr
 | a::l,r,hr=>by
  rw [List.mapM_cons] at hr ⊢;cases ha:f a with
  | none=>rw [ha] at hr;simp at hr
  | some b=>
   rw [ha] at hr;cases hl:l.mapM f with
   | none=>rw [hl] at hr;simp at hr
   | some bs=>
    rw [hl] at hr;rw [h a b ha,zow h l bs hl];exact hr
theorem lv_mono1 (d:List SNode):∀(h:Nat) (s:List SItem) (l:List (List SItem)),lv d h s=some l→lv d (h+1) s=some l
 | 0,_,_,hl=>by simp [lv] at hl
 | h+1,s,l,hl=>by
  unfold lv at hl ⊢
  by_cases hr:rdy d s=true
  ·rw [if_pos hr] at hl ⊢;exact hl
  ·rw [if_neg hr] at hl ⊢;obtain ⟨ls,h1,h2⟩:=Option.map_eq_some_iff.1 hl;rw [zow (lv_mono1 d h) _ _ h1,← h2];rfl
theorem zjk {d:List SNode} {h h':Nat} (hh:h≤h') {s:List SItem} {l:List (List SItem)} (hl:lv d h s=some l):lv d h' s=some l:=by
 obtain ⟨k,rfl⟩:∃k,h'=h+k:=⟨h' - h,by omega⟩;clear hh
 induction k with
 | zero=>exact hl
 | succ k ih=>exact lv_mono1 d (h+k) s l ih
theorem nzL_aux (d:List SNode):∀(l:List Bool),(d.foldl (fun l n=>l++[nzN l n]) l).length=l.length+d.length∧l <+: d.foldl (fun l n=>l++[nzN l n]) l:=by
 induction d with
 | nil=>intro l;exact ⟨by simp,List.prefix_refl _⟩
 | cons n d ih=>
  intro l;obtain ⟨h1,h2⟩:=ih (l++[nzN l n]);exact ⟨by rw [List.foldl_cons,h1];simp;omega,(List.prefix_append _ _).trans h2⟩
theorem nzL_at {d:List SNode} {i:Nat} {n:SNode} (h:d[i]?=some n):(nzL d)[i]?=some (nzN ((nzL d).take i) n):=by
 have hi:=(List.getElem?_eq_some_iff.1 h).1;have hd:d=d.take i++n::d.drop (i+1):=by
  have hn:d[i]=n:=by rw [List.getElem?_eq_getElem hi] at h;exact Option.some.inj h
  rw [← hn,List.getElem_cons_drop,List.take_append_drop]
 have e:nzL d=(d.drop (i+1)).foldl (fun l n=>l++[nzN l n]) (nzL (d.take i)++[nzN (nzL (d.take i)) n]):=by
  unfold nzL
  conv=>lhs;rw [hd]
  rw [List.foldl_append,List.foldl_cons]
 have hl:(nzL (d.take i)).length=i:=by
  have:=(nzL_aux (d.take i) []).1;unfold nzL;rw [this];simp;omega
 have hp:=(nzL_aux (d.drop (i+1)) (nzL (d.take i)++[nzN (nzL (d.take i)) n])).2;rw [← e] at hp;obtain ⟨r,hr⟩:=hp;have ht:(nzL d).take i=nzL (d.take i):=by rw [← hr,List.append_assoc,List.take_append_of_le_length (by omega),List.take_of_length_le (by omega)]
 rw [ht,← hr,List.append_assoc,List.getElem?_append_right (by omega),hl];simp
theorem zhn {α:Type} {l:List α} {i:Nat} {k:Int} (h0:0≤k) (h1:k<(i:Int)):at? (l.take i) k=at? l k:=by
 unfold at?;rw [if_pos h0,if_pos h0,List.getElem?_take,if_pos (by omega)]
theorem zm5 {α:Type} {l:List α} {i:Int} {x:α} (h:at? l i=some x):∃k:Nat,i=(k:Int)∧l[k]?=some x:=by
 unfold at? at h;split at h
 ·exact ⟨i.toNat,by omega,h⟩
 ·cases h
theorem nz_at {d:List SNode} (hd:ROk d) {i:Int} {n:SNode} (h:at? d i=some n):nz d i =
  (if n.1=1 then true else if n.1=4 then nz d n.2.1&&nz d n.2.2.1 else if n.1=5 then nz d n.2.1||nz d n.2.2.1 else if n.1=6 then true else if n.1=7 then decide (n.2.2.2.1=0) else false):=by
 obtain ⟨k,rfl,hk⟩:=zm5 h;have e:=nzL_at hk;have e2:nz d (k:Int)=nzN ((nzL d).take k) n:=by unfold nz;rw [zbm,e];rfl
 rw [e2];unfold nzN
 by_cases h1:n.1=1
 ·simp [h1]
 ·by_cases h4:n.1=4
  ·obtain ⟨⟨a,b⟩,c,e⟩:=hd.two _ n h (.inl h4);rw [if_neg h1,if_pos h4,if_neg h1,if_pos h4,zhn a b,zhn c e];rfl
  ·by_cases h5:n.1=5
   ·obtain ⟨⟨a,b⟩,c,e⟩:=hd.two _ n h (.inr h5);rw [if_neg h1,if_neg h4,if_pos h5,if_neg h1,if_neg h4,if_pos h5,zhn a b,zhn c e];rfl
   ·by_cases h6:n.1=6
    ·simp [h6]
    ·by_cases h7:n.1=7
     ·obtain ⟨a,b⟩:=hd.one _ n h (.inr (.inl h7));have:=hd.nn _ n h (.inr h7);unfold nz at this;rw [if_neg h1,if_neg h4,if_neg h5,if_neg h6,if_pos h7,if_neg h1,if_neg h4,if_neg h5,if_neg h6,if_pos h7,zhn a b,this,Bool.or_false]
     ·simp [h1,h4,h5,h6,h7]
theorem zf1 (a:List SItem):zdu a a=0:=zb8.2 rfl
theorem ziq {a:List SItem} (h:zdu a a<0):False:=by rw [zf1] at h;omega
theorem Can.nil:Can (fun _=>0) []:=⟨List.Pairwise.nil,by simp⟩
theorem sat_ne {a b:Nat} (h:sat a=sat b):(a≠0↔b≠0):=by unfold sat at h;omega
theorem Can.congr {f g:List SItem→Nat} {B:List SBranch} (h:Can f B) (e:∀t,sat (f t)=sat (g t)):Can g B:=
 ⟨h.srt,fun t m=>by rw [h.mem,sat_ne (e t),e t]⟩
theorem zq9:∀{B C:List SBranch},B.Pairwise (fun a b=>zdu a.1 b.1<0)→C.Pairwise (fun a b=>zdu a.1 b.1<0)→(∀x,x∈B↔x∈C)→B=C
 | [],[],_,_,_=>rfl
 | [],c::C,_,_,h=>by have:=(h c).2 (by simp);cases this
 | b::B,[],_,_,h=>by have:=(h b).1 (by simp);cases this
 | b::B,c::C,hB,hC,h=>by
  rw [List.pairwise_cons] at hB hC;have e:b=c:=by
   rcases List.mem_cons.1 ((h b).1 (by simp)) with e | hb
   ·exact e
   ·rcases List.mem_cons.1 ((h c).2 (by simp)) with e | hc
    ·exact e.symm
    ·exact (ziq (ze8 (hB.1 c hc) (hC.1 b hb))).elim
  subst e
  congr 1
  refine zq9 hB.2 hC.2 fun x=>⟨fun hx=>?_,fun hx=>?_⟩
  ·rcases List.mem_cons.1 ((h x).1 (by simp [hx])) with e | hh
   ·subst e;exact (ziq (hB.1 _ hx)).elim
   ·exact hh
  ·rcases List.mem_cons.1 ((h x).2 (by simp [hx])) with e | hh
   ·subst e;exact (ziq (hC.1 _ hx)).elim
   ·exact hh
theorem Can.uniq {f:List SItem→Nat} {B C:List SBranch} (hB:Can f B) (hC:Can f C):B=C:=zq9 hB.srt hC.srt fun ⟨t,m⟩=>by rw [hB.mem,hC.mem]
theorem Can.keys {f:List SItem→Nat} {B:List SBranch} (h:Can f B) (t:List SItem):t∈B.map (·.1)↔f t≠0:=by
 rw [List.mem_map];exact ⟨fun ⟨⟨t',m⟩,h1,h2⟩=>by subst h2;exact ((h.mem _ _).1 h1).1,fun h1=>⟨(t,sat (f t)),(h.mem _ _).2 ⟨h1,rfl⟩,rfl⟩⟩
theorem Can.nodup {f:List SItem→Nat} {B:List SBranch} (h:Can f B):(B.map (·.1)).Nodup:=by
 unfold List.Nodup;rw [List.pairwise_map];exact h.srt.imp fun {a b} hab e=>by rw [e] at hab;exact ziq hab
theorem Can.many {f:List SItem→Nat} {B:List SBranch} (h:Can f B) {b:SBranch} (hb:b∈B):b.2=sat (f b.1)∧f b.1≠0∧1≤b.2∧b.2≤2:=by
 obtain ⟨h1,h2⟩:=(h.mem b.1 b.2).1 hb;exact ⟨h2,h1,by unfold sat at h2;omega,by unfold sat at h2;omega⟩
def zmy (s:List SItem) (many:Int):List SBranch→List SBranch
 | []=>[(s,many)]
 | b::l=>if zdu s b.1=0 then (s,min 2 (b.2+many))::l else if zdu s b.1<0 then (s,many)::b::l else b::zmy s many l
theorem addB_mem {s:List SItem} {many:Int}:∀{l:List SBranch} {x:SBranch},x∈zmy s many l→x.1=s∨x∈l
 | [],x,h=>by simp only [zmy,List.mem_singleton] at h;subst h;exact .inl rfl
 | b::l,x,h=>by
  unfold zmy at h;split at h
  ·rcases List.mem_cons.1 h with rfl | h
   ·exact .inl rfl
   ·exact .inr (by simp [h])
  ·split at h
   ·rcases List.mem_cons.1 h with rfl | h
    ·exact .inl rfl
    ·exact .inr h
   ·rcases List.mem_cons.1 h with rfl | h
    ·exact .inr (by simp)
    ·exact (addB_mem h).imp id fun h=>by simp [h]
theorem addB_len (s:List SItem) (many:Int) (l:List SBranch):(zmy s many l).length≤l.length+1:=by
 induction l with
 | nil=>simp [zmy]
 | cons b l ih=>unfold zmy;split;· simp
                split <;> simp;omega
theorem addB_srt {s:List SItem} {many:Int}:∀{l:List SBranch},l.Pairwise (fun a b=>zdu a.1 b.1<0)→(zmy s many l).Pairwise (fun a b=>zdu a.1 b.1<0)
 | [],_=>by simp [zmy]
 | b::l,h=>by
  rw [List.pairwise_cons] at h;unfold zmy;split
  ·rename_i h0
   have e:=zb8.1 h0;subst e;exact List.pairwise_cons.2 ⟨h.1,h.2⟩
  ·split
   ·rename_i h1
    refine List.pairwise_cons.2 ⟨fun c hc=>?_,List.pairwise_cons.2 h⟩;rcases List.mem_cons.1 hc with rfl | hc
    ·exact h1
    ·exact ze8 h1 (h.1 c hc)
   ·rename_i h0 h1
    refine List.pairwise_cons.2 ⟨fun c hc=>?_,addB_srt h.2⟩;rcases addB_mem hc with e | hc
    ·rw [e];have:=zfj s b.1;omega
    ·exact h.1 c hc
theorem addB_no {s:List SItem} {many:Int}:∀{l:List SBranch},(∀b∈l,b.1≠s)→l.Pairwise (fun a b=>zdu a.1 b.1<0)→∀x,x∈zmy s many l↔x=(s,many)∨x∈l
 | [],_,_,x=>by simp [zmy]
 | b::l,hn,h,x=>by
  rw [List.pairwise_cons] at h;unfold zmy;rw [if_neg fun h0=>hn b (by simp) (zb8.1 h0).symm];split
  ·simp
  ·rw [List.mem_cons,addB_no (fun c hc=>hn c (by simp [hc])) h.2,List.mem_cons];constructor
   ·rintro (h | h | h) <;> simp [h]
   ·rintro (h | h | h) <;> simp [h]
theorem addB_yes {s:List SItem} {many m:Int}:∀{l:List SBranch},(s,m)∈l→l.Pairwise (fun a b=>zdu a.1 b.1<0)→∀x,x∈zmy s many l↔x=(s,min 2 (m+many))∨(x∈l∧x.1≠s)
 | b::l,hm,h,x=>by
  rw [List.pairwise_cons] at h;unfold zmy
  by_cases hb:zdu s b.1=0
  ·rw [if_pos hb];have e:=zb8.1 hb;have hbm:b=(s,m):=by
    rcases List.mem_cons.1 hm with e' | hm
    ·exact e'.symm
    ·have:=h.1 _ hm;rw [← e] at this;exact (ziq this).elim
   subst hbm;rw [List.mem_cons,List.mem_cons];constructor
   ·rintro (h' | h')
    ·exact .inl h'
    ·refine .inr ⟨.inr h',fun e'=>?_⟩;have:=h.1 _ h';rw [e'] at this;exact ziq this
   ·rintro (h' | ⟨h' | h',h''⟩)
    ·exact .inl h'
    ·subst h';exact absurd rfl h''
    ·exact .inr h'
  ·rw [if_neg hb];have hml:(s,m)∈l:=(List.mem_cons.1 hm).resolve_left fun e=>hb (by rw [← e];exact zf1 _);have hlt:=h.1 _ hml;rw [if_neg fun h'=>by have:=zfj s b.1;have h2:zdu b.1 s<0:=hlt;omega];rw [List.mem_cons,addB_yes hml h.2,List.mem_cons];have hne:b.1≠s:=fun e=>hb (by rw [e];exact zf1 _);constructor
   ·rintro (h' | h' | ⟨h',h''⟩)
    ·subst h';exact .inr ⟨.inl rfl,hne⟩
    ·exact .inl h'
    ·exact .inr ⟨.inr h',h''⟩
   ·rintro (h' | ⟨h' | h',h''⟩)
    ·exact .inr (.inl h')
    ·exact .inl h'
    ·exact .inr (.inr ⟨h',h''⟩)
theorem Can.add {f:List SItem→Nat} {B:List SBranch} (h:Can f B) (s:List SItem) {n:Nat} (h1:n≠0):Can (fun t=>f t+if t=s then n else 0) (zmy s (sat n) B):=by
 refine ⟨addB_srt h.srt,fun t m=>?_⟩
 by_cases hs:f s=0
 ·rw [addB_no (fun b hb e=>by have:=(h.many hb).2.1;rw [e] at this;exact this hs) h.srt,h.mem,Prod.mk.injEq]
  by_cases ht:t=s
  ·subst ht;simp [hs,h1]
  ·simp [ht]
 ·rw [addB_yes ((h.mem s _).2 ⟨hs,rfl⟩) h.srt,h.mem,Prod.mk.injEq]
  by_cases ht:t=s
  ·subst ht;simp only [true_and,if_true,ne_eq,not_true_eq_false,and_false,or_false];have:min 2 (sat (f t)+sat n)=sat (f t+n):=by unfold sat;omega
   rw [this];exact ⟨fun e=>⟨by omega,e⟩,fun e=>e.2⟩
  ·simp [ht]
theorem zkt {α:Type} [DecidableEq α]:∀{l U:List α},l.Nodup→(∀t∈l,t∈U)→l.length≤U.length
 | [],_,_,_=>Nat.zero_le _
 | x::l,U,hn,h=>by
  rw [List.nodup_cons] at hn;have hx:=h x (by simp);have:=zkt (l:=l) (U:=U.erase x) hn.2 fun t ht=>(List.mem_erase_of_ne (fun e=>hn.1 (by rw [← e];exact ht))).2 (h t (by simp [ht]));rw [List.length_erase_of_mem hx] at this;have:=List.length_pos_of_mem hx;simp only [List.length_cons];omega
theorem zsj {f:List SItem→Nat} {B:List SBranch} (h:Can f B) {U:List (List SItem)} (hU:∀t,f t≠0→t∈U):B.length≤U.length:=by
 have:(B.map (·.1)).length≤U.length:=zkt h.nodup fun t ht=>hU t ((h.keys t).1 ht);simpa using this
theorem zqw {x y:Int}:zcl x y (sgnI x y):=by
 refine ⟨false,by simp [zeo],false,by simp [zeo],(fun h=>by cases h),fun _=>⟨(fun h=>by cases h),fun _=>⟨fun h=>?_,fun h=>⟨fun h2=>?_,fun h2=>?_⟩⟩⟩⟩
 ·unfold sgnI;rw [if_pos (dt h)]
 ·unfold sgnI;rw [if_neg (df h),if_pos (dt h2)]
 ·unfold sgnI;rw [if_neg (df h),if_neg (df h2)]
theorem or_in {l:List Int} (hl:l.length<1000000):zcp l (zli l):=by
 refine zh8 (P:=fun k (_:Unit) v=>zcp.l1 l (zli l) _ k v) l.length (fun i _=>zli l=zli (l.drop i)) ?_ ?_ () (by simp)
 ·intro i _ hi h;have hat:at? l (i:Int)=some l[i]:=by rw [zbm];simp [hi]
  rw [List.drop_eq_getElem_cons hi] at h
  by_cases hz:l[i]=0
  ·rw [zli,if_neg (by simpa using hz)] at h;exact .inr ⟨(),h,fun k hk=>⟨fun _=>⟨_,hat,fun hb=>by simp [hz] at hb,fun _=>⟨zi (by omega) (by omega),hk⟩⟩,fun h=>absurd (by omega) (df h)⟩⟩
  ·rw [zli,if_pos hz] at h;exact .inl fun k=>⟨fun _=>⟨_,hat,fun _=>h,fun hb=>by simp at hb;exact absurd hb hz⟩,fun h=>absurd (by omega) (df h)⟩
 ·intro _ h k;refine ⟨fun h=>absurd (dt h) (by omega),fun _=>?_⟩;rw [List.drop_length] at h;exact h
theorem cmp1_in {x y:SItem}:zdt x y (zh6 (zdo x) (zdo y)):=by
 rw [← cmpItem_lex];exact ⟨_,zqw,_,zqw,_,zqw,_,zqw,_,or_in (by simp),rfl⟩
theorem cmpFunc_in {a b:List SItem} (hl:a.length=b.length) (hs:a.length≤1000):zf a b (fun q_=>zdt q_.1 q_.2.1 q_.2.2) (zh6 (zes a) (zes b)):=by
 refine zh8 (P:=fun k (_:Unit) v=>zf.l1 a b (fun q_=>zdt q_.1 q_.2.1 q_.2.2) (zh6 (zes a) (zes b)) _ k v) a.length (fun i _=>zh6 (zes a) (zes b)=zh6 (zes (a.drop i)) (zes (b.drop i))) ?_ ?_ () (by simp)
 ·intro i _ hi h;have ha:at? a (i:Int)=some a[i]:=by rw [zbm];simp [hi]
  have hb:at? b (i:Int)=some (b[i]'(by omega)):=by rw [zbm];simp [show i<b.length by omega]
  rw [List.drop_eq_getElem_cons hi,List.drop_eq_getElem_cons (show i<b.length by omega),zfo,zfo,lexI_app (by simp [zdo])] at h
  by_cases hz:zh6 (zdo a[i]) (zdo (b[i]'(by omega)))=0
  ·rw [if_neg (by simpa using hz)] at h;refine .inr ⟨(),h,fun k hk=>⟨fun _=>⟨_,ha,fun h2=>absurd (dt h2) (by omega),fun _=>⟨_,hb,zh6 (zdo a[i]) (zdo (b[i]'(by omega))),cmp1_in,fun h3=>?_,fun _=>⟨zi (by omega) (by omega),hk⟩⟩⟩,fun h=>absurd (by omega) (df h)⟩⟩;rw [hz] at h3;simp at h3
  ·rw [if_pos hz] at h;refine .inl fun k=>⟨fun _=>⟨_,ha,fun h2=>absurd (dt h2) (by omega),fun _=>⟨_,hb,zh6 (zdo a[i]) (zdo (b[i]'(by omega))),cmp1_in,fun _=>h,fun h3=>?_⟩⟩,fun h=>absurd (by omega) (df h)⟩;simp at h3;exact absurd h3 hz
 ·intro _ h k;refine ⟨fun h=>absurd (dt h) (by omega),fun _=>⟨fun h2=>absurd (dt h2) (by omega),fun _=>?_⟩⟩;rw [h,List.drop_length];exact zd5 _
theorem zeh {a b:List SItem} (hs:a.length≤1000):zd2 a b (zdu a b):=by
 have e:zdu a b=if sgnI (a.length:Int) (b.length:Int)≠0 then sgnI (a.length:Int) (b.length:Int) else zh6 (zes a) (zes b):=by unfold zdu numsL;rw [zoz]
 refine ⟨_,zqw,fun h=>?_,fun h=>?_⟩
 ·rw [e,if_pos (by simpa using h)]
 ·have h0:sgnI (a.length:Int) (b.length:Int)=0:=by simpa using h
  have hl:a.length=b.length:=by
   unfold sgnI at h0
   by_cases h1:(a.length:Int)<(b.length:Int)
   ·rw [if_pos h1] at h0;cases h0
   ·by_cases h2:(b.length:Int)<(a.length:Int)
    ·rw [if_neg h1,if_pos h2] at h0;cases h0
    ·omega
  refine ⟨_,cmpFunc_in hl hs, ?_⟩;rw [e,if_neg (by simpa using h0)]
theorem numsS_snoc (s:List SItem) (x:SItem):zes (s++[x])=zes s++zdo x:=by simp [zes]
theorem zix {s:List SItem} (hs:s.length≤1000):zc9 s (numsL s):=by
 refine zh8 (P:=fun k (t:List Int) v=>zc9.l1 s _ k t v) s.length (fun i t=>t=(s.length:Int)::zes (s.take i)) ?_ ?_ _ (by simp [zes])
 ·rintro i t hi rfl;have hat:at? s (i:Int)=some s[i]:=by rw [zbm];simp [hi]
  have hl:=zd1 (s.take i);simp only [List.length_take] at hl;refine .inr ⟨_,rfl,fun k h=>⟨fun _=>⟨_,hat,_,hat,_,hat,_,hat,by simp only [List.length_cons,List.length_nil];omega,zi (by omega) (by omega), ?_⟩,fun h=>absurd (by omega) (df h)⟩⟩;rw [List.take_succ_eq_append_getElem hi,numsS_snoc] at h;exact h
 ·rintro t rfl k;refine ⟨fun h=>absurd (dt h) (by omega),fun _=>?_⟩;rw [List.take_length];rfl
theorem zm3 {a b:List SItem} (ha:a.length≤1000) (hb:b.length≤1000):zcw a b (zdu a b):=by
 refine ⟨_,zix ha,_,zix hb, ?_⟩;have la:(numsL a).length≤4001:=by unfold numsL;rw [List.length_cons,zd1];omega
 show ∃k,zcw.l1 (numsL a) (numsL b) (zdu a b) (zcw.j1 (zdu a b)) k 0;unfold zdu;generalize numsL a=X at *;generalize numsL b=Y at *;refine zh8 (P:=fun k (_:Unit) v=>zcw.l1 X Y (zh6 X Y) _ k v) (min X.length Y.length) (fun i _=>zh6 X Y=zh6 (X.drop i) (Y.drop i)) ?_ ?_ () (by simp)
 ·intro i _ hi h;have hx:i<X.length:=by omega
  have hy:i<Y.length:=by omega
  have hax:at? X (i:Int)=some X[i]:=by rw [zbm];simp [hx]
  have hay:at? Y (i:Int)=some Y[i]:=by rw [zbm];simp [hy]
  have hb:(true:Bool)=((decide ((i:Int)<(X.length:Int)))&&(decide ((i:Int)<(Y.length:Int)))):=by simp;omega
  rw [List.drop_eq_getElem_cons hx,List.drop_eq_getElem_cons hy,zh6] at h
  by_cases h1:X[i] < Y[i]
  ·rw [if_pos h1] at h;exact .inl fun k=>⟨true,hb,fun _=>⟨_,hax,_,hay,fun _=>h,fun h2=>absurd h1 (df h2)⟩,(fun h=>by cases h)⟩
  ·by_cases h2:Y[i] < X[i]
   ·rw [if_neg h1,if_pos h2] at h;exact .inl fun k=>⟨true,hb,fun _=>⟨_,hax,_,hay,fun h3=>absurd (dt h3) h1,fun _=>⟨_,hax,_,hay,fun _=>h,fun h3=>absurd h2 (df h3)⟩⟩,(fun h=>by cases h)⟩
   ·rw [if_neg h1,if_neg h2] at h;exact .inr ⟨(),h,fun k hk=>⟨true,hb,fun _=>⟨_,hax,_,hay,fun h3=>absurd (dt h3) h1,fun _=>⟨_,hax,_,hay,fun h3=>absurd (dt h3) h2,fun _=>⟨zi (by omega) (by omega),hk⟩⟩⟩,(fun h=>by cases h)⟩⟩
 ·intro _ h k;refine ⟨false,by simp;omega,(fun h=>by cases h),fun _=>?_⟩;show zh6 X Y=0;rw [h];rcases Nat.le_total X.length Y.length with hle | hle
  ·rw [Nat.min_eq_left hle,List.drop_length];exact zd5 _
  ·rw [Nat.min_eq_right hle,List.drop_length];exact zhk _
def ItR (x:SItem):Prop:=InR .i64 x.1∧InR .i64 x.2.1∧InR .i64 x.2.2.1∧InR .i64 x.2.2.2
theorem clone_in {s:List SItem} (hs:s.length≤1000):zb1 s s:=fun b hb=>⟨fun h=>hb h,fun _=>⟨by simp;omega,by simp⟩⟩
theorem znp {s:List SItem} {i:Nat} (hi:i<s.length):(s.take (i+1)).any badI=((s.take i).any badI||badI s[i]):=by
 rw [List.take_succ_eq_append_getElem hi,List.any_append];simp
theorem any_of {s:List SItem} {i:Nat} (hi:i<s.length) (h:badI s[i]=true):s.any badI=true:=List.any_eq_true.2 ⟨_,List.getElem_mem hi,h⟩
theorem zku {s:List SItem} (hs:s.length≤1000):zj7 s (keyS s):=⟨hs,rfl⟩
theorem at0 {α:Type} (x:α) (l:List α):at? (x::l) 0=some x:=rfl
theorem zqv {a b:List SItem} (ha:a.length≤100000) (hb:b.length≤100000):zh [a,b] (a++b):=by
 refine ⟨3,⟨fun _=>⟨a,rfl,zi (by omega) (by omega),fun h=>absurd (dt h) (by omega),fun _=>⟨zi (by omega) (by omega), ?_⟩⟩,fun h=>absurd h (by simp)⟩⟩;refine ⟨fun _=>⟨b,rfl,zi (by omega) (by omega),fun h=>absurd (dt h) (by omega),fun _=>⟨zi (by omega) (by omega), ?_⟩⟩,fun h=>absurd h (by simp)⟩;refine ⟨fun h=>absurd h (by simp),fun _=>?_⟩;refine ⟨[],⟨by omega,by omega,rfl⟩,3, ?_⟩;refine ⟨fun _=>⟨a,rfl,by simp;omega,zi (by omega) (by omega), ?_⟩,fun h=>absurd h (by simp)⟩;refine ⟨fun _=>⟨b,rfl,by simp;omega,zi (by omega) (by omega), ?_⟩,fun h=>absurd h (by simp)⟩;refine ⟨fun h=>absurd h (by simp),fun _=>?_⟩;show a++b=[]++a++b;simp
theorem with_in {rest list:List SItem} (ha:list.length≤100000) (hb:rest.length≤100000):zco rest list (list++rest):=⟨_,zqv ha hb,rfl⟩
theorem zsn {rest list:List SItem} (ha:list.length≤100000) (hb:rest.length≤100000):zcc list rest (list++rest):=⟨by simp;omega,by simp;omega,by simp⟩
theorem zdp {d:List SNode} {x:SItem} {s:List SItem} (h:zd6 d (x::s)=true):ze0 d x=true∧zd6 d s=true:=by simpa [zd6] using h
theorem zfh {d:List SNode} {x:SItem} (h:ze0 d x=true) (h5:x.1≠5):∃n,at? d x.2.1=some n∧(x.1=1∨(x.1=2∧n.1=7)∨(x.1=3∧n.1=3)∨(x.1=4∧n.1=9)):=by
 unfold ze0 at h;rw [if_neg h5] at h;cases hn:at? d x.2.1 with
 | none=>rw [hn] at h;cases h
 | some n=>
  rw [hn] at h;refine ⟨n,rfl, ?_⟩;simp only at h
  by_cases h1:x.1=1
  ·exact .inl h1
  ·rw [if_neg h1] at h
   by_cases h2:x.1=2
   ·rw [if_pos h2] at h;simp at h;exact .inr (.inl ⟨h2,h.1.1.1⟩)
   ·rw [if_neg h2] at h
    by_cases h3:x.1=3
    ·rw [if_pos h3] at h;simp at h;exact .inr (.inr (.inl ⟨h3,h.1.1.1⟩))
    ·rw [if_neg h3] at h
     by_cases h4:x.1=4
     ·rw [if_pos h4] at h;simp at h;exact .inr (.inr (.inr ⟨h4,h.1.1.1⟩))
     ·rw [if_neg h4] at h;cases h
theorem kinds9 {k:Int} (h:1≤k∧k≤9):k=1∨k=2∨k=3∨k=4∨k=5∨k=6∨k=7∨k=8∨k=9:=by omega
theorem zp0 {d:List SNode} (hd:ROk d) {s:List SItem} (hf:zd6 d s=true):zkw d s (rdy d s):=by
 cases s with
 | nil=>exact ⟨fun _=>rfl,fun h=>absurd h (by simp)⟩
 | cons x s=>
  refine ⟨fun h=>absurd h (by simp;omega),fun _=>⟨x,at0 x s,fun h1=>?_,fun h1=>⟨fun h3=>⟨fun _=>by simp only [rdy,h3,Bool.true_or],fun h=>absurd h3 (by rw [h];simp)⟩,fun h3=>⟨fun h4=>by simp only [rdy,h4,Bool.true_or,Bool.or_true],fun h4=>by simp only [rdy,h1,h3,h4,Bool.false_and,Bool.or_false]⟩⟩⟩⟩;have e1:x.1=1:=by simpa using h1
  obtain ⟨n,hn,_⟩:=zfh (zdp hf).1 (by omega);have hk:=hd.kind _ n hn;refine ⟨n,hn,(n.1==2||n.1==8||n.1==9),fun _=>?_, ?_⟩
  ·rcases kinds9 hk with e | e | e | e | e | e | e | e | e <;> rw [e] <;> rfl
  ·simp only [rdy,hn,e1];have:decide (n.1<10)=true:=by simp;omega
   rw [this];simp
theorem zki {d:List SNode} {s:List SItem} (hf:zd6 d s=true) (hd0:∃n,at? d 0=some n):zod d s (rdy d s):=by
 cases s with
 | nil=>exact ⟨(0,0,0,0),fun h=>absurd h (by simp),(0,0,0,0),fun h=>absurd h (by simp),true,by simp,fun _=>rfl,fun h=>by cases h⟩
 | cons x s=>
  refine ⟨x,fun _=>at0 x s,x,fun _=>at0 x s,_,rfl,fun h=>?_,fun h=>?_⟩
  ·simp only [List.length_cons,Bool.or_eq_true,beq_iff_eq] at h;have:x.1=3∨x.1=4:=by omega
   rcases this with e | e <;> simp [rdy,e]
  ·simp only [List.length_cons,Bool.or_eq_false_iff] at h;have hnode:∃n,at? d x.2.1=some n:=by
    by_cases h5:x.1=5
    ·have:=(zdp hf).1;unfold ze0 at this;rw [if_pos h5] at this;simp at this;rw [this.1.1];exact hd0
    ·obtain ⟨n,hn,_⟩:=zfh (zdp hf).1 h5;exact ⟨n,hn⟩
   obtain ⟨n,hn⟩:=hnode;refine ⟨x,at0 x s,n,hn,x,at0 x s,_,rfl, ?_⟩;simp only [rdy,hn,h.1.2,h.2,Bool.false_or]
theorem opn_len {d:List SNode} (s:List SItem):(opn d s).length≤2:=by
 cases s with
 | nil=>simp [opn]
 | cons x s=>
  simp only [opn]
  by_cases h5:x.1=5
  ·rw [if_pos h5];split <;> simp
  ·rw [if_neg h5];cases at? d x.2.1 with
   | none=>simp
   | some n=>
    simp only
    by_cases h2:x.1=2
    ·rw [if_pos h2];split <;> split <;> simp
    ·rw [if_neg h2]
     by_cases h1:n.1=1
     ·simp [h1]
     ·by_cases h3:n.1=3
      ·simp [h3]
      ·by_cases h4:n.1=4
       ·simp [h4]
       ·by_cases h5:n.1=5
        ·simp [h5]
        ·by_cases h6:n.1=6
         ·simp [h6]
         ·simp [h1,h3,h4,h5,h6]
theorem zsa {d:List SNode} (hd:ROk d) {s:List SItem} (hf:zd6 d s=true) (hr:rdy d s=false) (hl:s.length≤10000) (hd0:∃n,at? d 0=some n):zc2 d s (opn d s):=by
 cases s with
 | nil=>simp [rdy] at hr
 | cons x s=>
  simp only [List.length_cons] at hl;have hdrop:(x::s).drop (1:Int).toNat=s:=rfl;have w0:zco s [] s:=with_in (by simp) (by omega);have wl:∀l:List SItem,l.length≤2→zco s l (l++s):=fun l h=>with_in (by omega) (by omega);have hx:=(zdp hf).1
  by_cases h5:x.1=5
  ·obtain ⟨n0,hn0⟩:=hd0;have hx':=hx;unfold ze0 at hx';rw [if_pos h5] at hx';simp at hx';refine ⟨x,at0 x s,⟨by omega,by simp;omega⟩,n0,by rw [hx'.1.1];exact hn0,fun h=>⟨s,w0, ?_⟩,fun h=>⟨fun _=>?_,fun h'=>absurd h' (by simp [h5])⟩⟩
   ·simp at h;simp [opn,h5,h.2]
   ·simp [h5] at h;simp [opn,h5,h]
  ·obtain ⟨n,hn,hk⟩:=zfh hx h5;refine ⟨x,at0 x s,⟨by omega,by simp;omega⟩,n,hn,fun h=>absurd h (by simp [h5]),fun _=>⟨fun h=>absurd h (by simp [h5]),fun _=>⟨fun h2=>?_,fun h2=>?_⟩⟩⟩
   ·have e2:x.1=2:=by simpa using h2
    have hlo:0≤x.2.2.1∧x.2.2.1≤x.2.2.2∧x.2.2.2≤255:=by
     have hx':=hx;unfold ze0 at hx';rw [if_neg h5,hn] at hx';simp [e2] at hx';have:=hd.rep _ n hn hx'.1.1.1;omega
    have hj:∀out:List (List SItem),out.length≤1→∀r,r=out++(if 0<x.2.2.2 then [(1,n.2.1,0,0)::(2,x.2.1,max (x.2.2.1-1) 0,x.2.2.2-1)::s] else [])→zc2.j2 (x::s) r x n out:=by
     intro out hout r hrr;refine ⟨fun h=>⟨(1,n.2.1,0,0),rfl,zi (by omega) (by omega),zi (by omega) (by omega),_,wl _ (by simp),by simp;omega, ?_⟩,fun h=>?_⟩
     ·have:0<x.2.2.2:=dt h;show r=_;rw [hrr,if_pos this,e2];rfl
     ·have:¬ 0<x.2.2.2:=df h;show r=_;rw [hrr,if_neg this,List.append_nil]
    refine ⟨fun h=>⟨s,w0,by simp,hj _ (by simp) _ ?_⟩,fun h=>hj _ (by simp) _ ?_⟩
    ·have e0:x.2.2.1=0:=by simpa using h
     simp [opn,hn,e2,e0]
    ·have e0:¬ x.2.2.1=0:=by simpa using h
     simp [opn,hn,e2,e0]
   ·have e2:¬ x.1=2:=by simpa using h2
    have e1:x.1=1:=by
     rcases hk with h | ⟨h,_⟩ | ⟨h,_⟩ | ⟨h,_⟩
     ·exact h
     ·exact absurd h e2
     ·simp [rdy,h] at hr
     ·simp [rdy,h] at hr
    refine ⟨fun h=>⟨s,w0, ?_⟩,fun k1=>⟨fun h=>⟨_,wl _ (by simp), ?_⟩,fun k3=>⟨fun h=>⟨_,rfl,_,rfl,_,wl _ (by simp), ?_⟩,fun k4=>⟨fun h=>⟨_,rfl,_,wl _ (by simp),_,rfl,_,wl _ (by simp), ?_⟩,fun k5=>⟨fun h=>⟨s,w0,_,rfl,_,wl _ (by simp), ?_⟩,fun k6=>⟨_,wl _ (by simp), ?_⟩⟩⟩⟩⟩⟩
    all_goals simp only [opn,hn,if_neg h5,if_neg e2]
    all_goals simp_all
theorem zrj {d:List SNode} (hd:ROk d) {s:List SItem} (hf:zd6 d s=true) (hr:rdy d s=false) (hl:s.length≤10000) (hd0:∃n,at? d 0=some n):zdk d s (opn d s):=by
 cases s with
 | nil=>simp [rdy] at hr
 | cons x s=>
  simp only [List.length_cons] at hl;have w0:zcc [] s s:=zsn (by simp) (by omega);have wl:∀l:List SItem,l.length≤2→zcc l s (l++s):=fun l h=>zsn (by omega) (by omega);have hx:=(zdp hf).1
  by_cases h5:x.1=5
  ·obtain ⟨n0,hn0⟩:=hd0;have hx':=hx;unfold ze0 at hx';rw [if_pos h5] at hx';simp at hx';refine ⟨x,at0 x s,⟨by omega,by simp;omega⟩,n0,by rw [hx'.1.1];exact hn0,fun _=>⟨fun h=>⟨s,w0,by simp, ?_⟩,fun h=>?_⟩,fun h=>absurd h (by simp [h5])⟩
   ·simp at h;show opn d (x::s)=_;simp [opn,h5,h]
   ·simp at h;show opn d (x::s)=_;simp [opn,h5,h]
  ·obtain ⟨n,hn,hk⟩:=zfh hx h5;refine ⟨x,at0 x s,⟨by omega,by simp;omega⟩,n,hn,fun h=>absurd h (by simp [h5]),fun _=>⟨fun h2=>?_,fun h2=>?_⟩⟩
   ·have e2:x.1=2:=by simpa using h2
    have hlo:0≤x.2.2.1∧x.2.2.1≤x.2.2.2∧x.2.2.2≤255:=by
     have hx':=hx;unfold ze0 at hx';rw [if_neg h5,hn] at hx';simp [e2] at hx';have:=hd.rep _ n hn hx'.1.1.1;omega
    have hj:∀out:List (List SItem),out.length≤1→∀r,r=out++(if 0<x.2.2.2 then [(1,n.2.1,0,0)::(2,x.2.1,max (x.2.2.1-1) 0,x.2.2.2-1)::s] else [])→zdk.j3 (x::s) r x n out:=by
     intro out hout r hrr;refine ⟨fun h=>⟨zi (by omega) (by omega),zi (by omega) (by omega),_,wl _ (by simp),by simp;omega, ?_⟩,fun h=>?_⟩
     ·have:0<x.2.2.2:=dt h;show r=_;rw [hrr,if_pos this,Int.max_comm];rfl
     ·have:¬ 0<x.2.2.2:=df h;show r=_;rw [hrr,if_neg this,List.append_nil]
    refine ⟨fun h=>⟨s,w0,by simp,hj _ (by simp) _ ?_⟩,fun h=>hj _ (by simp) _ ?_⟩
    ·have e0:x.2.2.1=0:=by simpa using h
     simp [opn,hn,e2,e0]
    ·have e0:¬ x.2.2.1=0:=by simpa using h
     simp [opn,hn,e2,e0]
   ·have e2:¬ x.1=2:=by simpa using h2
    have e1:x.1=1:=by
     rcases hk with h | ⟨h,_⟩ | ⟨h,_⟩ | ⟨h,_⟩
     ·exact h
     ·exact absurd h e2
     ·simp [rdy,h] at hr
     ·simp [rdy,h] at hr
    have h289:n.1≠2∧n.1≠8∧n.1≠9:=by
     simp only [rdy,hn,e1] at hr;simp at hr;omega
    have hk9:=hd.kind _ n hn;refine ⟨fun h=>⟨s,w0,by simp, ?_⟩,fun k1=>⟨fun h=>⟨_,wl _ (by simp),by simp, ?_⟩,fun k3=>⟨fun h=>⟨_,wl _ (by simp),by simp, ?_⟩,fun k4=>⟨fun h=>⟨_,wl _ (by simp),_,wl _ (by simp),by simp, ?_⟩,fun k5=>⟨fun h=>⟨s,w0,_,wl _ (by simp),by simp, ?_⟩,fun k6=>⟨fun h=>⟨_,wl _ (by simp),by simp, ?_⟩,fun k7=>?_⟩⟩⟩⟩⟩⟩
    ·simp only [opn,hn,if_neg h5,if_neg e2];simp_all
    ·simp only [opn,hn,if_neg h5,if_neg e2];simp_all
    ·simp only [opn,hn,if_neg h5,if_neg e2];simp_all
    ·simp only [opn,hn,if_neg h5,if_neg e2];simp_all
    ·simp only [opn,hn,if_neg h5,if_neg e2];simp_all
    ·simp only [opn,hn,if_neg h5,if_neg e2];simp_all
    ·exfalso;simp at k1 k3 k4 k5 k6 k7;omega
theorem zhb {d:List SNode} {a:Int} (h:∃m,at? d a=some m):ze0 d (1,a,0,0)=true:=by
 obtain ⟨m,hm⟩:=h;unfold ze0;simp [hm]
theorem zdg {d:List SNode} {i a:Int} {n:SNode} (hn:at? d i=some n) (h0:0≤a) (h1:a<i):∃m,at? d a=some m:=by
 obtain ⟨j,rfl,hj⟩:=zm5 hn;have:=(List.getElem?_eq_some_iff.1 hj).1;obtain ⟨m,hm,_⟩:=zm6 (xs:=d) h0 (by omega);exact ⟨m,hm⟩
theorem zbq {α:Type} {d:List α} {i:Int} {n:α} (hn:at? d i=some n):0≤i∧i<(d.length:Int):=by
 obtain ⟨j,rfl,hj⟩:=zm5 hn;have:=(List.getElem?_eq_some_iff.1 hj).1;omega
theorem opn_cases {d:List SNode} (hd:ROk d) {x:SItem} {rest:List SItem} (hf:zd6 d (x::rest)=true) (hr:rdy d (x::rest)=false) {t:List SItem} (ht:t∈opn d (x::rest)):
  t=rest∨∃n,at? d x.2.1=some n∧x.1≠5∧((∃a,0≤a∧a<x.2.1∧t=(1,a,0,0)::rest)∨(∃a b,0≤a∧a<x.2.1∧0≤b∧b<x.2.1∧t=(1,a,0,0)::(1,b,0,0)::rest)∨(∃a lo hi k,0≤a∧a<x.2.1∧t=(1,a,0,0)::(k,x.2.1,lo,hi)::rest∧ze0 d (k,x.2.1,lo,hi)=true)∨∃k lo hi,t=(k,x.2.1,lo,hi)::rest∧ze0 d (k,x.2.1,lo,hi)=true):=by
 have hx:=(zdp hf).1
 by_cases h5:x.1=5
 ·simp only [opn] at ht;rw [if_pos h5] at ht;split at ht
  ·exact .inl (List.mem_singleton.1 ht)
  ·cases ht
 ·obtain ⟨n,hn,hk⟩:=zfh hx h5;simp only [opn,hn] at ht;rw [if_neg h5] at ht
  by_cases h2:x.1=2
  ·rw [if_pos h2] at ht;have hx':=hx;unfold ze0 at hx';rw [if_neg h5,hn] at hx';simp [h2] at hx';obtain ⟨a0,a1⟩:=hd.one _ n hn (.inr (.inl hx'.1.1.1));rcases List.mem_append.1 ht with ht | ht
   ·split at ht
    ·exact .inl (List.mem_singleton.1 ht)
    ·cases ht
   ·split at ht
    ·rename_i hpos
     refine .inr ⟨n,hn,h5,.inr (.inr (.inl ⟨n.2.1,_,_,2,a0,a1,List.mem_singleton.1 ht, ?_⟩))⟩;unfold ze0;simp [hn,hx'.1.1.1];omega
    ·cases ht
  ·rw [if_neg h2] at ht;have e1:x.1=1:=by
    rcases hk with h | ⟨h,_⟩ | ⟨h,_⟩ | ⟨h,_⟩
    ·exact h
    ·exact absurd h h2
    ·simp [rdy,h] at hr
    ·simp [rdy,h] at hr
   have h289:n.1≠2∧n.1≠8∧n.1≠9:=by
    simp only [rdy,hn,e1] at hr;simp at hr;omega
   by_cases k1:n.1=1
   ·rw [if_pos k1] at ht;exact .inl (List.mem_singleton.1 ht)
   ·rw [if_neg k1] at ht
    by_cases k3:n.1=3
    ·rw [if_pos k3] at ht;refine .inr ⟨n,hn,h5,.inr (.inr (.inr ⟨3,0,0,List.mem_singleton.1 ht, ?_⟩))⟩;have:=hd.ntx _ n hn k3;unfold ze0;simp [hn,k3];exact List.length_pos_iff.2 this
    ·rw [if_neg k3] at ht
     by_cases k4:n.1=4
     ·rw [if_pos k4] at ht;obtain ⟨⟨a,b⟩,c,e⟩:=hd.two _ n hn (.inl k4);exact .inr ⟨n,hn,h5,.inr (.inl ⟨_,_,a,b,c,e,List.mem_singleton.1 ht⟩)⟩
     ·rw [if_neg k4] at ht
      by_cases k5:n.1=5
      ·rw [if_pos k5] at ht;obtain ⟨⟨a,b⟩,c,e⟩:=hd.two _ n hn (.inr k5);simp only [List.mem_cons,List.not_mem_nil,or_false] at ht;rcases ht with ht | ht
       ·exact .inr ⟨n,hn,h5,.inl ⟨_,a,b,ht⟩⟩
       ·exact .inr ⟨n,hn,h5,.inl ⟨_,c,e,ht⟩⟩
      ·rw [if_neg k5] at ht
       by_cases k6:n.1=6
       ·rw [if_pos k6] at ht;obtain ⟨a,b⟩:=hd.one _ n hn (.inl k6);simp only [List.mem_cons,List.not_mem_nil,or_false] at ht;rcases ht with ht | ht
        ·exact .inl ht
        ·obtain ⟨xk,xi,xl,xh⟩:=x;exact .inr ⟨n,hn,h5,.inr (.inr (.inl ⟨_,xl,xh,xk,a,b,ht,hx⟩))⟩
       ·rw [if_neg k6] at ht;have k7:n.1=7:=by have:=hd.kind _ n hn;omega
        refine .inr ⟨n,hn,h5,.inr (.inr (.inr ⟨2,_,_,List.mem_singleton.1 ht, ?_⟩))⟩;obtain ⟨b0,b1,b2⟩:=hd.rep _ n hn k7;unfold ze0;simp [hn,k7,b0,b1]
theorem zfi {d:List SNode} {x:SItem} {s:List SItem} (h:ze0 d x=true) (k:zd6 d s=true):zd6 d (x::s)=true:=by
 simp only [zd6,List.all_cons,Bool.and_eq_true];exact ⟨h,k⟩
theorem form_opn {d:List SNode} (hd:ROk d) {s:List SItem} (hf:zd6 d s=true) (hr:rdy d s=false):∀t∈opn d s,zd6 d t=true:=by
 intro t ht;cases s with
 | nil=>simp [opn] at ht
 | cons x rest=>
  have hrest:=(zdp hf).2;rcases opn_cases hd hf hr ht with rfl | ⟨n,hn,h5,h⟩
  ·exact hrest
  ·rcases h with ⟨a,h0,h1,rfl⟩ | ⟨a,b,h0,h1,h2,h3,rfl⟩ | ⟨a,lo,hi,k,h0,h1,rfl,h2⟩ | ⟨k,lo,hi,rfl,h2⟩
   ·exact zfi (zhb (zdg hn h0 h1)) hrest
   ·exact zfi (zhb (zdg hn h0 h1)) (zfi (zhb (zdg hn h2 h3)) hrest)
   ·exact zfi (zhb (zdg hn h0 h1)) (zfi h2 hrest)
   ·exact zfi h2 hrest
def SufI (D:Nat):List SItem→Prop
 | []=>True
 | x::u=>(u.length:Int)+1+x.2.1≤(D:Int)∧0≤x.2.1∧SufI D u
theorem SufI.len {D:Nat}:∀{u:List SItem},SufI D u→u.length≤D
 | [],_=>Nat.zero_le _
 | x::u,h=>by
  have h1:=h.1;have h2:=h.2.1;simp only [List.length_cons];omega
structure Vs (d:List SNode) (n0:Nat) (t:List SItem):Prop where
 form:zd6 d t=true
 cut:∃u v,t=u++v∧SufI d.length u∧v.length≤n0
theorem Vs.len {d:List SNode} {n0:Nat} {t:List SItem} (h:Vs d n0 t):t.length≤n0+d.length:=by
 obtain ⟨u,v,rfl,h1,h2⟩:=h.cut;have:=h1.len;simp;omega
theorem Vs.start {d:List SNode} {s:List SItem} {n0:Nat} (hf:zd6 d s=true) (h:s.length≤n0):Vs d n0 s:=⟨hf,[],s,rfl,trivial,h⟩
theorem Vs.opn {d:List SNode} (hd:ROk d) {n0:Nat} {s:List SItem} (h:Vs d n0 s) (hr:rdy d s=false):∀t∈opn d s,Vs d n0 t:=by
 intro t ht;refine ⟨form_opn hd h.form hr t ht, ?_⟩;obtain ⟨u,v,hs,h1,h2⟩:=h.cut;cases s with
 | nil=>simp [V.opn] at ht
 | cons x rest=>
  have key:∃u' v',rest=u'++v'∧SufI d.length u'∧v'.length≤n0∧(x.1≠5→(u'.length:Int)+1+x.2.1≤(d.length:Int)∧0≤x.2.1):=by
   cases u with
   | nil=>
    simp at hs;refine ⟨[],rest,rfl,trivial,by rw [← hs] at h2;simp at h2;omega,fun h5=>?_⟩;obtain ⟨n,hn,_⟩:=zfh (zdp h.form).1 h5;have:=zbq hn;simp;omega
   | cons y u'=>
    simp at hs;obtain ⟨e1,e2⟩:=hs;subst e1;exact ⟨u',v,e2,h1.2.2,h2,fun _=>⟨h1.1,h1.2.1⟩⟩
  obtain ⟨u',v',rfl,k1,k2,k3⟩:=key;rcases opn_cases hd h.form hr ht with rfl | ⟨n,hn,h5,hc⟩
  ·exact ⟨u',v',rfl,k1,k2⟩
  ·obtain ⟨k4,k5⟩:=k3 h5;rcases hc with ⟨a,h0,h1,rfl⟩ | ⟨a,b,h0,h1,h2,h3,rfl⟩ | ⟨a,lo,hi,k,h0,h1,rfl,h2⟩ | ⟨k,lo,hi,rfl,h2⟩
   ·exact ⟨(1,a,0,0)::u',v',rfl,⟨by simp only;omega,h0,k1⟩,k2⟩
   ·exact ⟨(1,a,0,0)::(1,b,0,0)::u',v',rfl,⟨by simp only [List.length_cons];omega,h0,by simp only;omega,h2,k1⟩,k2⟩
   ·exact ⟨(1,a,0,0)::(k,x.2.1,lo,hi)::u',v',rfl,⟨by simp only [List.length_cons];omega,h0,by simp only;omega,k5,k1⟩,k2⟩
   ·exact ⟨(k,x.2.1,lo,hi)::u',v',rfl,⟨by simp only;omega,k5,k1⟩,k2⟩
section
variable {κ ν : Type} [DecidableEq κ]
theorem zrw {xs:List (κ × ν)} {k:κ} {v:ν} {p:κ × ν}:p∈zf4 xs k v↔p=(k,v)∨(p.1≠k∧p∈xs):=by
 unfold zf4;cases h:zha xs k
 ·rw [cond_false,List.mem_append,List.mem_singleton];constructor
  ·rintro (hp | hp)
   ·exact .inr ⟨fun e=>(by have:=zew.2 ⟨p,hp,e⟩;rw [h] at this;cases this),hp⟩
   ·exact .inl hp
  ·rintro (hp | hp)
   ·exact .inr hp
   ·exact .inl hp.2
 ·rw [cond_true,List.mem_map];constructor
  ·rintro ⟨q,hq,e⟩
   by_cases hk:q.1=k
   ·simp [hk] at e;exact .inl e.symm
   ·have:(q.1==k)=false:=by simpa using hk
    rw [this] at e;simp at e;subst e;exact .inr ⟨hk,hq⟩
  ·rintro (hp | ⟨hk,hp⟩)
   ·obtain ⟨q,hq,e⟩:=zew.1 h;exact ⟨q,hq,by simp [e,hp]⟩
   ·have:(p.1==k)=false:=by simpa using hk
    exact ⟨p,hp,by simp [this]⟩
theorem mput_kn {xs:List (κ × ν)} (hn:KN xs) (k:κ) (v:ν):KN (zf4 xs k v):=by
 unfold zf4 KN;cases h:zha xs k
 ·rw [cond_false,List.map_append,List.nodup_append];refine ⟨hn,by simp,fun a ha b hb=>?_⟩;simp at hb;subst hb;intro e;subst e;obtain ⟨p,hp,e⟩:=List.mem_map.1 ha;have:=zew.2 ⟨p,hp,e⟩;rw [h] at this;cases this
 ·rw [cond_true,List.map_map];have:(xs.map ((fun x=>x.1) ∘ fun p=>bif p.1==k then (k,v) else p))=xs.map (·.1):=by
   apply List.map_congr_left;intro p _;simp only [Function.comp]
   by_cases hk:p.1=k
   ·simp [hk]
   ·have:(p.1==k)=false:=by simpa using hk
    rw [this];rfl
  rw [this];exact hn
theorem mget_in {xs:List (κ × ν)} {k:κ} (h:zha xs k=true) (z:ν):(k,zd4 xs k z)∈xs:=by
 unfold zd4;cases hf:xs.find? (fun p=>p.1==k) with
 | none=>
  obtain ⟨p,hp,e⟩:=zew.1 h;have:=List.find?_eq_none.1 hf p hp;simp [e] at this
 | some q=>
  have h1:=List.find?_some hf;have h2:=List.mem_of_find?_eq_some hf;have e:q.1=k:=by simpa using h1
  rw [← e];exact h2
end
structure zlu (f:List SItem→Nat) (m:List (Str × SBranch)):Prop where
 kn:KN m
 mem:∀k b,(k,b)∈m↔k=keyS b.1∧f b.1≠0∧b.2=sat (f b.1)
theorem zlu.nil:zlu (fun _=>0) []:=⟨List.nodup_nil,by simp⟩
theorem zlu.congr {f g:List SItem→Nat} {m} (h:zlu f m) (e:∀t,sat (f t)=sat (g t)):zlu g m:=⟨h.kn,fun k b=>by rw [h.mem,sat_ne (e b.1),e b.1]⟩
theorem zlu.get {f:List SItem→Nat} {m} (h:zlu f m) (u:List SItem):(zd4 m (keyS u) (([],0):SBranch)).2=sat (f u):=by
 by_cases hu:f u=0
 ·rw [zhz fun p hp e=>?_]
  ·rw [hu];rfl
  ·obtain ⟨k,b⟩:=p;obtain ⟨h1,h2,_⟩:=(h.mem k b).1 hp;simp only at e;rw [e] at h1;rw [zgf.1 h1] at hu;exact h2 hu
 ·have hm:=(h.mem (keyS u) (u,sat (f u))).2 ⟨rfl,hu,rfl⟩;have:=znh h.kn hm (([],0):SBranch);simp only at this;rw [this]
theorem zlu.put {f:List SItem→Nat} {m} (h:zlu f m) (u:List SItem) {n:Nat} (hn:n≠0):zlu (fun t=>f t+if t=u then n else 0) (zf4 m (keyS u) (u,min ((zd4 m (keyS u) (([],0):SBranch)).2+sat n) 2)):=by
 refine ⟨mput_kn h.kn _ _,fun k b=>?_⟩;rw [zrw,h.get,h.mem];have e:min (sat (f u)+sat n) 2=sat (f u+n):=by unfold sat;omega
 rw [e]
 by_cases hb:b.1=u
 ·subst hb;simp only [if_true,Prod.mk.injEq];constructor
  ·rintro (⟨h1,h2⟩ | ⟨h1,h2,_⟩)
   ·exact ⟨h1,by omega,by rw [h2]⟩
   ·exact absurd h2 h1
  ·rintro ⟨h1,_,h2⟩;exact .inl ⟨h1,by rw [← h2]⟩
 ·simp only [if_neg hb,Nat.add_zero,Prod.mk.injEq];constructor
  ·rintro (⟨h1,h2⟩ | ⟨h1,h2⟩)
   ·rw [h2] at hb;exact absurd rfl hb
   ·exact h2
  ·rintro ⟨h1,h2⟩;exact .inr ⟨fun e=>hb (zgf.1 (h1.symm.trans e)),h1,h2⟩
theorem zlu.one (s:List SItem):zlu (fun t=>[s].count t) (zf4 [] (keyS s) (s,1)):=by
 have:=zlu.nil.put s (n:=1) (by omega);have e:(zf4 ([]:List (Str × SBranch)) (keyS s) (s,min ((zd4 [] (keyS s) (([],0):SBranch)).2+sat 1) 2))=zf4 [] (keyS s) (s,1):=rfl;rw [e] at this;refine this.congr fun t=>?_;simp only [List.count_singleton,Nat.zero_add,beq_iff_eq]
 by_cases ht:t=s
 ·subst ht;simp
 ·simp [ht,Ne.symm ht]
theorem zo1 (b:SBranch):∀l:List SBranch,(insB b l).Perm (b::l)
 | []=>.refl _
 | c::l=>by
  unfold insB;split
  ·exact .refl _
  ·exact ((zo1 b l).cons c).trans (List.Perm.swap _ _ _)
theorem zgt:∀l:List SBranch,(srtB l).Perm l
 | []=>.refl _
 | b::l=>(zo1 b _).trans ((zgt l).cons b)
theorem insB_srt {b:SBranch}:∀{l:List SBranch},(∀c∈l,c.1≠b.1)→l.Pairwise (fun a b=>zdu a.1 b.1<0)→(insB b l).Pairwise (fun a b=>zdu a.1 b.1<0)
 | [],_,_=>by simp [insB]
 | c::l,hn,h=>by
  rw [List.pairwise_cons] at h;unfold insB;split
  ·rename_i hlt
   refine List.pairwise_cons.2 ⟨fun x hx=>?_,List.pairwise_cons.2 h⟩;rcases List.mem_cons.1 hx with rfl | hx
   ·exact hlt
   ·exact ze8 hlt (h.1 x hx)
  ·rename_i hge
   refine List.pairwise_cons.2 ⟨fun x hx=>?_,insB_srt (fun x hx=>hn x (by simp [hx])) h.2⟩;rcases List.mem_cons.1 ((zo1 b l).mem_iff.1 hx) with rfl | hx
   ·have h1:=zfj x.1 c.1;have h2:zdu x.1 c.1≠0:=fun e=>hn c (by simp) (zb8.1 e).symm;omega
   ·exact h.1 x hx
theorem zne:∀{l:List SBranch},(l.map (·.1)).Nodup→(srtB l).Pairwise (fun a b=>zdu a.1 b.1<0)
 | [],_=>List.Pairwise.nil
 | b::l,h=>by
  rw [List.map_cons,List.nodup_cons] at h;refine insB_srt (fun c hc e=>h.1 ?_) (zne h.2);rw [← e];exact List.mem_map.2 ⟨c,(zgt l).mem_iff.1 hc,rfl⟩
theorem zlu.can {f:List SItem→Nat} {m:List (Str × SBranch)} (h:zlu f m) {out:List SBranch} (hp:out.Perm (m.map (·.2))):(out.map (·.1)).Nodup∧Can f (srtB out):=by
 have hk:m.map (·.1)=(m.map (·.2)).map (fun b=>keyS b.1):=by
  rw [List.map_map];apply List.map_congr_left;rintro ⟨k,b⟩ hm;exact ((h.mem k b).1 hm).1
 have hn:((m.map (·.2)).map (·.1)).Nodup:=by
  have h1:=h.kn;unfold KN at h1;rw [hk] at h1;have e:(m.map (·.2)).map (fun b=>keyS b.1)=((m.map (·.2)).map (·.1)).map keyS:=by rw [List.map_map (f:=fun b:SBranch=>b.1)];rfl
  rw [e] at h1;exact List.Pairwise.imp (fun {a b} hab he=>hab (by rw [he])) (List.pairwise_map.1 h1)
 have hn2:(out.map (·.1)).Nodup:=(hp.map (·.1)).nodup_iff.2 hn;refine ⟨hn2,zne hn2,fun t c=>?_⟩;rw [(zgt out).mem_iff,hp.mem_iff,List.mem_map];constructor
 ·rintro ⟨⟨k,b⟩,hm,e⟩;simp only at e;subst e;exact ((h.mem k _).1 hm).2
 ·rintro h1;exact ⟨(keyS t,(t,c)),(h.mem _ _).2 ⟨rfl,h1⟩,rfl⟩
end Go.Proofs.YtjdaaiodniicoaaGreatDoor.V
namespace Go.Proofs.YtjdaaiodniicoaaGreatDoor.V
open Go Go.Shelf Go.Sort
set_option linter.unusedVariables false
theorem cmpS_le {x y z:List SItem} (h1:zdu x y≤0) (h2:zdu y z≤0):zdu x z≤0:=by
 rcases Int.lt_or_le (zdu x y) 0 with a | a
 ·rcases Int.lt_or_le (zdu y z) 0 with b | b
  ·have:=ze8 a b;omega
  ·have e:zdu y z=0:=by omega
   rw [← zb8.1 e];exact h1
 ·have e:zdu x y=0:=by omega
  rw [zb8.1 e];exact h2
theorem swo_branch:SWO (Go.Proofs.ltOf fun x y:SBranch=>zdu x.1 y.1):=swo_cmp (fun x=>zf1 _) (fun x y=>zfj _ _) fun x y z h1 h2=>cmpS_le h1 h2
theorem srtB_uniq {x y:List SBranch} (hn:(x.map (·.1)).Nodup) (hp:y.Perm x) (hs:y.Pairwise (fun a b=>¬ zdu b.1 a.1<0)):y=srtB x:=by
 have hny:(y.map (·.1)).Nodup:=(hp.map (·.1)).nodup_iff.2 hn;refine zq9 ?_ (zne hn) fun b=>by rw [hp.mem_iff,(zgt x).mem_iff]
 have h2:y.Pairwise (fun a b=>a.1≠b.1):=List.pairwise_map.1 hny;refine (hs.and h2).imp fun {a b} h=>?_;have h3:=zfj b.1 a.1;have h4:zdu a.1 b.1≠0:=fun e=>h.2 (zb8.1 e);omega
theorem fm_branch {g:FuncId} (eg:∀(args:Array Value) (w:World),(callFunc g args).run Tryz.prog w = .ok (.enter g args) w) {x r:List SBranch} (hn:(x.map (·.1)).Nodup) (hl:x.length≤2147483648) (hr:r=srtB x)
  (hc:∀a∈x,∀b∈x,VD.Fn Tryz.prog g [VD.Pd.rep En.SBranch a,VD.Pd.rep En.SBranch b] (VD.Rq (VD.Pd.rep (VD.En.int .i64) (zdu a.1 b.1)))) (v0:Value):
  Fm Tryz.prog 109 (fun b=>v0.ownBlock=some b) [Pd.prow En.SBranch 155 v0 x,Pd.is (.func (.func g) #[] #[])] (fun _ s' _=>(Pd.prow En.SBranch 155 v0 r).p s' v0):=by
 have h:=fm_sort slsort (E:=En.SBranch) (E':=En.SBranch) (te:=155) (g:=g) (cf:=fun a b:SBranch=>zdu a.1 b.1) rfl ty155 rfl rfl (fun h=>h) (ze1 Tryz.func109 rfl (by rfl)) eg swo_branch hl hc v0;refine ⟨h.call,fun s vs hg hM hv=>(h.run s vs hg hM hv).mono fun e w' ⟨v,s',he,hw,hfr,ys,hp,hs,hrow⟩=>⟨v,s',he,hw,hfr, ?_⟩⟩;rw [hr,← srtB_uniq hn hp hs];exact hrow
theorem zja (v0:Value) {x r:List SBranch} (h:zg3 x r):Fm Tryz.prog 109 (fun b=>v0.ownBlock=some b) [Pd.prow En.SBranch 155 v0 x,Pd.is (.func (.func 124) #[] #[])] (fun _ s' _=>(Pd.prow En.SBranch 155 v0 r).p s' v0):=fm_branch (ze1 Tryz.func124 rfl (by rfl)) h.1 h.2.2.1 h.2.2.2 (fun a ha b hb=>@zm4 true dLe _ _ _ ⟨_,zeh (h.2.1 a ha),rfl⟩) v0
theorem o_isf {L:Lst} {f:FuncId}:Opn L (.func f) (Pd.is (.func (.func f) #[] #[])):=fun _ _ _ _ _ _=>rfl
end Go.Proofs.YtjdaaiodniicoaaGreatDoor.V
namespace Go.Proofs.YtjdaaiodniicoaaGreatDoor.V
open Go
set_option linter.unusedVariables false
set_option maxRecDepth 100000
noncomputable abbrev Efmp:En (List (Str × SBranch)):=En.fmap En.str kvStr En.SBranch
noncomputable abbrev Efinder:En (SDesc × Option Nat):=En.cat En.SDesc En.mref
theorem tyzFinder:TyZ Tryz.prog 212 Efinder (([],none):SDesc × Option Nat):=⟨_,_,([.slice none 0 0]++[.map none]),rfl,rfl,by rfl,fun _ _=>⟨[.slice none 0 0],[.map none],rfl,⟨_,rfl,zcx _ _ _⟩,rfl⟩⟩
theorem sttFinder:Stt Tryz.prog 212 [(0,1),(1,1)]:=⟨_,Tryz.underlying212,by kernel_rfl⟩
theorem tyMap:Ty Tryz.prog 210 En.mref:=⟨⟨_,_,rfl,rfl,rfl,rfl,by decide⟩,_,rfl,rfl⟩
theorem tyvMap:TyV Tryz.prog 213 Efmp []:=⟨_,[.map none],rfl,by rfl,fun _ _=>⟨_,rfl,.inl ⟨rfl,rfl⟩⟩⟩
theorem tyvBranch:TyV Tryz.prog 155 En.SBranch (([],0):SBranch):=⟨_,[.slice none 0 0]++[.int .i64 0],rfl,by rfl,fun _ _=>⟨_,_,rfl,⟨_,rfl,zcx _ _ _⟩,⟨rfl,by decide⟩⟩⟩
def GoodM (d:List SNode) (t:List SItem) (m:List (Str × SBranch)):Prop:=∃h l,lv d h t=some l∧zlu (fun u=>l.count u) m
def InvS (d:List SNode) (xs:List (Str × List (Str × SBranch))):Prop:=∀k m,(k,m)∈xs→∃t,k=keyS t∧GoodM d t m
theorem InvS.get {d:List SNode} {xs} (h:InvS d xs) {t:List SItem} (hm:zha xs (keyS t)=true):GoodM d t (zd4 xs (keyS t) []):=by
 obtain ⟨t',e,hg⟩:=h _ _ (mget_in hm []);have:=zgf.1 e;subst this;exact hg
theorem InvS.put {d:List SNode} {xs} (h:InvS d xs) {t:List SItem} {m} (hg:GoodM d t m):InvS d (zf4 xs (keyS t) m):=by
 intro k m' hm;rcases zrw.1 hm with e | ⟨_,hm⟩
 ·cases e;exact ⟨t,rfl,hg⟩
 ·exact h k m' hm
theorem InvS.nil (d:List SNode):InvS d []:=fun k m h=>by cases h
abbrev FndOk (d:List SNode) (g:Nat) (t:List SItem) (xs:List (Str × List (Str × SBranch))):Prop:=
 Fc Tryz.prog 123 En.str kvStr Efmp g xs [Pd.ptr Efinder (d,some g),Pd.rep (En.slice En.SItem) t] (fun i:List (Str × SBranch) × List (Str × List (Str × SBranch))=>GoodM d t i.1∧InvS d i.2) (fun i=>Pd.rep Efmp i.1) (fun i=>i.2)
theorem no_g {og:Option Nat} {g N:Nat} (hg:g<N) (h:∀b,og=some b→N≤b):∀b,og=some b→¬ some g=some b:=fun b hb e=>by cases e;have:=h g hb;omega
theorem no_o {og:Option Nat} {g N:Nat} (hg:g<N) (h:∀b,og=some b→N≤b):∀b,some g=some b→¬ og=some b:=fun b e hb=>by cases e;have:=h g hb;omega
structure Left (c:List SItem→Nat) (rem:List (Str × SBranch)):Prop where
 kn:KN rem
 ent:∀p∈rem,p.1=keyS p.2.1∧c p.2.1≠0∧p.2.2=sat (c p.2.1)
theorem zlu.left {c:List SItem→Nat} {m:List (Str × SBranch)} (h:zlu c m):Left c m:=⟨h.kn,fun p hp=>(h.mem p.1 p.2).1 hp⟩
theorem Left.perm {c:List SItem→Nat} {l m:List (Str × SBranch)} (h:Left c l) (hp:l.Perm m):Left c m:=⟨h.kn.perm hp,fun p hm=>h.ent p (hp.mem_iff.2 hm)⟩
theorem Left.tail {c:List SItem→Nat} {p:Str × SBranch} {l:List (Str × SBranch)} (h:Left c (p::l)):Left c l∧keyS p.2.1 ∉ l.map (·.1):=by
 have hk:=h.kn;unfold KN at hk;rw [List.map_cons,List.nodup_cons] at hk;exact ⟨⟨hk.2,fun q hq=>h.ent q (by simp [hq])⟩,by rw [← (h.ent p (by simp)).1];exact hk.1⟩
def cnt (f c:List SItem→Nat) (rem:List (Str × SBranch)) (u:List SItem):Nat:=f u+if keyS u∈rem.map (·.1) then 0 else c u
theorem cnt_start {f c:List SItem→Nat} {m rem:List (Str × SBranch)} (h:zlu c m) (hp:m.Perm rem) (u:List SItem):cnt f c rem u=f u:=by
 unfold cnt
 by_cases hc:c u=0
 ·simp [hc]
 ·rw [if_pos];· rfl
  exact List.mem_map.2 ⟨(keyS u,(u,sat (c u))),hp.mem_iff.1 ((h.mem _ _).2 ⟨rfl,hc,rfl⟩),rfl⟩
theorem cnt_perm {f c:List SItem→Nat} {l m:List (Str × SBranch)} (hp:l.Perm m) (u:List SItem):cnt f c l u=cnt f c m u:=by
 unfold cnt;have h:=(hp.map (·.1)).mem_iff (a:=keyS u)
 by_cases hu:keyS u∈l.map (·.1)
 ·rw [if_pos hu,if_pos (h.1 hu)]
 ·rw [if_neg hu,if_neg (fun k=>hu (h.2 k))]
theorem cnt_nil {f c:List SItem→Nat} (u:List SItem):cnt f c [] u=f u+c u:=by simp [cnt]
theorem cnt_step {f c:List SItem→Nat} {p:Str × SBranch} {l:List (Str × SBranch)} (h:Left c (p::l)) {out:List (Str × SBranch)} (ho:zlu (cnt f c (p::l)) out):
  zlu (cnt f c l) (zf4 out p.1 (p.2.1,min ((zd4 out p.1 (([],0):SBranch)).2+p.2.2) 2)):=by
 obtain ⟨h1,h2⟩:=h.tail;obtain ⟨e1,e2,e3⟩:=h.ent p (by simp);rw [e1,e3];refine (ho.put p.2.1 e2).congr fun t=>?_;unfold cnt;simp only [List.map_cons,List.mem_cons,e1,zgf]
 by_cases ht:t=p.2.1
 ·subst ht;rw [if_pos (.inl rfl),if_neg h2,if_pos rfl];rfl
 ·simp only [ht,false_or,if_false,Nat.add_zero]
theorem zni {α β:Type} {f:α→Option β}:∀{l:List α} {r:List β},l.mapM f=some r→r.length=l.length
 | [],r,h=>by simp at h;subst h;rfl
 | a::l,r,h=>by
  rw [List.mapM_cons] at h;cases ha:f a with
  | none=>rw [ha] at h;simp at h
  | some b=>
   rw [ha] at h;cases hl:l.mapM f with
   | none=>rw [hl] at h;simp at h
   | some bs=>
    rw [hl] at h;have e:b::bs=r:=by simpa using h
    rw [← e];simp [zni hl]
theorem zry {α β:Type} {f:α→Option β}:∀{l:List α} {r:List β},l.mapM f=some r→∀{i:Nat} (hi:i<l.length),∃b,f l[i]=some b∧r[i]?=some b
 | [],r,_,i,hi=>by simp at hi
 | a::l,r,h,i,hi=>by
  rw [List.mapM_cons] at h;cases ha:f a with
  | none=>rw [ha] at h;simp at h
  | some b=>
   rw [ha] at h;cases hl:l.mapM f with
   | none=>rw [hl] at h;simp at h
   | some bs=>
    rw [hl] at h;have e:b::bs=r:=by simpa using h
    subst e;cases i with
    | zero=>exact ⟨b,ha,rfl⟩
    | succ i=>
     obtain ⟨b',h1,h2⟩:=zry hl (i:=i) (by simpa using hi);exact ⟨b',by simpa using h1,by simpa using h2⟩
theorem take_flat {α:Type} {ls:List (List α)} {i:Nat} {l:List α} (h:ls[i]?=some l):(ls.take (i+1)).flatten=(ls.take i).flatten++l:=by
 have hi:=(List.getElem?_eq_some_iff.1 h).1;have e:=(List.getElem?_eq_some_iff.1 h).2;rw [List.take_succ_eq_append_getElem hi,e,List.flatten_append];simp
theorem find_step {d:List SNode} (hd:ROk d) (hk:DOk d) (hl4:d.length≤400) (g:Nat) {h:Nat} (ih:∀(t:List SItem) (l:List (List SItem)),lv d h t=some l→Vs d 400 t→∀xs,InvS d xs→FndOk d g t xs) (hd0:∃n,at? d 0=some n)
  {t:List SItem} {l:List (List SItem)} (hl:lv d (h+1) t=some l) (hv:Vs d 400 t) {xs:List (Str × List (Str × SBranch))} (hxs:InvS d xs):FndOk d g t xs:=by
 have htl:=hv.len;refine fc_of Tryz.func123 rfl Tryz.ntmps123 (by rfl) (by simp) fun s0 a hL=>?_;have hgs:g<s0.w.heap.size:=by
  obtain ⟨hX,_⟩:=hL.get 999902 rfl;exact s0.lt g hX
 refine wp_seq_k fun K0 hK0=>?_;refine rg ?_;refine st 4 (zp (q:=Pd.any) (fun _ _ _ _ _ _=>trivial) rfl rfl) rfl rfl hL fun a s e_ hL=>?_;refine en' ?_;show K0 a s.w;refine hK0 _ _ ?_;refine wp_seq_k fun K1 hK1=>?_;refine rg ?_;refine st 14 (zj (o_t 1 rfl) rfl rfl) rfl rfl hL fun a s e_ hL=>?_;refine st 15 (zdl (zgz (zku (s:=t) (by omega))) (xs:=[.tmp 14]) (.cons (o_t 14 rfl) .nil) rfl rfl) rfl rfl hL fun a s e_ hL=>?_;refine st 5 (zp (o_t 15 rfl) rfl rfl) rfl rfl hL fun a s e_ hL=>?_;refine en' ?_;show K1 a s.w;refine hK1 _ _ ?_;refine wp_seq_k fun K2 hK2=>?_;refine wp_seq_k fun K3 hK3=>?_;refine rg ?_;refine st 17 (zj (o_t 0 rfl) rfl rfl) rfl rfl hL fun a s e_ hL=>?_;refine st 18 (t_nc (o_t 17 rfl) zff rfl rfl) rfl rfl hL fun a s e_ hL=>?_;refine st 19 (zdb (off:=1) (o_t 18 rfl) Tryz.underlying212 rfl (ze (zn _ _) rfl) rfl tyMap rfl rfl) rfl rfl hL fun a s e_ hL=>?_;refine st 20 (zw tyMap (o_t 19 rfl) rfl rfl) rfl rfl hL fun a s e_ hL=>?_;refine st 21 (zj (o_t 5 rfl) rfl rfl) rfl rfl hL fun a s e_ hL=>?_;refine st 22 (t_mgetcok (m:=999902) rfl (o_t 20 rfl) (o_t 21 rfl) Tryz.underlying210 (zez Tryz.underlying9) tyvMap rfl rfl) rfl rfl hL fun a s e_ hL=>?_;refine st 16 (zj (o_t 22 rfl) rfl rfl) rfl rfl hL fun a s e_ hL=>?_;refine st 23 (zqd (o_t 16 rfl) rfl rfl) rfl rfl hL fun a s e_ hL=>?_;refine st 24 (zn2 (o_t 16 rfl) rfl rfl) rfl rfl hL fun a s e_ hL=>?_;refine st 6 (zp (o_t 23 rfl) rfl rfl) rfl rfl hL fun a s e_ hL=>?_;refine st 7 (zp (o_t 24 rfl) rfl rfl) rfl rfl hL fun a s e_ hL=>?_
 refine en' ?_;show K3 a s.w;refine hK3 _ _ ?_;refine wp_seq_k fun K4 hK4=>?_;refine rg ?_;refine st 25 (zj (o_t 7 rfl) rfl rfl) rfl rfl hL fun a s e_ hL=>?_;refine en' ?_;show K4 a s.w;refine hK4 _ _ ?_;refine cnd hL rfl (fun hb_=>?_) (fun hb_=>?_)
 ·refine wp_seq_k fun K5 hK5=>?_;refine rg ?_;refine st 26 (zj (o_t 6 rfl) rfl rfl) rfl rfl hL fun a s e_ hL=>?_;refine st 4 (zp (o_t 26 rfl) rfl rfl) rfl rfl hL fun a s e_ hL=>?_;refine en' ?_;show K5 a s.w;refine hK5 _ _ ?_;exact wp_ret (retc (zd4 xs (keyS t) [],xs) ⟨hxs.get hb_,hxs⟩ rfl hL rfl rfl)
 refine wp_skip ?_;show K2 a s.w;refine hK2 _ _ ?_;refine wp_seq_k fun K6 hK6=>?_;refine rg ?_;refine zjv 27 En.str kvStr En.SBranch hL rfl rfl rfl rfl fun a s g8 hg8 hL=>?_;have hng:∀b,some g8=some b→s0.w.heap.size≤b:=fun b hb=>(zle (hL.get 27 rfl) b hb).1;refine st 8 (zp (o_t 27 rfl) rfl rfl) rfl rfl hL fun a s e_ hL=>?_;refine en' ?_;show K6 a s.w;refine hK6 _ _ ?_;refine wp_seq_k fun K7 hK7=>?_;refine wp_seq_k fun K8 hK8=>?_;refine rg ?_;refine st 28 (zj (o_t 0 rfl) rfl rfl) rfl rfl hL fun a s e_ hL=>?_;refine st 29 (t_nc (o_t 28 rfl) zff rfl rfl) rfl rfl hL fun a s e_ hL=>?_;refine st 30 (zdb (off:=0) (o_t 29 rfl) Tryz.underlying212 rfl (zx (zn _ _)) rfl ty24 rfl rfl) rfl rfl hL fun a s e_ hL=>?_;refine st 31 (zw ty24 (o_t 30 rfl) rfl rfl) rfl rfl hL fun a s e_ hL=>?_;refine st 32 (zj (o_t 1 rfl) rfl rfl) rfl rfl hL fun a s e_ hL=>?_;refine st 33 (zdl (zpz (zp0 hd hv.form)) (xs:=[.tmp 31,.tmp 32]) (.cons (o_t 31 rfl) (.cons (o_t 32 rfl) .nil)) rfl rfl) rfl rfl hL fun a s e_ hL=>?_;refine en' ?_;show K8 a s.w;refine hK8 _ _ ?_;refine cnd hL rfl (fun hb_=>?_) (fun hb_=>?_)
 ·have hgood:GoodM d t (zf4 [] (keyS t) (t,1)):=⟨1,[t],by simp [lv,hb_],zlu.one t⟩;refine wp_seq_k fun K9 hK9=>?_;refine rg ?_;refine st 34 (zj (o_t 8 rfl) rfl rfl) rfl rfl hL fun a s e_ hL=>?_;refine st 35 (zj (o_t 5 rfl) rfl rfl) rfl rfl hL fun a s e_ hL=>?_;refine st 36 (zj (o_t 1 rfl) rfl rfl) rfl rfl hL fun a s e_ hL=>?_;refine st 37 (zdl (zdh (clone_in (s:=t) (by omega))).frz (xs:=[.tmp 36]) (.cons (o_t 36 rfl) .nil) rfl rfl) rfl rfl hL fun a s e_ hL=>?_;refine st 38 (zbj (x:=((t,1):SBranch)) (ps:=[(0,.tmp 37),(1,.const (.int .i64 1))]) zhp rfl stt155 (.cons (i:=0) (o_t 37 rfl) rfl (z7 (zo _ _ _)) (.cons (i:=1) (o_i (k:=.i64) (by decide)) rfl (zk (zo _ _ _) rfl) .nil)) rfl rfl) rfl rfl hL fun a s e_ hL=>?_;refine zia (L':=[(0,Pd.ptr Efinder (d,some g)),(5,Pd.rep En.str (keyS t)),(8,Pd.map En.str kvStr En.SBranch s0.w.heap.size (some g8) (zf4 [] (keyS t) (t,1))),(999902,Pd.mapc En.str kvStr Efmp g xs)]) hL (o_t 34 rfl) (o_t 35 rfl) (o_t 38 rfl) Tryz.underlying213 (zez Tryz.underlying9) (.inl rfl) rfl rfl
   (.cons (t:=0) rfl (fun _ h_=>h_.elim) (.cons (t:=5) rfl (fun _ h_=>h_.elim) (.turn (t:=8) rfl (.cons (t:=999902) rfl (no_o hgs hng) .nil)))) fun s hL=>?_
  refine en' ?_;show K9 a s.w;refine hK9 _ _ ?_;refine wp_seq_k fun K10 hK10=>?_;refine rg ?_;obtain ⟨s2,hw2,hL⟩:=hL.freezem (L':=[(0,Pd.ptr Efinder (d,some g)),(5,Pd.rep En.str (keyS t)),(999902,Pd.mapc En.str kvStr Efmp g xs)]) 8 rfl (.cons (t:=0) rfl (fun _ h_=>h_.elim) (.cons (t:=5) rfl (fun _ h_=>h_.elim) (.cons (t:=999902) rfl (no_o hgs hng) .nil)));rw [← hw2];clear hw2;generalize s2=s at *;refine st 39 (zj (o_t 0 rfl) rfl rfl) rfl rfl hL fun a s e_ hL=>?_;refine st 40 (t_nc (o_t 39 rfl) zff rfl rfl) rfl rfl hL fun a s e_ hL=>?_;refine st 41 (zdb (off:=1) (o_t 40 rfl) Tryz.underlying212 rfl (ze (zn _ _) rfl) rfl tyMap rfl rfl) rfl rfl hL fun a s e_ hL=>?_;refine st 42 (zw tyMap (o_t 41 rfl) rfl rfl) rfl rfl hL fun a s e_ hL=>?_;refine st 43 (zj (o_t 5 rfl) rfl rfl) rfl rfl hL fun a s e_ hL=>?_;refine st 44 (zj (o_t 8 rfl) rfl rfl) rfl rfl hL fun a s e_ hL=>?_;refine zq7 (m:=999902) (L':=[(8,Pd.rep Efmp (zf4 [] (keyS t) (t,1)))]) hL rfl (.inl rfl) (o_t 42 rfl) (o_t 43 rfl) (o_t 44 rfl) Tryz.underlying210 (zez Tryz.underlying9) (.inl rfl) rfl rfl (.cons (t:=8) rfl (fun _ h_=>h_.elim) .nil) fun s hL=>?_;refine en' ?_;show K10 a s.w;refine hK10 _ _ ?_;refine wp_seq_k fun K11 hK11=>?_;refine rg ?_;refine st 45 (zj (o_t 8 rfl) rfl rfl) rfl rfl hL fun a s e_ hL=>?_;refine st 4 (zp (o_t 45 rfl) rfl rfl) rfl rfl hL fun a s e_ hL=>?_;refine en' ?_;show K11 a s.w;refine hK11 _ _ ?_;exact wp_ret (retc (zf4 [] (keyS t) (t,1),zf4 xs (keyS t) (zf4 [] (keyS t) (t,1))) ⟨hgood,hxs.put hgood⟩ rfl hL rfl rfl)
 refine wp_skip ?_;show K7 a s.w;refine hK7 _ _ ?_;have hrd:rdy d t=false:=hb_;have hopn:=hv.opn hd hrd;obtain ⟨ls,hls,hlf⟩:∃ls,(opn d t).mapM (lv d h)=some ls∧ls.flatten=l:=by
  unfold lv at hl;rw [if_neg (by rw [hrd];simp)] at hl;exact Option.map_eq_some_iff.1 hl
 have hlen2:=opn_len (d:=d) t;have hlsl:ls.length=(opn d t).length:=zni hls;refine wp_seq_k fun K12 hK12=>?_;refine wp_seq_k fun K13 hK13=>?_;refine rg ?_;refine st 46 (zj (o_t 0 rfl) rfl rfl) rfl rfl hL fun a s e_ hL=>?_;refine st 47 (t_nc (o_t 46 rfl) zff rfl rfl) rfl rfl hL fun a s e_ hL=>?_;refine st 48 (zdb (off:=0) (o_t 47 rfl) Tryz.underlying212 rfl (zx (zn _ _)) rfl ty24 rfl rfl) rfl rfl hL fun a s e_ hL=>?_;refine st 49 (zw ty24 (o_t 48 rfl) rfl rfl) rfl rfl hL fun a s e_ hL=>?_;refine st 50 (zj (o_t 1 rfl) rfl rfl) rfl rfl hL fun a s e_ hL=>?_;refine st 51 (zdl (zr9 (zsa hd hv.form hrd (by omega) hd0)).frz (xs:=[.tmp 49,.tmp 50]) (.cons (o_t 49 rfl) (.cons (o_t 50 rfl) .nil)) rfl rfl) rfl rfl hL fun a s e_ hL=>?_;refine st 52 (zi2 (o_t 51 rfl) Tryz.underlying61 rfl rfl) rfl rfl hL fun a s e_ hL=>?_;refine st 53 (zj (o_i (k:=.i64) (by decide)) rfl rfl) rfl rfl hL fun a s e_ hL=>?_;refine en' ?_;show K13 a s.w;refine hK13 _ _ ?_;refine wp_block ?_;have hg8s:=hng g8 rfl;have J:∀(a:Act) (s:St) (out:List (Str × SBranch)) (ys:List (Str × List (Str × SBranch))),Has (fun b=>some g=some b) 88 s0 a s [(0,Pd.ptr Efinder (d,some g)),(5,Pd.rep En.str (keyS t)),(8,Pd.map En.str kvStr En.SBranch s0.w.heap.size (some g8) out),(999902,Pd.mapc En.str kvStr Efmp g ys)] →
   zlu (fun u=>l.count u) out→InvS d ys→K12 a s.w:=by
  intro a s out ys hL hout hys;have hgood:GoodM d t out:=⟨h+1,l,hl,hout⟩;refine hK12 _ _ ?_;refine wp_seq_k fun K19 hK19=>?_;refine rg ?_;obtain ⟨s2,hw2,hL⟩:=hL.freezem (L':=[(0,Pd.ptr Efinder (d,some g)),(5,Pd.rep En.str (keyS t)),(999902,Pd.mapc En.str kvStr Efmp g ys)]) 8 rfl (.cons (t:=0) rfl (fun _ h_=>h_.elim) (.cons (t:=5) rfl (fun _ h_=>h_.elim) (.cons (t:=999902) rfl (no_o hgs hng) .nil)));rw [← hw2];clear hw2;generalize s2=s at *;refine st 81 (zj (o_t 0 rfl) rfl rfl) rfl rfl hL fun a s e_ hL=>?_;refine st 82 (t_nc (o_t 81 rfl) zff rfl rfl) rfl rfl hL fun a s e_ hL=>?_;refine st 83 (zdb (off:=1) (o_t 82 rfl) Tryz.underlying212 rfl (ze (zn _ _) rfl) rfl tyMap rfl rfl) rfl rfl hL fun a s e_ hL=>?_;refine st 84 (zw tyMap (o_t 83 rfl) rfl rfl) rfl rfl hL fun a s e_ hL=>?_;refine st 85 (zj (o_t 5 rfl) rfl rfl) rfl rfl hL fun a s e_ hL=>?_;refine st 86 (zj (o_t 8 rfl) rfl rfl) rfl rfl hL fun a s e_ hL=>?_;refine zq7 (m:=999902) (L':=[(8,Pd.rep Efmp out)]) hL rfl (.inl rfl) (o_t 84 rfl) (o_t 85 rfl) (o_t 86 rfl) Tryz.underlying210 (zez Tryz.underlying9) (.inl rfl) rfl rfl (.cons (t:=8) rfl (fun _ h_=>h_.elim) .nil) fun s hL=>?_;refine en' ?_;show K19 a s.w;refine hK19 _ _ ?_;refine wp_seq_k fun K20 hK20=>?_;refine rg ?_;refine st 87 (zj (o_t 8 rfl) rfl rfl) rfl rfl hL fun a s e_ hL=>?_;refine st 4 (zp (o_t 87 rfl) rfl rfl) rfl rfl hL fun a s e_ hL=>?_;refine en' ?_;show K20 a s.w;refine hK20 _ _ ?_;exact wp_ret (retc (out,zf4 ys (keyS t) out) ⟨hgood,hys.put hgood⟩ rfl hL rfl rfl)
 refine lpg (fun k a s=>∃(i:Nat) (out:List (Str × SBranch)) (ys:List (Str × List (Str × SBranch))),i+k=(opn d t).length+1∧Has (fun b=>some g=some b) 88 s0 a s [(0,Pd.ptr Efinder (d,some g)),(5,Pd.rep En.str (keyS t)),(8,Pd.map En.str kvStr En.SBranch s0.w.heap.size (some g8) out),(51,Pd.rep (En.slice (En.slice En.SItem)) (opn d t)),(52,Pd.rep (En.int .i64) ((opn d t).length:Int)),(53,Pd.rep (En.int .i64) (i:Int)),(999902,Pd.mapc En.str kvStr Efmp g ys)] ∧
   zlu (fun u=>(ls.take i).flatten.count u) out∧InvS d ys) ((opn d t).length+1) ⟨0,[],xs,by omega,hL.keep (.cons (t:=0) rfl (fun _ h_=>h_.elim) (.cons (t:=5) rfl (fun _ h_=>h_.elim) (.cons (t:=8) rfl (fun _ _ h_=>h_) (.cons (t:=51) rfl (fun _ h_=>h_.elim) (.cons (t:=52) rfl (fun _ h_=>h_.elim) (.cons (t:=53) rfl (fun _ h_=>h_.elim) (.cons (t:=999902) rfl (fun _ _ h_=>h_) .nil))))))),zlu.nil,hxs⟩ ?_
 rintro k a s ⟨i,out,ys,hik,hL,hout,hys⟩ KL hKL;refine wp_seq_k fun K14 hK14=>?_;refine rg ?_;refine st 54 (zi1 (o_t 53 rfl) (o_t 52 rfl) rfl rfl) rfl rfl hL fun a s e_ hL=>?_;refine en' ?_;show K14 a s.w;refine hK14 _ _ ?_;refine wp_seq_k fun K15 hK15=>?_;refine cnd hL rfl (fun hb2_=>?_) (fun hb2_=>?_)
 case refine_2=>
  refine wp_exit ?_;have hi:(opn d t).length≤i:=by have:=df hb2_;omega
  refine J a s out ys (hL.keep (.cons (t:=0) rfl (fun _ h_=>h_.elim) (.cons (t:=5) rfl (fun _ h_=>h_.elim) (.cons (t:=8) rfl (fun _ _ h_=>h_) (.cons (t:=999902) rfl (fun _ _ h_=>h_) .nil))))) ?_ hys;rw [List.take_of_length_le (by omega),hlf] at hout;exact hout
 refine wp_skip ?_;show K15 a s.w;refine hK15 _ _ ?_;have hi:i<(opn d t).length:=by have:=dt hb2_;omega
 have hti:at? (opn d t) (i:Int)=some (opn d t)[i]:=by rw [zbm];simp [hi]
 have hmem:(opn d t)[i]∈opn d t:=List.getElem_mem hi;obtain ⟨li,hli,hlsi⟩:=zry hls hi;refine wp_seq_k fun K18 hK18=>?_;refine wp_block ?_;refine wp_seq_k fun K21 hK21=>?_;refine rg ?_;refine st 55 (zkb (o_t 51 rfl) (o_t 53 rfl) hti Tryz.underlying61 ty77 rfl rfl) rfl rfl hL fun a s e_ hL=>?_;refine st 56 (zw ty77 (o_t 55 rfl) rfl rfl) rfl rfl hL fun a s e_ hL=>?_;refine st 10 (zp (o_t 56 rfl) rfl rfl) rfl rfl hL fun a s e_ hL=>?_;refine en' ?_;show K21 a s.w;refine hK21 _ _ ?_;refine wp_seq_k fun K22 hK22=>?_;refine rg ?_;refine st 57 (zj (o_t 0 rfl) rfl rfl) rfl rfl hL fun a s e_ hL=>?_;refine st 58 (zj (o_t 10 rfl) rfl rfl) rfl rfl hL fun a s e_ hL=>?_;refine zib (L':=[(0,Pd.ptr Efinder (d,some g)),(5,Pd.rep En.str (keyS t)),(8,Pd.map En.str kvStr En.SBranch s0.w.heap.size (some g8) out),(51,Pd.rep (En.slice (En.slice En.SItem)) (opn d t)),(52,Pd.rep (En.int .i64) ((opn d t).length:Int)),(53,Pd.rep (En.int .i64) (i:Int))]) 59 999902 hL (ih _ li hli (hopn _ hmem) ys hys) rfl (.inl rfl) (zs:=[.tmp 57,.tmp 58]) (.cons (o_t 57 rfl) (.cons (o_t 58 rfl) .nil)) rfl rfl rfl rfl
  (.cons (t:=0) rfl (fun _ h_=>h_.elim) (.cons (t:=5) rfl (fun _ h_=>h_.elim) (.cons (t:=8) rfl (no_g hgs hng) (.cons (t:=51) rfl (fun _ h_=>h_.elim) (.cons (t:=52) rfl (fun _ h_=>h_.elim) (.cons (t:=53) rfl (fun _ h_=>h_.elim) .nil)))))) fun a s im him hL=>?_
 obtain ⟨m,ys2⟩:=im;obtain ⟨⟨hh,l2,hl2,hm⟩,hys2⟩:=him;simp only at hl2 hm hys2;have hl2e:l2=li:=by
  have h1:=zjk (Nat.le_max_left hh h) hl2;have h2:=zjk (Nat.le_max_right hh h) hli;rw [h1] at h2;exact Option.some.inj h2
 subst hl2e;have hg8lt:=(zle (hL.get 8 rfl) g8 rfl).2;refine st_range 60 hL (o_t 59 rfl) Tryz.underlying213 rfl rfl rfl rfl fun a s r hr hL=>?_;have hr8:g8<r:=Nat.lt_of_lt_of_le hg8lt hr;refine en' ?_;show K22 a s.w;refine hK22 _ _ ?_;refine wp_block ?_
 let f:=fun u=>(ls.take i).flatten.count u
 let c:=fun u=>l2.count u
 have J2:∀(a:Act) (s:St) (out:List (Str × SBranch)),Has (fun b=>some g=some b) 88 s0 a s [(0,Pd.ptr Efinder (d,some g)),(5,Pd.rep En.str (keyS t)),(8,Pd.map En.str kvStr En.SBranch s0.w.heap.size (some g8) out),(51,Pd.rep (En.slice (En.slice En.SItem)) (opn d t)),(52,Pd.rep (En.int .i64) ((opn d t).length:Int)),(53,Pd.rep (En.int .i64) (i:Int)),(999902,Pd.mapc En.str kvStr Efmp g ys2)] →
   zlu (fun u=>f u+c u) out→K18 a s.w:=by
  intro a s out hL hout;refine hK18 _ _ ?_;refine rg ?_;refine st 80 (zi6 (o_t 53 rfl) (o_i (k:=.i64) (by decide)) (zi (by omega) (by omega)) rfl rfl) rfl rfl hL fun a s e_ hL=>?_;refine st 53 (zj (o_t 80 rfl) rfl rfl) rfl rfl hL fun a s e_ hL=>?_;refine en' ?_;refine hKL (k-1) a s (by omega) ⟨i+1,out,ys2,by omega,hL.keep (.cons (t:=0) rfl (fun _ h_=>h_.elim) (.cons (t:=5) rfl (fun _ h_=>h_.elim) (.cons (t:=8) rfl (fun _ _ h_=>h_) (.cons (t:=51) rfl (fun _ h_=>h_.elim) (.cons (t:=52) rfl (fun _ h_=>h_.elim) (.cons (t:=53) rfl (fun _ h_=>h_.elim) (.cons (t:=999902) rfl (fun _ _ h_=>h_) .nil))))))), ?_,hys2⟩;refine hout.congr fun u=>?_;rw [take_flat hlsi,List.count_append]
 refine lpg (fun k a s=>∃(rem:List (Str × SBranch)) (cur:Option (Str × SBranch)) (out:List (Str × SBranch)),rem.length+1=k∧Has (fun b=>some g=some b) 88 s0 a s [(0,Pd.ptr Efinder (d,some g)),(5,Pd.rep En.str (keyS t)),(8,Pd.map En.str kvStr En.SBranch s0.w.heap.size (some g8) out),(51,Pd.rep (En.slice (En.slice En.SItem)) (opn d t)),(52,Pd.rep (En.int .i64) ((opn d t).length:Int)),(53,Pd.rep (En.int .i64) (i:Int)),(60,Pd.iter En.str kvStr En.SBranch s0.w.heap.size r rem cur),(999902,Pd.mapc En.str kvStr Efmp g ys2)] ∧
   Left c rem∧zlu (cnt f c rem) out) (m.length+1) ⟨m,none,out,rfl,hL.keep (.cons (t:=0) rfl (fun _ h_=>h_.elim) (.cons (t:=5) rfl (fun _ h_=>h_.elim) (.cons (t:=8) rfl (fun _ _ h_=>h_) (.cons (t:=51) rfl (fun _ h_=>h_.elim) (.cons (t:=52) rfl (fun _ h_=>h_.elim) (.cons (t:=53) rfl (fun _ h_=>h_.elim) (.cons (t:=60) rfl (fun _ _ h_=>h_) (.cons (t:=999902) rfl (fun _ _ h_=>h_) .nil)))))))),hm.left,hout.congr fun u=>by rw [cnt_start hm (.refl _)]⟩ ?_
 rintro k2 a s ⟨rem,cur,out,hrk,hL,hleft,hout⟩ KM hKM;refine wp_seq_k fun K23 hK23=>?_;refine rg ?_;have hrs0:s0.w.heap.size≤r:=(hL.get 60 rfl).2.1;refine st_next (L':=[(0,Pd.ptr Efinder (d,some g)),(5,Pd.rep En.str (keyS t)),(8,Pd.map En.str kvStr En.SBranch s0.w.heap.size (some g8) out),(51,Pd.rep (En.slice (En.slice En.SItem)) (opn d t)),(52,Pd.rep (En.int .i64) ((opn d t).length:Int)),(53,Pd.rep (En.int .i64) (i:Int)),(999902,Pd.mapc En.str kvStr Efmp g ys2)]) 61 hL (x:=60) rfl rfl rfl rfl rfl (by decide)
  (.cons (t:=0) rfl (fun _ h_=>h_.elim) (.cons (t:=5) rfl (fun _ h_=>h_.elim) (.cons (t:=8) rfl (fun b hb e=>by cases hb;cases e;omega) (.cons (t:=51) rfl (fun _ h_=>h_.elim) (.cons (t:=52) rfl (fun _ h_=>h_.elim) (.cons (t:=53) rfl (fun _ h_=>h_.elim) (.cons (t:=999902) rfl (fun b hb e=>by cases hb;cases e;omega) .nil))))))) (fun a hrem hL=>?_) (fun a s p rem' hp hL=>?_)
 ·subst hrem;refine st 62 (t_nx (o_t 61 rfl) rfl rfl) rfl rfl hL fun a s e_ hL=>?_;refine en' ?_;show K23 a s.w;refine hK23 _ _ ?_;refine wp_seq_k fun K24 hK24=>?_;refine cnd hL rfl (fun hb3_=>by cases hb3_) (fun _=>?_);refine wp_exit ?_;refine J2 a s out (hL.keep (.cons (t:=0) rfl (fun _ h_=>h_.elim) (.cons (t:=5) rfl (fun _ h_=>h_.elim) (.cons (t:=8) rfl (fun _ _ h_=>h_) (.cons (t:=51) rfl (fun _ h_=>h_.elim) (.cons (t:=52) rfl (fun _ h_=>h_.elim) (.cons (t:=53) rfl (fun _ h_=>h_.elim) (.cons (t:=999902) rfl (fun _ _ h_=>h_) .nil)))))))) (hout.congr fun u=>by rw [cnt_nil])
 have hleft2:=hleft.perm hp;have hout2:zlu (cnt f c (p::rem')) out:=hout.congr fun u=>by rw [cnt_perm hp]
 obtain ⟨e1,e2,e3⟩:=hleft2.ent p (by simp);have hp2:1≤p.2.2∧p.2.2≤2:=by rw [e3];unfold sat;omega
 have hmg:0≤(zd4 out p.1 (([],0):SBranch)).2∧(zd4 out p.1 (([],0):SBranch)).2≤2:=by rw [e1,hout2.get];unfold sat;omega
 refine st 62 (t_nx (o_t 61 rfl) rfl rfl) rfl rfl hL fun a s e_ hL=>?_;refine en' ?_;show K23 a s.w;refine hK23 _ _ ?_;refine wp_seq_k fun K24 hK24=>?_;refine cnd hL rfl (fun _=>?_) (fun hb3_=>by cases hb3_);refine wp_skip ?_;show K24 a s.w;refine hK24 _ _ ?_;refine wp_block ?_;refine wp_seq_k fun K25 hK25=>?_;refine rg ?_;refine st 63 (t_entry (o_t 60 rfl) (zez Tryz.underlying9) rfl rfl) rfl rfl hL fun a s e_ hL=>?_;refine st 64 (zqd (o_t 63 rfl) rfl rfl) rfl rfl hL fun a s e_ hL=>?_;refine st 65 (zn2 (o_t 63 rfl) rfl rfl) rfl rfl hL fun a s e_ hL=>?_;have l8:=(zle (hL.get 8 rfl) g8 rfl).2;have lr:=hL.ilt 60 rfl r rfl;have lg:g<s.w.heap.size:=Nat.lt_of_lt_of_le hgs hL.ent.mv.size;refine zz En.SBranch (z:=(([],0):SBranch)) 12 hL zhp rfl rfl rfl rfl fun a s g12 hg12 hL=>?_;refine st 11 (zp (o_t 64 rfl) rfl rfl) rfl rfl hL fun a s e_ hL=>?_;refine zgs (L':=[(0,Pd.ptr Efinder (d,some g)),(5,Pd.rep En.str (keyS t)),(8,Pd.map En.str kvStr En.SBranch s0.w.heap.size (some g8) out),(11,Pd.rep En.str p.1),(51,Pd.rep (En.slice (En.slice En.SItem)) (opn d t)),(52,Pd.rep (En.int .i64) ((opn d t).length:Int)),(53,Pd.rep (En.int .i64) (i:Int)),(60,Pd.iter En.str kvStr En.SBranch s0.w.heap.size r rem' (some p)),(999902,Pd.mapc En.str kvStr Efmp g ys2)]) 12 hL rfl (o_t 65 rfl) ty155 rfl rfl rfl
  (.cons (t:=0) rfl (fun _ h_=>h_.elim) (.cons (t:=5) rfl (fun _ h_=>h_.elim) (.cons (t:=8) rfl (fun b hb e=>by cases hb;cases e;omega) (.cons (t:=11) rfl (fun _ h_=>h_.elim) (.cons (t:=51) rfl (fun _ h_=>h_.elim) (.cons (t:=52) rfl (fun _ h_=>h_.elim) (.cons (t:=53) rfl (fun _ h_=>h_.elim) (.cons (t:=60) rfl (fun b hb e=>by cases hb;cases e;omega) (.cons (t:=999902) rfl (fun b hb e=>by cases hb;cases e;omega) .nil))))))))) fun s hL=>?_
 refine en' ?_;show K25 a s.w;refine hK25 _ _ ?_;refine wp_seq_k fun K26 hK26=>?_;refine rg ?_;refine st 66 (zj (o_t 8 rfl) rfl rfl) rfl rfl hL fun a s e_ hL=>?_;refine st 67 (zj (o_t 11 rfl) rfl rfl) rfl rfl hL fun a s e_ hL=>?_;refine st 68 (zqc (z:=(([],0):SBranch)) (o_t 66 rfl) (o_t 67 rfl) Tryz.underlying213 (zez Tryz.underlying9) tyvBranch rfl rfl) rfl rfl hL fun a s e_ hL=>?_;have l8:=(zle (hL.get 8 rfl) g8 rfl).2;have lr:=hL.ilt 60 rfl r rfl;have lg:g<s.w.heap.size:=Nat.lt_of_lt_of_le hgs hL.ent.mv.size;have l12:=hL.blt 12 rfl g12 rfl;refine zz En.SBranch (z:=(([],0):SBranch)) 13 hL zhp rfl rfl rfl rfl fun a s g13 hg13 hL=>?_;refine zgs (L':=[(0,Pd.ptr Efinder (d,some g)),(5,Pd.rep En.str (keyS t)),(8,Pd.map En.str kvStr En.SBranch s0.w.heap.size (some g8) out),(11,Pd.rep En.str p.1),(12,Pd.box En.SBranch s0.w.heap.size g12 p.2),(51,Pd.rep (En.slice (En.slice En.SItem)) (opn d t)),(52,Pd.rep (En.int .i64) ((opn d t).length:Int)),(53,Pd.rep (En.int .i64) (i:Int)),(60,Pd.iter En.str kvStr En.SBranch s0.w.heap.size r rem' (some p)),(999902,Pd.mapc En.str kvStr Efmp g ys2)]) 13 hL rfl (o_t 68 rfl) ty155 rfl rfl rfl
  (.cons (t:=0) rfl (fun _ h_=>h_.elim) (.cons (t:=5) rfl (fun _ h_=>h_.elim) (.cons (t:=8) rfl (fun b hb e=>by cases hb;cases e;omega) (.cons (t:=11) rfl (fun _ h_=>h_.elim) (.cons (t:=12) rfl (fun b hb e=>by cases hb;cases e;omega) (.cons (t:=51) rfl (fun _ h_=>h_.elim) (.cons (t:=52) rfl (fun _ h_=>h_.elim) (.cons (t:=53) rfl (fun _ h_=>h_.elim) (.cons (t:=60) rfl (fun b hb e=>by cases hb;cases e;omega) (.cons (t:=999902) rfl (fun b hb e=>by cases hb;cases e;omega) .nil)))))))))) fun s hL=>?_
 refine en' ?_;show K26 a s.w;refine hK26 _ _ ?_;refine rg ?_;refine st 69 (zj (o_t 8 rfl) rfl rfl) rfl rfl hL fun a s e_ hL=>?_;refine st 70 (zj (o_t 11 rfl) rfl rfl) rfl rfl hL fun a s e_ hL=>?_;refine st 71 (zq5 (off:=0) (o_t 12 rfl) Tryz.underlying155 rfl (zx (zn _ _)) rfl ty77 rfl rfl) rfl rfl hL fun a s e_ hL=>?_;refine st 72 (zcr ty77 (o_t 71 rfl) rfl rfl) rfl rfl hL fun a s e_ hL=>?_;refine st 73 (zq5 (off:=1) (o_t 13 rfl) Tryz.underlying155 rfl (ze (zn _ _) rfl) rfl ty3 rfl rfl) rfl rfl hL fun a s e_ hL=>?_;refine st 74 (zcr ty3 (o_t 73 rfl) rfl rfl) rfl rfl hL fun a s e_ hL=>?_;refine st 75 (zq5 (off:=1) (o_t 12 rfl) Tryz.underlying155 rfl (ze (zn _ _) rfl) rfl ty3 rfl rfl) rfl rfl hL fun a s e_ hL=>?_;refine st 76 (zcr ty3 (o_t 75 rfl) rfl rfl) rfl rfl hL fun a s e_ hL=>?_;refine st 77 (zi6 (o_t 74 rfl) (o_t 76 rfl) (zi (by omega) (by omega)) rfl rfl) rfl rfl hL fun a s e_ hL=>?_;refine st 78 (t_min (o_t 77 rfl) (o_i (k:=.i64) (by decide)) rfl rfl) rfl rfl hL fun a s e_ hL=>?_;refine st 79 (zbj (x:=((p.2.1,min ((zd4 out p.1 (([],0):SBranch)).2+p.2.2) 2):SBranch)) (ps:=[(0,.tmp 72),(1,.tmp 78)]) zhp rfl stt155 (.cons (i:=0) (o_t 72 rfl) rfl (z7 (zo _ _ _)) (.cons (i:=1) (o_t 78 rfl) rfl (zk (zo _ _ _) rfl) .nil)) rfl rfl) rfl rfl hL fun a s e_ hL=>?_;refine zia (L':=[(0,Pd.ptr Efinder (d,some g)),(5,Pd.rep En.str (keyS t)),(8,Pd.map En.str kvStr En.SBranch s0.w.heap.size (some g8) (zf4 out p.1 (p.2.1,min ((zd4 out p.1 (([],0):SBranch)).2+p.2.2) 2))),(51,Pd.rep (En.slice (En.slice En.SItem)) (opn d t)),(52,Pd.rep (En.int .i64) ((opn d t).length:Int)),(53,Pd.rep (En.int .i64) (i:Int)),(60,Pd.iter En.str kvStr En.SBranch s0.w.heap.size r rem' (some p)),(999902,Pd.mapc En.str kvStr Efmp g ys2)]) hL (o_t 69 rfl) (o_t 70 rfl) (o_t 79 rfl) Tryz.underlying213 (zez Tryz.underlying9) (.inl rfl) rfl rfl
  (.cons (t:=0) rfl (fun _ h_=>h_.elim) (.cons (t:=5) rfl (fun _ h_=>h_.elim) (.turn (t:=8) rfl (.cons (t:=51) rfl (fun _ h_=>h_.elim) (.cons (t:=52) rfl (fun _ h_=>h_.elim) (.cons (t:=53) rfl (fun _ h_=>h_.elim) (.cons (t:=60) rfl (fun b hb e=>by cases hb;cases e;omega) (.cons (t:=999902) rfl (fun b hb e=>by cases hb;cases e;omega) .nil)))))))) fun s hL=>?_
 refine en' ?_;have hpl:=hp.length_eq;simp only [List.length_cons] at hpl;exact hKM (k2-1) a s (by omega) ⟨rem',some p,_,by omega,hL,hleft2.tail.1,cnt_step hleft2 hout2⟩
theorem find_ok {d:List SNode} (hd:ROk d) (hk:DOk d) (hl4:d.length≤400) (g:Nat) (hd0:∃n,at? d 0=some n):∀(h:Nat) (t:List SItem) (l:List (List SItem)),lv d h t=some l→Vs d 400 t→∀xs,InvS d xs→FndOk d g t xs
 | 0,t,l,hl,_,_,_=>by simp [lv] at hl
 | h+1,t,l,hl,hv,xs,hxs=>find_step hd hk hl4 g (find_ok hd hk hl4 g hd0 h) hd0 hl hv hxs
theorem lv_vs {d:List SNode} (hd:ROk d) {n0:Nat}:∀(h:Nat) (t:List SItem) (l:List (List SItem)),lv d h t=some l→Vs d n0 t→∀u∈l,Vs d n0 u∧rdy d u=true
 | 0,t,l,hl,_=>by simp [lv] at hl
 | h+1,t,l,hl,hv=>by
  intro u hu;unfold lv at hl
  by_cases hr:rdy d t=true
  ·rw [if_pos hr] at hl;cases hl;rw [List.mem_singleton.1 hu];exact ⟨hv,hr⟩
  ·rw [if_neg hr] at hl;obtain ⟨ls,h1,h2⟩:=Option.map_eq_some_iff.1 hl;subst h2;obtain ⟨l',hl',hu'⟩:=List.mem_flatten.1 hu;obtain ⟨i,hi⟩:=List.getElem?_of_mem hl';have hil:i<(opn d t).length:=by rw [← zni h1];exact (List.getElem?_eq_some_iff.1 hi).1
   obtain ⟨b,hb1,hb2⟩:=zry h1 hil;rw [hi] at hb2;cases hb2;exact lv_vs hd h _ _ hb1 (hv.opn hd (by simpa using hr) _ (List.getElem_mem hil)) u hu'
theorem zhl {d_:SDesc} {s_:List SItem} {r_:List SBranch} (hh:zfp d_ s_ r_):Fn Tryz.prog 101 [Pd.rep En.SDesc d_,Pd.rep (En.slice En.SItem) s_] (Ro En.SBranch 155 r_):=by
 obtain ⟨hd,hk,hl4,hne,hf,hs4,hr31,h,l,hl,hcan⟩:=hh;have hv:Vs d_ 400 s_:=Vs.start hf hs4;refine zbn Tryz.func101 rfl Tryz.ntmps101 (by rfl) (by simp) fun s0 a hL=>?_;refine wp_seq_k fun K0 hK0=>?_;refine rg ?_;refine st 2 (zgd (o_t 0 rfl) rfl rfl) rfl rfl hL fun a s e_ hL=>?_;refine st 4 (zp (q:=Pd.any) (fun _ _ _ _ _ _=>trivial) rfl rfl) rfl rfl hL fun a s e_ hL=>?_;refine en' ?_;show K0 a s.w;refine hK0 _ _ ?_;refine wp_seq_k fun K1 hK1=>?_;refine rg ?_;refine st 9 (zw ty24 (o_t 2 rfl) rfl rfl) rfl rfl hL fun a s e_ hL=>?_;refine zjv 10 En.str kvStr Efmp hL rfl rfl rfl rfl fun a s g hg hL=>?_;have hgN:s0.w.heap.size≤g:=(zle (hL.get 10 rfl) g rfl).1;have hL:=hL.mapc 10 999902 rfl;refine st 11 (zbj (x:=((d_,some g):SDesc × Option Nat)) (ps:=[(0,.tmp 9),(1,.tmp 10)]) tyzFinder rfl sttFinder (.cons (i:=0) (o_t 9 rfl) rfl (z7 (zo _ _ _)) (.cons (i:=1) (o_t 10 rfl) rfl (zk (zo _ _ _) rfl) .nil)) rfl rfl) rfl rfl hL fun a s e_ hL=>?_;refine st 12 (zgd (o_t 11 rfl) rfl rfl) rfl rfl hL fun a s e_ hL=>?_;refine st 5 (zp (o_t 12 rfl) rfl rfl) rfl rfl hL fun a s e_ hL=>?_;refine en' ?_;show K1 a s.w;refine hK1 _ _ ?_;refine wp_seq_k fun K2 hK2=>?_;refine rg ?_;refine st 6 (zp (o_nil (E:=En.SBranch) (N:=s0.w.heap.size) (te:=155)) rfl rfl) rfl rfl hL fun a s e_ hL=>?_;refine en' ?_;show K2 a s.w;refine hK2 _ _ ?_;refine wp_seq_k fun K3 hK3=>?_;refine wp_seq_k fun K4 hK4=>?_;refine rg ?_;refine st 13 (zj (o_t 5 rfl) rfl rfl) rfl rfl hL fun a s e_ hL=>?_;refine st 14 (zj (o_t 1 rfl) rfl rfl) rfl rfl hL fun a s e_ hL=>?_
 have hd0:∃n,at? d_ 0=some n:=by
  cases d_ with
  | nil=>exact absurd rfl hne
  | cons n d=>exact ⟨n,rfl⟩
 refine zib (L':=[(6,Pd.row En.SBranch s0.w.heap.size 155 none [])]) 15 999902 hL (find_ok hd hk hl4 g hd0 h s_ l hl hv [] (InvS.nil _)) rfl (.inr hgN) (zs:=[.tmp 13,.tmp 14]) (.cons (o_t 13 rfl) (.cons (o_t 14 rfl) .nil)) rfl rfl rfl rfl
  (.cons (t:=6) rfl no_own .nil) fun a s im him hL=>?_
 obtain ⟨m,ys2⟩:=im;obtain ⟨⟨h2,l2,hl2,hm⟩,hys2⟩:=him;simp only at hl2 hm hys2;have hl2e:l2=l:=by
  have h3:=zjk (Nat.le_max_left h2 h) hl2;have h4:=zjk (Nat.le_max_right h2 h) hl;rw [h3] at h4;exact Option.some.inj h4
 subst hl2e;refine st_range 16 hL (o_t 15 rfl) Tryz.underlying213 rfl rfl rfl rfl fun a s r hr hL=>?_;refine en' ?_;show K4 a s.w;refine hK4 _ _ ?_;refine wp_block ?_;have J:∀(a:Act) (s:St) (og:Option Nat) (out:List SBranch),Has N0 28 s0 a s [(6,Pd.row En.SBranch s0.w.heap.size 155 og out)]→out.Perm (m.map (·.2))→K3 a s.w:=by
  intro a s og out hL hp;obtain ⟨hnd,hc2⟩:=hm.can hp;have hrr:r_=srtB out:=hcan.uniq hc2;have hlen:out.length≤2147483648:=by
   have:=(zgt out).length_eq;rw [hrr] at hr31;omega
  have hsrt:zg3 out r_:=by
   refine ⟨hnd,fun b hb=>?_,hlen,hrr⟩;obtain ⟨p,hp1,hp2⟩:=List.mem_map.1 (hp.mem_iff.1 hb);obtain ⟨k,b'⟩:=p;simp only at hp2;subst hp2;have hc:=((hm.mem k _).1 hp1).2.1;have hmem:b'.1∈l2:=by
    rcases Nat.eq_zero_or_pos (l2.count b'.1) with h0 | h0
    ·exact absurd h0 hc
    ·exact List.count_pos_iff.1 h0
   have:=(lv_vs hd h s_ l2 hl hv _ hmem).1.len;omega
  refine hK3 _ _ ?_;refine wp_seq_k fun K7 hK7=>?_;refine rg ?_;refine st 25 (zj (o_t 6 rfl) rfl rfl) rfl rfl hL fun a s e_ hL=>?_;refine zjw (L':=[(6,Pd.row En.SBranch s0.w.heap.size 155 og r_)]) 26 (fun v0=>zja v0 hsrt) hL (o_t 25 rfl) (zs:=[.func 124]) (.cons o_isf .nil) rfl rfl rfl rfl (.turn (t:=6) rfl .nil) fun a s hL=>?_;refine en' ?_;show K7 a s.w;refine hK7 _ _ ?_;refine wp_seq_k fun K8 hK8=>?_;refine rg ?_;refine st 27 (zj (o_t 6 rfl) rfl rfl) rfl rfl hL fun a s e_ hL=>?_;refine st 4 (zp (o_t 27 rfl) rfl rfl) rfl rfl hL fun a s e_ hL=>?_;refine en' ?_;show K8 a s.w;refine hK8 _ _ ?_;exact wp_ret (zf3 rfl hL rfl)
 have hmlen:m.length≤2147483648:=by
  have hp:=(hm.can (List.Perm.refl (m.map (·.2)))).2;have e:=hcan.uniq hp;have:=(zgt (m.map (·.2))).length_eq;rw [e] at hr31;rw [List.length_map] at this;omega
 refine lpg (fun k a s=>∃(rem:List (Str × SBranch)) (cur:Option (Str × SBranch)) (og:Option Nat) (out:List SBranch),rem.length+1=k∧Has N0 28 s0 a s [(6,Pd.row En.SBranch s0.w.heap.size 155 og out),(16,Pd.iter En.str kvStr En.SBranch s0.w.heap.size r rem cur)]∧(∀b,og=some b→¬ some r=some b)∧(out++rem.map (·.2)).Perm (m.map (·.2)))
  (m.length+1) ⟨m,none,none,[],rfl,hL.keep (.cons (t:=6) rfl (fun _ _ h_=>h_) (.cons (t:=16) rfl (fun _ _ h_=>h_) .nil)),(fun b hb=>by cases hb),by simp⟩ ?_
 rintro k a s ⟨rem,cur,og,out,hrk,hL,hdis,hperm⟩ KL hKL;refine wp_seq_k fun K5 hK5=>?_;refine rg ?_;refine st_next (L':=[(6,Pd.row En.SBranch s0.w.heap.size 155 og out)]) 17 hL (x:=16) rfl rfl rfl rfl rfl (by decide) (.cons (t:=6) rfl hdis .nil) (fun a hrem hL=>?_) (fun a s p rem' hp hL=>?_)
 ·subst hrem;refine st 18 (t_nx (o_t 17 rfl) rfl rfl) rfl rfl hL fun a s e_ hL=>?_;refine en' ?_;show K5 a s.w;refine hK5 _ _ ?_;refine wp_seq_k fun K6 hK6=>?_;refine cnd hL rfl (fun hb3_=>by cases hb3_) (fun _=>?_);refine wp_exit ?_;exact J a s og out (hL.keep (.cons (t:=6) rfl (fun _ _ h_=>h_) .nil)) (by simpa using hperm)
 refine st 18 (t_nx (o_t 17 rfl) rfl rfl) rfl rfl hL fun a s e_ hL=>?_;refine en' ?_;show K5 a s.w;refine hK5 _ _ ?_;refine wp_seq_k fun K6 hK6=>?_;refine cnd hL rfl (fun _=>?_) (fun hb3_=>by cases hb3_);refine wp_skip ?_;show K6 a s.w;refine hK6 _ _ ?_;refine wp_block ?_;refine wp_seq_k fun K9 hK9=>?_;refine rg ?_;refine st 19 (t_entry (o_t 16 rfl) (zez Tryz.underlying9) rfl rfl) rfl rfl hL fun a s e_ hL=>?_;refine st 20 (zn2 (o_t 19 rfl) rfl rfl) rfl rfl hL fun a s e_ hL=>?_;have l6:=hL.rlt 6 rfl;have lr:=hL.ilt 16 rfl r rfl;refine zz En.SBranch (z:=(([],0):SBranch)) 8 hL zhp rfl rfl rfl rfl fun a s g8 hg8 hL=>?_;have d6:∀b,og=some b→¬ some g8=some b:=fun b hb e=>by cases e;have:=l6 g8 hb;omega
 refine zgs (L':=[(6,Pd.row En.SBranch s0.w.heap.size 155 og out),(16,Pd.iter En.str kvStr En.SBranch s0.w.heap.size r rem' (some p))]) 8 hL rfl (o_t 20 rfl) ty155 rfl rfl rfl (.cons (t:=6) rfl d6 (.cons (t:=16) rfl (fun b hb e=>by cases hb;cases e;omega) .nil)) fun s hL=>?_;refine en' ?_;show K9 a s.w;refine hK9 _ _ ?_;refine rg ?_;have hpl:=hp.length_eq;simp only [List.length_cons] at hpl;have hol:out.length+(rem.length:Nat)=m.length:=by
  have:=hperm.length_eq;simpa using this
 refine st 21 (zj (o_t 6 rfl) rfl rfl) rfl rfl hL fun a s e_ hL=>?_;refine st 22 (zgo ty155 (o_t 8 rfl) rfl rfl) rfl rfl hL fun a s e_ hL=>?_;refine st 23 (zn1 (xs:=[.tmp 22]) (.cons (o_t 22 rfl) .nil) Tryz.underlying152 ty155 rfl rfl (by decide) rfl rfl) rfl rfl hL fun a s e_ hL=>?_;have lr:=hL.ilt 16 rfl r rfl;refine zdx (L':=[(16,Pd.iter En.str kvStr En.SBranch s0.w.heap.size r rem' (some p))]) 24 hL (o_t 21 rfl) (o_t 23 rfl) Tryz.underlying152 ty155 (by simp;omega) rfl rfl rfl rfl (.cons (t:=16) rfl (fun b hb e=>hdis b e hb) .nil) fun a s og' hg' hL=>?_;refine st 6 (zp (o_t 24 rfl) rfl rfl) rfl rfl hL fun a s e_ hL=>?_;refine en' ?_;refine hKL (k-1) a s (by omega) ⟨rem',some p,og',out++[p.2],by omega,hL.keep (.cons (t:=6) rfl (fun _ _ h_=>h_) (.cons (t:=16) rfl (fun _ _ h_=>h_) .nil)),fun b hb e=>?_, ?_⟩
 ·rcases hg' b hb with h3 | h3
  ·exact hdis b h3 e
  ·cases e;omega
 ·refine List.Perm.trans ?_ hperm;have h5:=hp.map (·.2);rw [List.map_cons] at h5;rw [List.append_assoc,List.singleton_append];exact (h5.symm.append_left out)
open Go.Shelf Go.Sort
theorem zl0 (v0:Value) {x r:List SBranch} (h:zkh x r):Fm Tryz.prog 109 (fun b=>v0.ownBlock=some b) [Pd.prow En.SBranch 155 v0 x,Pd.is (.func (.func 110) #[] #[])] (fun _ s' _=>(Pd.prow En.SBranch 155 v0 r).p s' v0):=fm_branch (ze1 Tryz.func110 rfl (by rfl)) h.1 h.2.2.1 h.2.2.2 (fun a ha b hb=>@next_On_1_ok true dLe _ _ _ ⟨_,zeh (h.2.1 a ha),rfl⟩) v0
end Go.Proofs.YtjdaaiodniicoaaGreatDoor.V
namespace Go.Proofs.YtjdaaiodniicoaaGreatDoor.V
open Go
set_option linter.unusedVariables false
set_option maxRecDepth 100000
set_option maxHeartbeats 2000000
set_option synthInstance.maxSize 100000
set_option synthInstance.maxHeartbeats 200000
theorem zlc {nv_:SNode} {ahead_:Int} {r_:(List SItem)} (h:zj2 nv_ ahead_ r_):Fn Tryz.prog 240 [(Pd.rep En.SNode nv_),(Pi ahead_)] (Ro En.SItem 126 r_):=by
 unfold zj2 at h;refine zbn Tryz.func240 J Tryz.ntmps240 (by rfl) (by simp) fun s0 a L=>?_;refine rs (sA 1 L fun a s L=>?_);refine sno En.SItem 126 L fun a s L=>?_;refine es (rs ?_);refine sA 2 L fun a s L=>?_;refine sv (zbj (x:=(1,nv_.2.1,0,0)) (ps:=[(0,.const (.int .i64 1)),(1,.tmp 6)]) zga J zmm (.cons (i:=0) op J (z7 (zo _ _ _)) (.cons (i:=1) op J (zk (z7 (zo _ _ _)) J) .nil)) J J) L fun a s L=>?_;refine sA 1 L fun a s L=>?_;refine sv (zbj (x:=(5,0,ahead_,0)) (ps:=[(0,.const (.int .i64 5)),(2,.tmp 8)]) zga J zmm (.cons (i:=0) op J (z7 (zo _ _ _)) (.cons (i:=2) op J (zk (zk (z7 (zo _ _ _)) J) J) .nil)) J J) L fun a s L=>?_;refine zf5 (xs:=[.tmp 7,.tmp 9]) 10 L (.cons op (.cons op .nil)) Ud.h Tq.h J J (by decide) J J J J fun a s g1 hg_ L=>?_;refine sA 1 L fun a s L=>?_;refine es ?_;subst h;exact wp_ret (zf3 J L J)
theorem zl9 {s_:Sstep_next} {r_:((List SItem) × Bool)} (h:zhi s_ r_):Fn Tryz.prog 238 [(Pd.rep En.Sstep_next s_)] (Ro2 En.SItem 126 r_.1 (Pd.rep En.bool r_.2)):=by
 unfold zhi at h;refine zbn Tryz.func238 J Tryz.ntmps238 (by rfl) (by simp) fun s0 a L=>?_;refine rs (sA 1 L fun a s L=>?_);refine sno En.SItem 126 L fun a s L=>?_;refine sA 1 L fun a s L=>?_;refine es (wp_seq_k fun K1 H1=>?_);refine rA 3 L fun a s L=>?_;refine wp_block (rA 2 L fun a s L=>?_);refine cn L h (fun h=>?_) fun h=>?_
 ·obtain ⟨r2,h3,h⟩:=h;refine rs (sA 5 L fun a s L=>?_);refine zcs 14 L (zlc h3) opz J J J J fun a s og4 hg_ L=>?_;refine sA 2 L fun a s L=>?_;refine es ?_;subst h;exact wp_ret (zm2 J L J J)
 ·refine rA 2 L fun a s L=>?_;refine cn L h (fun h=>?_) fun h=>?_
  ·refine rs ?_;refine sA 6 L fun a s L=>?_;refine sv (zbj (x:=(4,s_.2.1.2.1,s_.2.2,0)) (ps:=[(0,.const (.int .i64 4)),(1,.tmp 19),(2,.tmp 22)]) zga J zmm (.cons (i:=0) op J (z7 (zo _ _ _)) (.cons (i:=1) op J (zk (z7 (zo _ _ _)) J) (.cons (i:=2) op J (zk (zk (z7 (zo _ _ _)) J) J) .nil))) J J) L fun a s L=>?_;refine zf5 (xs:=[.tmp 23]) 24 L (.cons op .nil) Ud.h Tq.h J J (by decide) J J J J fun a s g5 hg_ L=>?_;refine sA 2 L fun a s L=>?_;refine es ?_;subst h;exact wp_ret (zm2 J L J J)
  ·refine wp_skip (H1 _ _ ?_);obtain ⟨r6,h7,h⟩:=h;refine rs (sl 6 (p1 (zjr h7)) L fun a s L=>?_);refine sno En.SItem 126 L fun a s L=>?_;refine sA 1 L fun a s L=>?_;refine es ?_;subst h;exact wp_ret (zm2 J L J J)
theorem zl8 {s_:Sstep_next} {r_:((List SItem) × Bool)} (h:zhh s_ r_):Fn Tryz.prog 239 [(Pd.rep En.Sstep_next s_)] (Ro2 En.SItem 126 r_.1 (Pd.rep En.bool r_.2)):=by
 unfold zhh at h;refine zbn Tryz.func239 J Tryz.ntmps239 (by rfl) (by simp) fun s0 a L=>?_;refine rs (sA 1 L fun a s L=>?_);refine sno En.SItem 126 L fun a s L=>?_;refine sA 1 L fun a s L=>?_;refine es (rs ?_);refine sA 2 L fun a s L=>?_;refine zz En.SItem (z:=(0,0,0,0)) 4 L zga J J J J fun a s g1 hg_ L=>?_;refine sB 4 L fun s L=>?_;refine es ?_;obtain ⟨h2,h⟩:=h;refine rs (sA 4 L fun a s L=>?_);refine zex 4 L J op op (zk (zk (z7 (zo _ _ _)) J) J) Tq.h J J J ka fun s L=>?_;refine es (wp_seq_k fun K3 H3=>?_);obtain ⟨b4,h5,h⟩:=h;refine ra 7 (p1 h5) L fun a s L=>?_;refine cn L h (fun h=>?_) fun h=>?_
 ·obtain ⟨c6,h7,h⟩:=h;refine wp_seq ?_;replace L:=L.kk (L':=[(1,(Pd.ptr En.Sstep_next s_))]);refine rda zck 12 [(Pd.ptr En.SNode s_.1),(Pd.ptr En.str s_.1.2.2.2.2.2.2),(Pd.rep En.str s_.1.2.2.2.2.2.2),(Pd.ptr En.SItem s_.2.1),(Pd.ptr (En.int .i64) s_.2.1.2.2.1),(Pi s_.2.1.2.2.1),(Pd.rep (En.int .u8) c6),(Pd.ptr (En.int .u8) s_.2.2),(Pd.rep (En.int .u8) s_.2.2),(Pd.rep En.bool (c6==s_.2.2)),(Pd.row En.SItem s0.w.heap.size 126 none ([]:(List SItem))),(Pd.rep En.bool (c6==s_.2.2))] L (by kernel_rfl) J J ?_ ?_
  ·refine zbe.cons (zdb (off:=0) (O 1 J) U225 J (zx (zn _ _)) J ty42 J J) ?_;refine zbe.cons (zdb (off:=9) (O 18 J) U42 J (ze (ze (ze (ze (ze (ze (zn _ _) J) J) J) J) J) J) J ty9 J J) ?_;refine zbe.cons (zw ty9 (O 19 J) J J) ?_;refine zbe.cons (zdb (off:=10) (O 1 J) U225 J (ze (zx (zn _ _)) J) J zi0 J J) ?_;refine zbe.cons (zdb (off:=2) (O 21 J) U126 J (ze (ze (zx (zn _ _)) J) J) J ty3 J J) ?_;refine zbe.cons (zw ty3 (O 22 J) J J) ?_;refine zbe.cons (t_sidx (O 20 J) (O 23 J) h7 U9 J J) ?_;refine zbe.cons (zdb (off:=14) (O 1 J) U225 J (ze (ze (zn _ _) J) J) J ty5 J J) ?_;refine zbe.cons (zw ty5 (O 25 J) J J) ?_;refine zbe.cons (zgp (O 24 J) (O 26 J) J J) ?_;refine zbe.cons (zp (o_nil (E:=En.SItem) (N:=s0.w.heap.size) (te:=126)) J J) ?_;refine zbe.cons (zp (O 27 J) J J) ?_;exact zbe.nil
  intro a s _ L;replace L:=L.kk (L':=[(2,(Pd.row En.SItem s0.w.heap.size 126 none ([]:(List SItem)))),(3,(Pd.rep En.bool (c6==s_.2.2)))]);refine dp ?_;refine es ?_;subst h;exact wp_ret (zm2 J L J J)
 ·refine wp_skip (H3 _ _ ?_);obtain ⟨c10,h11,h⟩:=h;refine wp_seq ?_;obtain ⟨K8,H8,nK8,L⟩:=L.mark 999983;have lt9:∀k,(some g1)=some k→k<K8:=by rw [H8];exact L.blt 4 rfl
  replace L:=L.kk (L':=[(999983,Pd.ge K8),(1,(Pd.ptr En.Sstep_next s_)),(4,(Pd.box En.SItem s0.w.heap.size g1 (s_.2.1.1,s_.2.1.2.1,s_.2.1.2.2.1+1,s_.2.1.2.2.2)))]);refine rda zck 14 [(Pd.rep En.SItem (s_.2.1.1,s_.2.1.2.1,s_.2.1.2.2.1+1,s_.2.1.2.2.2)),(Pd.erow En.SItem s0.w.heap.size K8 126 [(s_.2.1.1,s_.2.1.2.1,s_.2.1.2.2.1+1,s_.2.1.2.2.2)]),(Pd.ptr En.SNode s_.1),(Pd.ptr En.str s_.1.2.2.2.2.2.2),(Pd.rep En.str s_.1.2.2.2.2.2.2),(Pd.ptr En.SItem s_.2.1),(Pd.ptr (En.int .i64) s_.2.1.2.2.1),(Pi s_.2.1.2.2.1),(Pd.rep (En.int .u8) c10),(Pd.ptr (En.int .u8) s_.2.2),(Pd.rep (En.int .u8) s_.2.2),(Pd.rep En.bool (c10==s_.2.2)),(Pd.erow En.SItem s0.w.heap.size K8 126 [(s_.2.1.1,s_.2.1.2.1,s_.2.1.2.2.1+1,s_.2.1.2.2.2)]),(Pd.rep En.bool (c10==s_.2.2))] L (by kernel_rfl) J J ?_ ?_
  ·refine zbe.cons (zgo zi0 (O 4 J) J J) ?_;refine zbe.cons (t_litx (xs:=[.tmp 28]) (K:=K8) (m:=999983) J nK8 (.cons (O 28 J) .nil) U76 zi0 J J (by decide) J J) ?_;refine zbe.cons (zdb (off:=0) (O 1 J) U225 J (zx (zn _ _)) J ty42 J J) ?_;refine zbe.cons (zdb (off:=9) (O 30 J) U42 J (ze (ze (ze (ze (ze (ze (zn _ _) J) J) J) J) J) J) J ty9 J J) ?_;refine zbe.cons (zw ty9 (O 31 J) J J) ?_;refine zbe.cons (zdb (off:=10) (O 1 J) U225 J (ze (zx (zn _ _)) J) J zi0 J J) ?_;refine zbe.cons (zdb (off:=2) (O 33 J) U126 J (ze (ze (zx (zn _ _)) J) J) J ty3 J J) ?_;refine zbe.cons (zw ty3 (O 34 J) J J) ?_;refine zbe.cons (t_sidx (O 32 J) (O 35 J) h11 U9 J J) ?_;refine zbe.cons (zdb (off:=14) (O 1 J) U225 J (ze (ze (zn _ _) J) J) J ty5 J J) ?_;refine zbe.cons (zw ty5 (O 37 J) J J) ?_;refine zbe.cons (zgp (O 36 J) (O 38 J) J J) ?_;refine zbe.cons (zp (O 29 J) J J) ?_;refine zbe.cons (zp (O 39 J) J J) ?_;exact zbe.nil
  intro a s _ L;obtain ⟨og12,hg_,L⟩:=L.openr 2 rfl;have d13:=Dis.new hg_ lt9;replace L:=L.kk (L':=[(2,(Pd.row En.SItem s0.w.heap.size 126 og12 [(s_.2.1.1,s_.2.1.2.1,s_.2.1.2.2.1+1,s_.2.1.2.2.2)])),(3,(Pd.rep En.bool (c10==s_.2.2)))]);refine dp ?_;refine es ?_;subst h;exact wp_ret (zm2 J L J J)
theorem zma {s_:Sstep_next} {r_:((List SItem) × Bool)} (h:zhj s_ r_):Fn Tryz.prog 236 [(Pd.rep En.Sstep_next s_)] (Ro2 En.SItem 126 r_.1 (Pd.rep En.bool r_.2)):=by
 unfold zhj at h;refine zbn Tryz.func236 J Tryz.ntmps236 (by rfl) (by simp) fun s0 a L=>?_;refine rs (sA 1 L fun a s L=>?_);refine sno En.SItem 126 L fun a s L=>?_;refine sA 1 L fun a s L=>?_;refine es ?_;obtain ⟨h1,h2,r3,h4,h⟩:=h;refine rs (sA 10 L fun a s L=>?_);refine zcs 14 L (zlc h4) opz J J J J fun a s og5 hg_ L=>?_;refine sA 2 L fun a s L=>?_;refine es ?_;subst h;exact wp_ret (zm2 J L J J)
theorem dyn0_ok {f_:Option Nat} {x0_:Sstep_next} {r_:((List SItem) × Bool)} (h:dyn0 f_ x0_ r_):∃f,f_=some f∧Fn Tryz.prog f [Pd.rep En.Sstep_next x0_] (Rq (Pd.tup2 (Pd.rep (En.slice En.SItem) r_.1) (Pd.rep En.bool r_.2))):=by
 rcases h with ⟨e,h⟩ | ⟨e,h⟩ | ⟨e,h⟩
 ·exact ⟨238,e,((zl9 h).frz2 (Pd.rep_stable _ _)).tup⟩
 ·exact ⟨239,e,((zl8 h).frz2 (Pd.rep_stable _ _)).tup⟩
 ·exact ⟨236,e,((zma h).frz2 (Pd.rep_stable _ _)).tup⟩
theorem next_Read_ok {d_:SDesc} {s_:(List SItem)} {cv_:Int} {r_:((List SItem) × Bool)} (h:zld d_ s_ cv_ r_):Fn Tryz.prog 108 [(Pd.rep En.SDesc d_),(Pd.rep (En.slice En.SItem) s_),(Pd.rep (En.int .u8) cv_)] (Ro2 En.SItem 126 r_.1 (Pd.rep En.bool r_.2)):=by
 unfold zld at h;refine zbn Tryz.func108 J Tryz.ntmps108 (by rfl) (by simp) fun s0 a L=>?_;refine rs (sA 1 L fun a s L=>?_);refine sno En.SItem 126 L fun a s L=>?_;refine sA 1 L fun a s L=>?_;refine es (wp_seq_k fun K1 H1=>?_);refine rA 3 L fun a s L=>?_;refine cn L h (fun h=>?_) fun h=>?_
 ·refine rs ?_;refine sno En.SItem 126 L fun a s L=>?_;refine sA 1 L fun a s L=>?_;refine es ?_;subst h;exact wp_ret (zm2 J L J J)
 ·refine wp_skip (H1 _ _ ?_);obtain ⟨h2,r3,h4,h⟩:=h;refine ra 8 (pp (((zr6 h4).frz2 (Pd.rep_stable _ _)).tup) trivial) L fun a s L=>?_;obtain ⟨e5,h6,h⟩:=h;refine wp_seq (rda zck 11 [(Pd.rep (En.fmap (En.int .i64) kvI64 En.fid) gfm0),(Pd.rep (En.slice En.SItem) s_),(Pd.ptr En.SItem e5),(Pd.ptr (En.int .i64) e5.1),(Pi e5.1),(Pd.tup2 (Pd.rep En.fid (zd4 gfm0 e5.1 none)) (Pd.rep En.bool (zha gfm0 e5.1))),(Pd.tup2 (Pd.rep En.fid (zd4 gfm0 e5.1 none)) (Pd.rep En.bool (zha gfm0 e5.1))),(Pd.rep En.fid (zd4 gfm0 e5.1 none)),(Pd.rep En.bool (zha gfm0 e5.1)),(Pd.rep En.fid (zd4 gfm0 e5.1 none)),(Pd.rep En.bool (zha gfm0 e5.1))] L (by kernel_rfl) J J ?_ ?_)
  ·refine zbe.cons (zw (⟨⟨_,_,J,J,J,J,by decide⟩,_,J,J⟩:Ty Tryz.prog 222 (En.fmap (En.int .i64) kvI64 En.fid)) (o_gm (g:=0) (l:=gfm0) (by simp [gmap])) J J) ?_;refine zbe.cons (zj (O 1 J) J J) ?_;refine zbe.cons (zkb (O 25 J) oI h6 U77 zi0 J J) ?_;refine zbe.cons (zdb (off:=0) (O 26 J) U126 J (zx (zn _ _)) J ty3 J J) ?_;refine zbe.cons (zw ty3 (O 27 J) J J) ?_;refine zbe.cons (t_mgetfok (z:=none) (O 24 J) (O 28 J) U222 (key_i64 U3) (⟨_,[.nilFunc],J,by rfl,fun _ _=>J⟩:TyV Tryz.prog 220 En.fid none) J J) ?_;refine zbe.cons (zj (O 29 J) J J) ?_;refine zbe.cons (zqd (O 23 J) J J) ?_;refine zbe.cons (zn2 (O 23 J) J J) ?_;refine zbe.cons (zp (O 30 J) J J) ?_;refine zbe.cons (zp (O 31 J) J J) ?_;exact zbe.nil
  intro a s _ L;replace L:=L.kk (L':=[(1,(Pd.rep (En.slice En.SItem) s_)),(2,(Pd.rep (En.int .u8) cv_)),(3,(Pd.ptr En.SDesc d_)),(8,(Pd.rep (En.slice En.SItem) r3.1)),(9,(Pd.rep En.bool r3.2)),(10,(Pd.rep En.fid (zd4 gfm0 e5.1 none))),(11,(Pd.rep En.bool (zha gfm0 e5.1)))]);refine dp ?_;refine es (wp_seq_k fun K7 H7=>?_);refine rA 6 L fun a s L=>?_;refine cn L h (fun h=>?_) fun h=>?_
  ·refine rs ?_;refine sno En.SItem 126 L fun a s L=>?_;refine sA 1 L fun a s L=>?_;refine es ?_;subst h;exact wp_ret (zm2 J L J J)
  ·refine wp_skip (H7 _ _ ?_);obtain ⟨e8,h9,e10,h11,e12,h13,r14,h15,h⟩:=h;refine wp_seq (rda zck 20 [(Pd.rep En.fid (zd4 gfm0 e5.1 none)),(Pd.ptr (En.slice En.SNode) d_),(Pd.rep (En.slice En.SNode) d_),(Pd.rep (En.slice En.SItem) s_),(Pd.ptr En.SItem e8),(Pd.ptr (En.int .i64) e8.2.1),(Pi e8.2.1),(Pd.ptr En.SNode e10),(Pd.rep En.SNode e10),(Pd.rep (En.slice En.SItem) s_),(Pd.ptr En.SItem e12),(Pd.rep En.SItem e12),(Pd.rep (En.int .u8) cv_),(Pd.rep En.Sstep_next (e10,e12,cv_)),(Pd.tup2 (Pd.rep (En.slice En.SItem) r14.1) (Pd.rep En.bool r14.2)),(Pd.tup2 (Pd.rep (En.slice En.SItem) r14.1) (Pd.rep En.bool r14.2)),(Pd.rep (En.slice En.SItem) r14.1),(Pd.rep En.bool r14.2),(Pd.rep (En.slice En.SItem) r14.1),(Pd.rep En.bool r14.2)] L (by kernel_rfl) J J ?_ ?_)
   ·refine zbe.cons (zj (O 10 J) J J) ?_;refine zbe.cons (zdb (off:=0) (O 3 J) U24 J (zfv (zn _ _)) J ty22 J J) ?_;refine zbe.cons (zw ty22 (O 40 J) J J) ?_;refine zbe.cons (zj (O 1 J) J J) ?_;refine zbe.cons (zkb (O 42 J) oI h9 U77 zi0 J J) ?_;refine zbe.cons (zdb (off:=1) (O 43 J) U126 J (ze (zx (zn _ _)) J) J ty3 J J) ?_;refine zbe.cons (zw ty3 (O 44 J) J J) ?_;refine zbe.cons (zkb (O 41 J) (O 45 J) h11 U22 ty42 J J) ?_;refine zbe.cons (zw ty42 (O 46 J) J J) ?_;refine zbe.cons (zj (O 1 J) J J) ?_;refine zbe.cons (zkb (O 48 J) oI h13 U77 zi0 J J) ?_;refine zbe.cons (zw zi0 (O 49 J) J J) ?_;refine zbe.cons (zj (O 2 J) J J) ?_;refine zbe.cons (zbj (x:=(e10,e12,cv_)) (ps:=[(0,.tmp 47),(1,.tmp 50),(2,.tmp 51)]) tyz225 J stt225 (.cons (i:=0) (O 47 J) J (z7 (zo _ _ _)) (.cons (i:=1) (O 50 J) J (zk (z7 (zo _ _ _)) J) (.cons (i:=2) (O 51 J) J (zk (zk (zo _ _ _) J) J) .nil))) J J) ?_;refine zbe.cons (t_callid (dyn0_ok h15) (O 39 J) (xs:=[.tmp 52]) (.cons (O 52 J) .nil) J J) ?_;refine zbe.cons (zj (O 53 J) J J) ?_;refine zbe.cons (zqd (O 38 J) J J) ?_;refine zbe.cons (zn2 (O 38 J) J J) ?_;refine zbe.cons (zp (O 54 J) J J) ?_;refine zbe.cons (zp (O 55 J) J J) ?_;exact zbe.nil
   intro a s _ L;replace L:=L.kk (L':=[(8,(Pd.rep (En.slice En.SItem) r3.1)),(12,(Pd.rep (En.slice En.SItem) r14.1)),(13,(Pd.rep En.bool r14.2))]);refine dp ?_;refine es (wp_seq_k fun K16 H16=>?_);refine rA 2 L fun a s L=>?_;refine cn L h (fun h=>?_) fun h=>?_
   ·refine rs ?_;refine sno En.SItem 126 L fun a s L=>?_;refine sA 1 L fun a s L=>?_;refine es ?_;subst h;exact wp_ret (zm2 J L J J)
   ·refine wp_skip (H16 _ _ ?_);obtain ⟨r17,h18,h⟩:=h;refine rs (sA 3 L fun a s L=>?_);refine zcs 61 L (zde h18) opz J J J J fun a s og19 hg_ L=>?_;refine sA 2 L fun a s L=>?_;refine es ?_;subst h;exact wp_ret (zm2 J L J J)
theorem zqr {d_:SDesc} {s_:(List SItem)} {cv_:Int} {r_:(List SBranch)} (h:zbo d_ s_ cv_ r_):Fn Tryz.prog 87 [(Pd.rep En.SDesc d_),(Pd.rep (En.slice En.SItem) s_),(Pd.rep (En.int .u8) cv_)] (Ro En.SBranch 155 r_):=by
 unfold zbo at h;refine zbn Tryz.func87 J Tryz.ntmps87 (by rfl) (by simp) fun s0 a L=>?_;refine rs (sA 1 L fun a s L=>?_);refine sno En.SBranch 155 L fun a s L=>?_;refine es (rs ?_);refine zjv 15 En.str kvStr (En.int .i64) L J J J J fun a s g1 hg_ L=>?_;refine sA 1 L fun a s L=>?_;refine es (rs ?_);refine sno En.SBranch 155 L fun a s L=>?_;refine es (wp_seq_k fun K2 H2=>?_);obtain ⟨r3,h4,h⟩:=h;refine ra 5 (p1 ((zhl h4).frz)) L fun a s L=>?_;refine wp_block ?_;have J9:∀(many5:(List (Str × Int))) (out7:(List SBranch)) (og6:Option Nat) (og8:Option Nat) (a:Act) (s:St),Has N0 76 s0 a s [(7,(Pd.map En.str kvStr (En.int .i64) s0.w.heap.size og6 many5)),(8,(Pd.row En.SBranch s0.w.heap.size 155 og8 out7))]→Dis og6 og8→((zbo.j2 r_) many5 out7)→K2 a s.w:=by
  intro many5 out7 og6 og8 a s L d10 h;unfold zbo.j2 at h;show K2 a s.w;refine H2 _ _ (wp_seq_k fun K11 H11=>?_);refine rA 3 L fun a s L=>?_;refine wp_block ?_;have J14:∀(out12:(List SBranch)) (og13:Option Nat) (a:Act) (s:St),Has N0 76 s0 a s [(8,(Pd.row En.SBranch s0.w.heap.size 155 og13 out12))]→((zbo.j1 r_) out12)→K11 a s.w:=by
   intro out12 og13 a s L h;unfold zbo.j1 at h;show K11 a s.w;refine H11 _ _ ?_;obtain ⟨r15,h16,h⟩:=h;refine rs (sA 1 L fun a s L=>?_);refine zjw 74 (fun v0=>zl0 v0 h16) L op (zs:=[.func 110]) (.cons o_isf .nil) J J J J kw fun a s L=>?_;refine es (rA 2 L fun a s L=>?_);subst h;exact wp_ret (zf3 J L J)
  obtain ⟨k20,h⟩:=h;refine lpn (fun k21 a s=>∃(out17:(List SBranch)) (v19:Int) (og18:Option Nat),Has N0 76 s0 a s [(7,(Pd.map En.str kvStr (En.int .i64) s0.w.heap.size og6 many5)),(8,(Pd.row En.SBranch s0.w.heap.size 155 og18 out17)),(56,(Pi (out7.length:Int))),(57,(Pi v19))]∧Dis og6 og18∧zbo.l1 many5 out7 (zbo.j1 r_) k21 out17 v19) k20 ⟨out7,0,og8,L.kk,d10,h⟩ ?_;rintro k21 a s ⟨out17,v19,og18,L,d23,h⟩ KL22 hKL22;unfold zbo.l1 at h;refine rA 1 L fun a s L=>?_;refine wp_seq_k fun K24 H24=>cn L h (fun h=>?_) fun h=>?_
  ·refine wp_skip (H24 _ _ ?_);refine wp_seq_k fun K25 H25=>wp_block (rA 2 L fun a s L=>?_);obtain ⟨e26,h27,r28,h29,e30,h31,h⟩:=h;refine rg (sl 9 (pp h27 (p1 (zgz h29))) L fun a s L=>?_);refine sv (zqc op op Ud.h (zez Ud.h) tyv3 J J) L fun a s L=>?_;refine sl 2 (p1 h31) L fun a s L=>?_;refine zgr (off:=1) 8 L J h31 op op (zk (zo _ _ _) J) Tq.h J J J kw fun s L=>?_;refine en' (H25 _ _ ?_);obtain ⟨h32,h⟩:=h;refine rg (sA 2 L fun a s L=>?_);refine en' ?_;exact hKL22 a s ⟨(out17.set (v19:Int).toNat (e30.1,(zd4 many5 r28 0))),(v19+1),og18,L.kk,d23,h⟩
  ·refine wp_exit ?_;exact J14 out17 og18 a s (L.kk) h
 obtain ⟨k38,h⟩:=h;refine lpn (fun k39 a s=>∃(many33:(List (Str × Int))) (out35:(List SBranch)) (v37:Int) (og34:Option Nat) (og36:Option Nat),Has N0 76 s0 a s [(2,(Pd.rep (En.int .u8) cv_)),(3,(Pd.ptr En.SDesc d_)),(7,(Pd.map En.str kvStr (En.int .i64) s0.w.heap.size og34 many33)),(8,(Pd.row En.SBranch s0.w.heap.size 155 og36 out35)),(18,(Pd.rep (En.slice En.SBranch) r3)),(19,(Pi (r3.length:Int))),(20,(Pi v37))]∧Dis og34 og36∧zbo.l2 d_ cv_ r3 (zbo.j2 r_) k39 many33 out35 v37) k38 ⟨([]:(List (Str × Int))),([]:(List SBranch)),0,(some g1),none,L.kk,(Dis.symm Dis.none),h⟩ ?_;rintro k39 a s ⟨many33,out35,v37,og34,og36,L,d41,h⟩ KL40 hKL40;unfold zbo.l2 at h;refine rA 1 L fun a s L=>?_;refine wp_seq_k fun K42 H42=>cn L h (fun h=>?_) fun h=>?_
 ·refine wp_skip (H42 _ _ ?_);refine wp_seq_k fun K43 H43=>wp_block ?_;obtain ⟨e44,h45,h⟩:=h;refine rs (sl 2 (p1 h45) L fun a s L=>?_);have lt_d48:=L.rlt 8 rfl;have lt_d47:=L.mlt 7 rfl;refine zz En.SBranch (z:=([],0)) 10 L zhp J J J J fun a s g46 hg_ L=>?_;have d47:=Dis.newg hg_ lt_d47;have d48:=Dis.newg hg_ lt_d48;refine sB 10 L fun s L=>?_;refine es ?_;obtain ⟨r49,h50,h⟩:=h;refine ra 10 (pp (((next_Read_ok h50).frz2 (Pd.rep_stable _ _)).tup) trivial) L fun a s L=>?_;refine wp_seq_k fun K51 H51=>rA 2 L fun a s L=>?_;refine cn L h (fun h=>?_) fun h=>?_
  ·refine wp_exit ?_;show K43 a s.w;refine H43 _ _ ?_;obtain ⟨h52,h⟩:=h;refine rg (sA 2 L fun a s L=>?_);refine en' ?_;exact hKL40 a s ⟨many33,out35,(v37+1),og34,og36,L.kk,d41,h⟩
  ·refine wp_skip (H51 _ _ ?_);obtain ⟨r53,h54,h⟩:=h;refine ra 3 (p1 (zgz h54)) L fun a s L=>?_;refine wp_seq_k fun K55 H55=>rs (sA 2 L fun a s L=>?_);refine sv (zqc op op Ud.h (zez Ud.h) tyv3 J J) L fun a s L=>?_;refine sA 1 L fun a s L=>?_;refine es ?_;have J58:∀(out56:(List SBranch)) (og57:Option Nat) (a:Act) (s:St),Has N0 76 s0 a s [(2,(Pd.rep (En.int .u8) cv_)),(3,(Pd.ptr En.SDesc d_)),(7,(Pd.map En.str kvStr (En.int .i64) s0.w.heap.size og34 many33)),(8,(Pd.row En.SBranch s0.w.heap.size 155 og57 out56)),(10,(Pd.box En.SBranch s0.w.heap.size g46 e44)),(13,(Pd.rep En.str r53)),(18,(Pd.rep (En.slice En.SBranch) r3)),(19,(Pi (r3.length:Int))),(20,(Pi v37))]→Dis og34 og57→Dis og34 (some g46)→Dis og57 (some g46)→((zbo.j3 (zbo.l2 d_ cv_ r3 (zbo.j2 r_) k39) many33 v37 e44 r53) out56)→K55 a s.w:=by
    intro out56 og57 a s L d59 d60 d61 h;unfold zbo.j3 at h;show K55 a s.w;refine H55 _ _ ?_;obtain ⟨h62,h⟩:=h;refine rg (sA 4 L fun a s L=>?_);refine sv (zqc op op Ud.h (zez Ud.h) tyv3 J J) L fun a s L=>?_;refine sA 4 L fun a s L=>?_;refine zia L op op op Ud.h (zez Ud.h) (.inl J) J J kw fun s L=>?_;refine en' (H43 _ _ ?_);obtain ⟨h63,h⟩:=h;refine rg (sA 2 L fun a s L=>?_);refine en' ?_;exact hKL40 a s ⟨(zf4 many33 r53 (min ((zd4 many33 r53 0)+e44.2) 2)),out56,(v37+1),og34,og57,L.kk,d59,h⟩
   refine cn L h (fun h=>?_) fun h=>?_
   ·obtain ⟨h64,h⟩:=h;refine rg (sA 2 L fun a s L=>?_);refine sv (zbj (x:=(r49.1,0)) (ps:=[(0,.tmp 41)]) zhp J stt155 (.cons (i:=0) op J (z7 (zo _ _ _)) .nil) J J) L fun a s L=>?_;refine sA 1 L fun a s L=>?_;have lt_og65_0:=L.mlt 7 rfl;have lt_og65_1:=L.blt 10 rfl;refine zdx 44 L op op Ud.h Tq.h h64 J J J J ka fun a s og65 hg_ L=>?_;have d66:=Dis.app hg_ (Dis.symm d41) lt_og65_0;have d67:=Dis.app hg_ (Dis.symm d48) lt_og65_1;refine sA 1 L fun a s L=>?_;refine en' ?_;exact J58 (out35++[(r49.1,0)]) og65 a s (L.kk) (Dis.symm d66) (Dis.symm d47) d67 h
   ·refine wp_skip ?_;exact J58 out35 og36 a s (L.kk) d41 (Dis.symm d47) (Dis.symm d48) h
 ·refine wp_exit ?_;exact J9 many33 out35 og34 og36 a s (L.kk) d41 h
theorem zji {d_:SDesc} {s_:(List SItem)} {r_:Int} (h:zci d_ s_ r_):Fn Tryz.prog 74 [(Pd.rep En.SDesc d_),(Pd.rep (En.slice En.SItem) s_)] (Rq (Pi r_)):=by
 unfold zci at h;refine zbn Tryz.func74 J Tryz.ntmps74 (by rfl) (by simp) fun s0 a L=>?_;refine rA 2 L fun a s L=>?_;refine wp_seq_k fun K1 H1=>?_;obtain ⟨r2,h3,h⟩:=h;refine ra 5 (p1 ((zhl h3).frz)) L fun a s L=>?_;refine wp_block ?_;have J4:∀(a:Act) (s:St),Has N0 22 s0 a s []→((zci.j1 r_))→K1 a s.w:=by
  intro a s L h;unfold zci.j1 at h;show K1 a s.w;refine H1 _ _ (rA 1 L fun a s L=>?_);subst h;exact wp_ret (zdr J L J)
 obtain ⟨k6,h⟩:=h;refine lpn (fun k7 a s=>∃(v5:Int),Has N0 22 s0 a s [(9,(Pd.rep (En.slice En.SBranch) r2)),(10,(Pi (r2.length:Int))),(11,(Pi v5))]∧zci.l1 r2 r_ (zci.j1 r_) k7 v5) k6 ⟨0,L.kk,h⟩ ?_;rintro k7 a s ⟨v5,L,h⟩ KL8 hKL8;unfold zci.l1 at h;refine rA 1 L fun a s L=>?_;refine wp_seq_k fun K9 H9=>cn L h (fun h=>?_) fun h=>?_
 ·refine wp_skip (H9 _ _ ?_);refine wp_seq_k fun K10 H10=>wp_block ?_;obtain ⟨e11,h12,h⟩:=h;refine rs (sl 2 (p1 h12) L fun a s L=>?_);refine zz En.SBranch (z:=([],0)) 6 L zhp J J J J fun a s g13 hg_ L=>?_;refine sB 6 L fun s L=>?_;refine es (rA 4 L fun a s L=>?_);refine cn L h (fun h=>?_) fun h=>?_
  ·refine rA 3 L fun a s L=>?_;subst h;exact wp_ret (zdr J L J)
  ·refine wp_skip (H10 _ _ ?_);obtain ⟨h14,h⟩:=h;refine rg (sA 2 L fun a s L=>?_);refine en' ?_;exact hKL8 a s ⟨(v5+1),L.kk,h⟩
 ·refine wp_exit ?_;exact J4 a s (L.kk) h
theorem zoq  {r_:(List Cl)} (h:zbs  r_):Fn Tryz.prog 130 [] (Ro En.cls 40 r_):=by
 unfold zbs at h;refine zbn Tryz.func130 J Tryz.ntmps130 (by rfl) (by simp) fun s0 a L=>?_;refine rs (sno En.cls 40 L fun a s L=>?_);refine es (rs ?_);refine sno En.cls 40 L fun a s L=>?_;refine es (wp_seq_k fun K1 H1=>?_);refine rA 1 L fun a s L=>?_;refine wp_block ?_;have J4:∀(out2:(List Cl)) (og3:Option Nat) (a:Act) (s:St),Has N0 16 s0 a s [(1,(Pd.row En.cls s0.w.heap.size 40 og3 out2))]→((zbs.j1 r_) out2)→K1 a s.w:=by
  intro out2 og3 a s L h;unfold zbs.j1 at h;show K1 a s.w;refine H1 _ _ (rA 2 L fun a s L=>?_);subst h;exact wp_ret (zf3 J L J)
 obtain ⟨k8,h⟩:=h;refine lpn (fun k9 a s=>∃(out5:(List Cl)) (v7:Int) (og6:Option Nat),Has N0 16 s0 a s [(1,(Pd.row En.cls s0.w.heap.size 40 og6 out5)),(3,(Pi v7))]∧zbs.l1 (zbs.j1 r_) k9 out5 v7) k8 ⟨([]:(List Cl)),0,none,L.kk,h⟩ ?_;rintro k9 a s ⟨out5,v7,og6,L,h⟩ KL10 hKL10;unfold zbs.l1 at h;refine rA 1 L fun a s L=>?_;refine wp_seq_k fun K11 H11=>cn L h (fun h=>?_) fun h=>?_
 ·refine wp_skip (H11 _ _ ?_);refine wp_seq_k fun K12 H12=>wp_block (rA 2 L fun a s L=>?_);obtain ⟨r13,h14,h15,h⟩:=h;refine rg (sl 7 (p1 (zpb h14)) L fun a s L=>?_);refine zdx 13 L op op Ud.h Tq.h h15 J J J J ka fun a s og16 hg_ L=>?_;refine sA 1 L fun a s L=>?_;refine en' (H12 _ _ ?_);obtain ⟨h17,h⟩:=h;refine rg (sA 2 L fun a s L=>?_);refine en' ?_;exact hKL10 a s ⟨(out5++[r13]),(v7+1),og16,L.kk,h⟩
 ·refine wp_exit ?_;exact J4 out5 og6 a s (L.kk) h
theorem zot {d_:SDesc} {s_:(List SItem)} {r_:(List Cl)} (h:zbh d_ s_ r_):Fn Tryz.prog 107 [(Pd.rep En.SDesc d_),(Pd.rep (En.slice En.SItem) s_)] (Ro En.cls 40 r_):=by
 unfold zbh at h;refine zbn Tryz.func107 J Tryz.ntmps107 (by rfl) (by simp) fun s0 a L=>?_;refine rs (sA 1 L fun a s L=>?_);refine sno En.cls 40 L fun a s L=>?_;refine es (rs ?_);refine sno En.cls 40 L fun a s L=>?_;refine es (wp_seq_k fun K1 H1=>?_);obtain ⟨r2,h3,h⟩:=h;refine ra 5 (p1 ((zhl h3).frz)) L fun a s L=>?_;refine wp_block ?_;have J6:∀(out4:(List Cl)) (og5:Option Nat) (a:Act) (s:St),Has N0 64 s0 a s [(5,(Pd.row En.cls s0.w.heap.size 40 og5 out4))]→((zbh.j1 r_) out4)→K1 a s.w:=by
  intro out4 og5 a s L h;unfold zbh.j1 at h;show K1 a s.w;refine H1 _ _ (rA 2 L fun a s L=>?_);subst h;exact wp_ret (zf3 J L J)
 obtain ⟨k10,h⟩:=h;refine lpn (fun k11 a s=>∃(out7:(List Cl)) (v9:Int) (og8:Option Nat),Has N0 64 s0 a s [(2,(Pd.ptr En.SDesc d_)),(5,(Pd.row En.cls s0.w.heap.size 40 og8 out7)),(12,(Pd.rep (En.slice En.SBranch) r2)),(13,(Pi (r2.length:Int))),(14,(Pi v9))]∧zbh.l1 d_ r2 (zbh.j1 r_) k11 out7 v9) k10 ⟨([]:(List Cl)),0,none,L.kk,h⟩ ?_;rintro k11 a s ⟨out7,v9,og8,L,h⟩ KL12 hKL12;unfold zbh.l1 at h;refine rA 1 L fun a s L=>?_;refine wp_seq_k fun K13 H13=>cn L h (fun h=>?_) fun h=>?_
 ·refine wp_skip (H13 _ _ ?_);refine wp_seq_k fun K14 H14=>wp_block ?_;obtain ⟨e15,h16,h⟩:=h;refine rs (sl 2 (p1 h16) L fun a s L=>?_);have lt_d18:=L.rlt 5 rfl;refine zz En.SBranch (z:=([],0)) 7 L zhp J J J J fun a s g17 hg_ L=>?_;have d18:=Dis.newg hg_ lt_d18;refine sB 7 L fun s L=>?_;refine es (wp_seq_k fun K19 H19=>?_);refine rA 4 L fun a s L=>?_;refine cn L h (fun h=>?_) fun h=>?_
  ·refine wp_exit ?_;show K14 a s.w;refine H14 _ _ ?_;obtain ⟨h20,h⟩:=h;refine rg (sA 2 L fun a s L=>?_);refine en' ?_;exact hKL12 a s ⟨out7,(v9+1),og8,L.kk,h⟩
  ·refine wp_skip (H19 _ _ ?_);obtain ⟨e21,h22,h⟩:=h;refine rs (sl 4 (p1 h22) L fun a s L=>?_);have lt_d25:=L.blt 7 rfl;have lt_d24:=L.rlt 5 rfl;refine zz En.SItem (z:=(0,0,0,0)) 8 L zga J J J J fun a s g23 hg_ L=>?_;have d24:=Dis.newg hg_ lt_d24;have d25:=Dis.newg hg_ lt_d25;refine sB 8 L fun s L=>?_;refine es ?_;obtain ⟨e26,h27,h⟩:=h;refine rs (sl 6 (p1 h27) L fun a s L=>?_);have lt_d30:=L.blt 8 rfl;have lt_d29:=L.rlt 5 rfl;refine zz En.SNode (z:=(0,0,0,0,0,(0#256),([]:Str))) 9 L zko J J J J fun a s g28 hg_ L=>?_;have d29:=Dis.newg hg_ lt_d29;have d30:=Dis.newg hg_ lt_d30;replace L:=L.dr (some g17);refine sB 9 L fun s L=>?_;refine es (wp_block ?_);refine rA 4 L fun a s L=>?_;refine cn L h (fun h=>?_) fun h=>?_
   ·obtain ⟨c31,h32,c33,h34,r35,h36,h37,h⟩:=h;refine rdx 13 (pp h32 (pp h34 (p1 (zpb h36)))) L fun a s L=>?_;refine zdx 52 L op op Ud.h Tq.h h37 J J J J ka fun a s og38 hg_ L=>?_;refine sA 1 L fun a s L=>?_;refine en' (H14 _ _ ?_);obtain ⟨h39,h⟩:=h;refine rg (sA 2 L fun a s L=>?_);refine en' ?_;exact hKL12 a s ⟨(out7++[r35]),(v9+1),og38,L.kk,h⟩
   ·refine rA 4 L fun a s L=>?_;refine cn L h (fun h=>?_) fun h=>?_
    ·obtain ⟨h40,h⟩:=h;refine rg (sA 4 L fun a s L=>?_);refine zdx 61 L op op Ud.h Tq.h h40 J J J J ka fun a s og41 hg_ L=>?_;refine sA 1 L fun a s L=>?_;refine en' (H14 _ _ ?_);obtain ⟨h42,h⟩:=h;refine rg (sA 2 L fun a s L=>?_);refine en' ?_;exact hKL12 a s ⟨(out7++[e26.2.2.2.2.2.1]),(v9+1),og41,L.kk,h⟩
    ·obtain ⟨r43,h44,h45,h⟩:=h;refine rg (sl 2 (p1 ((zoq h44).frz)) L fun a s L=>?_);refine zdx 34 L op op Ud.h Tq.h h45 J J J J ka fun a s og46 hg_ L=>?_;refine sA 1 L fun a s L=>?_;refine en' (H14 _ _ ?_);obtain ⟨h47,h⟩:=h;refine rg (sA 2 L fun a s L=>?_);refine en' ?_;exact hKL12 a s ⟨(out7++r43),(v9+1),og46,L.kk,h⟩
 ·refine wp_exit ?_;exact J6 out7 og8 a s (L.kk) h
set_option maxRecDepth 100000
set_option maxHeartbeats 2000000
set_option synthInstance.maxSize 100000
set_option synthInstance.maxHeartbeats 200000
theorem zoa {d_:SDesc} {l_:(List (List SItem))} {r_:(List Cl)} (h:zbv d_ l_ r_):Fn Tryz.prog 86 [(Pd.rep En.SDesc d_),(Pd.rep (En.slice (En.slice En.SItem)) l_)] (Ro En.cls 40 r_):=by
 unfold zbv at h;refine zbn Tryz.func86 J Tryz.ntmps86 (by rfl) (by simp) fun s0 a L=>?_;refine rs (sA 1 L fun a s L=>?_);refine sno En.cls 40 L fun a s L=>?_;refine es (rs ?_);refine sno En.cls 40 L fun a s L=>?_;refine es (wp_seq_k fun K1 H1=>?_);refine rA 3 L fun a s L=>?_;refine wp_block ?_;have J4:∀(out2:(List Cl)) (og3:Option Nat) (a:Act) (s:St),Has N0 21 s0 a s [(5,(Pd.row En.cls s0.w.heap.size 40 og3 out2))]→((zbv.j1 r_) out2)→K1 a s.w:=by
  intro out2 og3 a s L h;unfold zbv.j1 at h;show K1 a s.w;refine H1 _ _ (rA 2 L fun a s L=>?_);subst h;exact wp_ret (zf3 J L J)
 obtain ⟨k8,h⟩:=h;refine lpn (fun k9 a s=>∃(out5:(List Cl)) (v7:Int) (og6:Option Nat),Has N0 21 s0 a s [(2,(Pd.ptr En.SDesc d_)),(5,(Pd.row En.cls s0.w.heap.size 40 og6 out5)),(8,(Pd.rep (En.slice (En.slice En.SItem)) l_)),(9,(Pi (l_.length:Int))),(10,(Pi v7))]∧zbv.l1 d_ l_ (zbv.j1 r_) k9 out5 v7) k8 ⟨([]:(List Cl)),0,none,L.kk,h⟩ ?_;rintro k9 a s ⟨out5,v7,og6,L,h⟩ KL10 hKL10;unfold zbv.l1 at h;refine rA 1 L fun a s L=>?_;refine wp_seq_k fun K11 H11=>cn L h (fun h=>?_) fun h=>?_
 ·refine wp_skip (H11 _ _ ?_);refine wp_seq_k fun K12 H12=>wp_block ?_;obtain ⟨e13,h14,h⟩:=h;refine ra 3 (p1 h14) L fun a s L=>?_;obtain ⟨r15,h16,h17,h⟩:=h;refine rg (sl 4 (p1 ((zot h16).frz)) L fun a s L=>?_);refine st_appB 18 32 L op op Ud.h Tq.h (by decide) ⟨_,J,by decide⟩ h17 J J J J ka fun a s og18 hg_ L=>?_;refine sA 1 L fun a s L=>?_;refine en' (H12 _ _ ?_);obtain ⟨h19,h⟩:=h;refine rg (sA 2 L fun a s L=>?_);refine en' ?_;exact hKL10 a s ⟨(out5++r15),(v7+1),og18,L.kk,h⟩
 ·refine wp_exit ?_;exact J4 out5 og6 a s (L.kk) h
theorem sets_Once_ok {l_:(List Cl)} {r_:(List Cl)} (h:zc4 l_ r_):Fn Tryz.prog 85 [(Pd.rep (En.slice En.cls) l_)] (Ro En.cls 40 r_):=by
 unfold zc4 at h;refine zbn Tryz.func85 J Tryz.ntmps85 (by rfl) (by simp) fun s0 a L=>?_;refine rs (sno En.cls 40 L fun a s L=>?_);refine es (rs ?_);refine zjv 7 En.cls kvCls En.bool L J J J J fun a s g1 hg_ L=>?_;refine sA 1 L fun a s L=>?_;refine es (rs ?_);refine sno En.cls 40 L fun a s L=>?_;refine es (wp_seq_k fun K2 H2=>?_);refine rA 3 L fun a s L=>?_;refine wp_block ?_;have J5:∀(out3:(List Cl)) (og4:Option Nat) (a:Act) (s:St),Has N0 26 s0 a s [(4,(Pd.row En.cls s0.w.heap.size 40 og4 out3))]→((zc4.j1 r_) out3)→K2 a s.w:=by
  intro out3 og4 a s L h;unfold zc4.j1 at h;show K2 a s.w;refine H2 _ _ (rA 2 L fun a s L=>?_);subst h;exact wp_ret (zf3 J L J)
 obtain ⟨k11,h⟩:=h;refine lpn (fun k12 a s=>∃(met6:(List (Cl × Bool))) (out8:(List Cl)) (v10:Int) (og7:Option Nat) (og9:Option Nat),Has N0 26 s0 a s [(3,(Pd.map En.cls kvCls En.bool s0.w.heap.size og7 met6)),(4,(Pd.row En.cls s0.w.heap.size 40 og9 out8)),(8,(Pd.rep (En.slice En.cls) l_)),(9,(Pi (l_.length:Int))),(10,(Pi v10))]∧Dis og7 og9∧zc4.l1 l_ (zc4.j1 r_) k12 met6 out8 v10) k11 ⟨([]:(List (Cl × Bool))),([]:(List Cl)),0,(some g1),none,L.kk,(Dis.symm Dis.none),h⟩ ?_;rintro k12 a s ⟨met6,out8,v10,og7,og9,L,d14,h⟩ KL13 hKL13;unfold zc4.l1 at h;refine rA 1 L fun a s L=>?_;refine wp_seq_k fun K15 H15=>cn L h (fun h=>?_) fun h=>?_
 ·refine wp_skip (H15 _ _ ?_);refine wp_seq_k fun K16 H16=>wp_block ?_;obtain ⟨e17,h18,h⟩:=h;refine rs (sl 2 (p1 h18) L fun a s L=>?_);have lt_d21:=L.rlt 4 rfl;have lt_d20:=L.mlt 3 rfl;refine zz En.cls (z:=(0#256)) 6 L zk2 J J J J fun a s g19 hg_ L=>?_;have d20:=Dis.newg hg_ lt_d20;have d21:=Dis.newg hg_ lt_d21;refine sB 6 L fun s L=>?_;refine es (wp_seq_k fun K22 H22=>?_);refine rs (sA 2 L fun a s L=>?_);refine sv (zqc op op Ud.h zr2 tyv4 J J) L fun a s L=>?_;refine sA 1 L fun a s L=>?_;refine es (cn L h (fun h=>?_) fun h=>?_)
  ·obtain ⟨h23,h⟩:=h;refine rg (sA 3 L fun a s L=>?_);have lt_og24_0:=L.mlt 3 rfl;have lt_og24_1:=L.blt 6 rfl;refine zdx 21 L op op Ud.h Tq.h h23 J J J J ka fun a s og24 hg_ L=>?_;have d25:=Dis.app hg_ (Dis.symm d14) lt_og24_0;have d26:=Dis.app hg_ (Dis.symm d21) lt_og24_1;refine sA 1 L fun a s L=>?_;refine en' (H22 _ _ ?_);refine rg (sA 2 L fun a s L=>?_);refine zia L op op o_b Ud.h zr2 (.inl J) J J kw fun s L=>?_;refine en' (H16 _ _ ?_);obtain ⟨h27,h⟩:=h;refine rg (sA 2 L fun a s L=>?_);refine en' ?_;exact hKL13 a s ⟨(zf4 met6 e17 true),(out8++[e17]),(v10+1),og7,og24,L.kk,(Dis.symm d25),h⟩
  ·refine wp_skip (H22 _ _ ?_);refine rg (sA 2 L fun a s L=>?_);refine zia L op op o_b Ud.h zr2 (.inl J) J J kw fun s L=>?_;refine en' (H16 _ _ ?_);obtain ⟨h28,h⟩:=h;refine rg (sA 2 L fun a s L=>?_);refine en' ?_;exact hKL13 a s ⟨(zf4 met6 e17 true),out8,(v10+1),og7,og9,L.kk,d14,h⟩
 ·refine wp_exit ?_;exact J5 out8 og9 a s (L.kk) h
theorem zrb {d_:SDesc} {l_:(List (List SItem))} {r_:(List Int)} (h:zjx d_ l_ r_):Fn Tryz.prog 56 [(Pd.rep En.SDesc d_),(Pd.rep (En.slice (En.slice En.SItem)) l_)] (Ro (En.int .u8) 5 r_):=by
 unfold zjx at h;refine zbn Tryz.func56 J Tryz.ntmps56 (by rfl) (by simp) fun s0 a L=>?_;refine rs (sA 1 L fun a s L=>?_);refine sno (En.int .u8) 5 L fun a s L=>?_;refine es ?_;obtain ⟨r1,h2,r3,h4,r5,h6,h⟩:=h;refine rs (sl 4 (pp ((zoa h2).frz) (p1 ((sets_Once_ok h4).frz))) L fun a s L=>?_);refine zcs 9 L (zpq h6) opz J J J J fun a s og7 hg_ L=>?_;refine sA 1 L fun a s L=>?_;refine es ?_;subst h;exact wp_ret (zf3 J L J)
set_option maxRecDepth 100000
set_option maxHeartbeats 2000000
set_option synthInstance.maxSize 100000
set_option synthInstance.maxHeartbeats 200000
theorem zhv {l_:(List Smade_scantling_twice_two_search)} {i_:Int} {r_:(List Int)} (h:zbb l_ i_ r_):Fn Tryz.prog 75 [(Pd.rep (En.slice En.Smade_scantling_twice_two_search) l_),(Pi i_)] (Ro (En.int .u8) 5 r_):=by
 unfold zbb at h;refine zbn Tryz.func75 J Tryz.ntmps75 (by rfl) (by simp) fun s0 a L=>?_;refine rs (sno (En.int .u8) 5 L fun a s L=>?_);refine es (rs ?_);refine sno (En.int .u8) 5 L fun a s L=>?_;refine es (wp_seq_k fun K1 H1=>?_);refine wp_block ?_;have J4:∀(out2:(List Int)) (og3:Option Nat) (a:Act) (s:St),Has N0 28 s0 a s [(5,(Pd.row (En.int .u8) s0.w.heap.size 5 og3 out2))]→((zbb.j1 r_) out2)→K1 a s.w:=by
  intro out2 og3 a s L h;unfold zbb.j1 at h;show K1 a s.w;refine H1 _ _ ?_;obtain ⟨r5,h6,h⟩:=h;refine rs (sA 1 L fun a s L=>?_);refine zjw 26 (fun v0=>zgu v0 h6) L op opz J J J J kw fun a s L=>?_;refine es (rA 2 L fun a s L=>?_);subst h;exact wp_ret (zf3 J L J)
 obtain ⟨k10,h⟩:=h;refine lpn (fun k11 a s=>∃(i7:Int) (out8:(List Int)) (og9:Option Nat),Has N0 28 s0 a s [(0,(Pd.rep (En.slice En.Smade_scantling_twice_two_search) l_)),(1,(Pi i7)),(5,(Pd.row (En.int .u8) s0.w.heap.size 5 og9 out8))]∧zbb.l1 l_ (zbb.j1 r_) k11 i7 out8) k10 ⟨i_,([]:(List Int)),none,L.kk,h⟩ ?_;rintro k11 a s ⟨i7,out8,og9,L,h⟩ KL12 hKL12;unfold zbb.l1 at h;refine wp_seq_k fun K13 H13=>?_;obtain ⟨e14,h15,h⟩:=h;refine ra 6 (p1 h15) L fun a s L=>?_;refine cn L h (fun h=>?_) fun h=>?_
 ·refine wp_skip (H13 _ _ ?_);refine wp_seq_k fun K16 H16=>wp_block ?_;obtain ⟨e17,h18,h19,h⟩:=h;refine rg (sl 7 (p1 h18) L fun a s L=>?_);refine zdx 24 L op op Ud.h Tq.h h19 J J J J ka fun a s og20 hg_ L=>?_;refine sA 1 L fun a s L=>?_;refine en' (H16 _ _ ?_);obtain ⟨e21,h22,h⟩:=h;refine rg (sl 6 (p1 h22) L fun a s L=>?_);refine en' ?_;exact hKL12 a s ⟨e21.2.1,(out8++[e17.2.2]),og20,L.kk,h⟩
 ·refine wp_exit ?_;exact J4 out8 og9 a s (L.kk) h
theorem zfz {s_:SSpace_scantling_twice_two_search} {budget_:Int} {r_:SFound_scantling_twice_two_search} (h:zg s_ budget_ r_):Fn Tryz.prog 49 [(Pd.rep En.SSpace_scantling_twice_two_search s_),(Pi budget_)] (Rq (Pd.rep En.SFound_scantling_twice_two_search r_)):=by
 unfold zg at h;refine zbn Tryz.func49 J Tryz.ntmps49 (by rfl) (by simp) fun s0 a L=>?_;refine rs (sA 1 L fun a s L=>?_);refine zz En.SFound_scantling_twice_two_search (z:=((0,[],[],0,0,0,0),([],[],false))) 4 L tyz82 J J J J fun a s g1 hg_ L=>?_;refine es (rs ?_);refine sA 2 L fun a s L=>?_;refine sv (zbj (x:=(s_.1,(-1),0)) (ps:=[(0,.tmp 13),(1,.const (.int .i64 (-1))),(2,.const (.int .u8 0))]) tyz135 J stt135 (.cons (i:=0) op J (z7 (zo _ _ _)) (.cons (i:=1) op J (zk (z7 (zo _ _ _)) J) (.cons (i:=2) op J (zk (zk (zo _ _ _) J) J) .nil))) J J) L fun a s L=>?_;have lt_d3:=L.blt 4 rfl;refine zf5 (xs:=[.tmp 14]) 15 L (.cons op .nil) Ud.h Tq.h J J (by decide) J J J J fun a s g2 hg_ L=>?_;have d3:=Dis.newg hg_ lt_d3;refine sA 1 L fun a s L=>?_;refine es ?_;obtain ⟨r7,h8,h⟩:=h;refine rs ?_;have lt_d6:=L.rlt 15 rfl;have lt_d5:=L.blt 4 rfl;refine zjv 16 En.str kvStr En.bool L J J J J fun a s g4 hg_ L=>?_;have d5:=Dis.newg hg_ lt_d5;have d6:=Dis.newg hg_ lt_d6;refine sA 4 L fun a s L=>?_;refine sv (zgq (q:=(s_.1,r7)) op h8 opz (fun _ _ _ h_=>h_) J J) L fun a s L=>?_;refine zia L op op o_b Ud.h (zez Ud.h) (.inr J) J J kw fun s L=>?_;refine sA 2 L fun a s L=>?_;refine es (wp_seq_k fun K9 H9=>?_);refine rA 1 L fun a s L=>?_;refine wp_block ?_;have J13:∀(v10:SFound_scantling_twice_two_search) (list11:(List Smade_scantling_twice_two_search)) (og12:Option Nat) (a:Act) (s:St),Has N0 87 s0 a s [(4,(Pd.box En.SFound_scantling_twice_two_search s0.w.heap.size g1 v10)),(5,(Pd.row En.Smade_scantling_twice_two_search s0.w.heap.size 135 og12 list11))]→Dis (some g1) og12→((zg.j1 r_) v10 list11)→K9 a s.w:=by
  intro v10 list11 og12 a s L d14 h;unfold zg.j1 at h;show K9 a s.w;refine H9 _ _ (rs ?_);refine sA 2 L fun a s L=>?_;refine sv (zbj (x:=(1,[],[],0,0,0,(list11.length:Int))) (ps:=[(0,.const (.int .i64 1)),(6,.tmp 84)]) znv J stt32 (.cons (i:=0) op J (z7 (zo _ _ _)) (.cons (i:=6) op J (zk (zk (zk (zk (zk (zk (zo _ _ _) J) J) J) J) J) J) .nil)) J J) L fun a s L=>?_;refine sv (zbj (x:=((1,[],[],0,0,0,(list11.length:Int)),([],[],false))) (ps:=[(0,.tmp 85)]) tyz82 J stt82 (.cons (i:=0) op J (z7 (zo _ _ _)) .nil) J J) L fun a s L=>?_;refine sB 4 L fun s L=>?_;refine es ?_;subst h;exact wp_ret (retb J ty82 L J)
 obtain ⟨k21,h⟩:=h;refine lpn (fun k22 a s=>∃(v15:SFound_scantling_twice_two_search) (list16:(List Smade_scantling_twice_two_search)) (seen18:(List (Str × Bool))) (i20:Int) (og17:Option Nat) (og19:Option Nat),Has N0 87 s0 a s [(1,(Pi budget_)),(2,(Pd.ptr En.SSpace_scantling_twice_two_search s_)),(4,(Pd.box En.SFound_scantling_twice_two_search s0.w.heap.size g1 v15)),(5,(Pd.row En.Smade_scantling_twice_two_search s0.w.heap.size 135 og17 list16)),(6,(Pd.map En.str kvStr En.bool s0.w.heap.size og19 seen18)),(7,(Pi i20))]∧Dis (some g1) og17∧Dis (some g1) og19∧Dis og17 og19∧zg.l1 s_ budget_ r_ (zg.j1 r_) k22 v15 list16 seen18 i20) k21 ⟨((0,[],[],0,0,0,0),([],[],false)),[(s_.1,(-1),0)],(zf4 ([]:(List (Str × Bool))) r7 true),0,(some g2),(some g4),L.kk,(Dis.symm d3),(Dis.symm d5),(Dis.symm d6),h⟩ ?_;rintro k22 a s ⟨v15,list16,seen18,i20,og17,og19,L,d24,d25,d26,h⟩ KL23 hKL23;unfold zg.l1 at h;refine wp_seq_k fun K27 H27=>rA 4 L fun a s L=>?_;refine cn L h (fun h=>?_) fun h=>?_
 ·refine wp_skip (H27 _ _ ?_);refine wp_seq_k fun K28 H28=>wp_block (wp_seq_k fun K29 H29=>?_);refine rA 3 L fun a s L=>?_;refine cn L h (fun h=>?_) fun h=>?_
  ·refine rs ?_;refine sA 2 L fun a s L=>?_;refine sv (zbj (x:=(3,[],[],0,0,0,(max budget_ 0))) (ps:=[(0,.const (.int .i64 3)),(6,.tmp 33)]) znv J stt32 (.cons (i:=0) op J (z7 (zo _ _ _)) (.cons (i:=6) op J (zk (zk (zk (zk (zk (zk (zo _ _ _) J) J) J) J) J) J) .nil)) J J) L fun a s L=>?_;refine sv (zbj (x:=((3,[],[],0,0,0,(max budget_ 0)),([],[],false))) (ps:=[(0,.tmp 34)]) tyz82 J stt82 (.cons (i:=0) op J (z7 (zo _ _ _)) .nil) J J) L fun a s L=>?_;refine sB 4 L fun s L=>?_;refine es ?_;subst h;exact wp_ret (retb J ty82 L J)
  ·refine wp_skip (H29 _ _ ?_);obtain ⟨e30,h31,h⟩:=h;refine rs (sl 5 (p1 h31) L fun a s L=>?_);have lt_d35:=L.mlt 6 rfl;have lt_d34:=L.rlt 5 rfl;have lt_d33:=L.blt 4 rfl;refine zz En.Stwo_twice (z:=([],[],false)) 8 L tyz80 J J J J fun a s g32 hg_ L=>?_;have d33:=Dis.newg hg_ lt_d33;have d34:=Dis.newg hg_ lt_d34;have d35:=Dis.newg hg_ lt_d35;refine sB 8 L fun s L=>?_;refine es (wp_seq_k fun K36 H36=>?_);obtain ⟨r37,h38,h⟩:=h;refine rs (sA 3 L fun a s L=>?_);refine sv (zgq (q:=(e30.1,r37)) op h38 opz (fun _ _ _ h_=>h_) J J) L fun a s L=>?_;refine es (cn L h (fun h=>?_) fun h=>?_)
   ·refine fzc 5 L fun s L=>?_;obtain ⟨r39,h40,h41,h⟩:=h;refine wp_seq (rda zck 8 [(Pd.rep (En.slice En.Smade_scantling_twice_two_search) list16),(Pi i20),(Pd.rep (En.slice (En.int .u8)) r39),(Pi i20),(Pi (i20+1)),(Pd.rep En.SVerdict (2,r39,[],0,0,0,i20+1)),(Pd.rep En.Stwo_twice e30.1),(Pd.rep En.SFound_scantling_twice_two_search ((2,r39,[],0,0,0,i20+1),e30.1))] L (by kernel_rfl) J J ?_ ?_)
    ·refine zbe.cons (zj (O 5 J) J J) ?_;refine zbe.cons (zj (O 7 J) J J) ?_;refine zbe.cons (zdl ((zhv h40).frz) (xs:=[.tmp 45,.tmp 46]) (.cons (O 45 J) (.cons (O 46 J) .nil)) J J) ?_;refine zbe.cons (zj (O 7 J) J J) ?_;refine zbe.cons (zi6 (O 48 J) oI h41 J J) ?_;refine zbe.cons (zbj (x:=(2,r39,[],0,0,0,i20+1)) (ps:=[(0,.const (.int .i64 2)),(1,.tmp 47),(6,.tmp 49)]) znv J stt32 (.cons (i:=0) oI J (z7 (zo _ _ _)) (.cons (i:=1) (O 47 J) J (zk (z7 (zo _ _ _)) J) (.cons (i:=6) (O 49 J) J (zk (zk (zk (zk (zk (zk (zo _ _ _) J) J) J) J) J) J) .nil))) J J) ?_;refine zbe.cons (zgo ty80 (O 8 J) J J) ?_;refine zbe.cons (zbj (x:=((2,r39,[],0,0,0,i20+1),e30.1)) (ps:=[(0,.tmp 50),(1,.tmp 51)]) tyz82 J stt82 (.cons (i:=0) (O 50 J) J (z7 (zo _ _ _)) (.cons (i:=1) (O 51 J) J (zk (zo _ _ _) J) .nil)) J J) ?_;exact zbe.nil
    intro a s _ L;replace L:=L.kk (L':=[(4,(Pd.box En.SFound_scantling_twice_two_search s0.w.heap.size g1 v15)),(52,(Pd.rep En.SFound_scantling_twice_two_search ((2,r39,[],0,0,0,i20+1),e30.1)))]);refine dp ?_;refine sB 4 L fun s L=>?_;refine es ?_;subst h;exact wp_ret (retb J ty82 L J)
   ·refine wp_skip (H36 _ _ ?_);obtain ⟨r42,h43,h⟩:=h;refine rs (sA 3 L fun a s L=>?_);refine sv (zgq (q:=(e30.1,r42)) op h43 opz (fun _ _ _ h_=>h_) J J) L fun a s L=>?_;refine sA 2 L fun a s L=>?_;refine es (wp_block ?_);have J48:∀(list44:(List Smade_scantling_twice_two_search)) (seen46:(List (Str × Bool))) (og45:Option Nat) (og47:Option Nat) (a:Act) (s:St),Has N0 87 s0 a s [(1,(Pi budget_)),(2,(Pd.ptr En.SSpace_scantling_twice_two_search s_)),(4,(Pd.box En.SFound_scantling_twice_two_search s0.w.heap.size g1 v15)),(5,(Pd.row En.Smade_scantling_twice_two_search s0.w.heap.size 135 og45 list44)),(6,(Pd.map En.str kvStr En.bool s0.w.heap.size og47 seen46)),(7,(Pi i20))]→Dis (some g1) og45→Dis (some g1) og47→Dis og45 og47→((zg.j2 (zg.l1 s_ budget_ r_ (zg.j1 r_) k22) v15 i20) list44 seen46)→K28 a s.w:=by
     intro list44 seen46 og45 og47 a s L d49 d50 d51 h;unfold zg.j2 at h;show K28 a s.w;refine H28 _ _ ?_;obtain ⟨h52,h⟩:=h;refine rg (sA 3 L fun a s L=>?_);refine en' ?_;exact hKL23 a s ⟨v15,list44,seen46,(i20+1),og45,og47,L.kk,d49,d50,d51,h⟩
    obtain ⟨k58,h⟩:=h;refine lpn (fun k59 a s=>∃(list53:(List Smade_scantling_twice_two_search)) (seen55:(List (Str × Bool))) (v57:Int) (og54:Option Nat) (og56:Option Nat),Has N0 87 s0 a s [(1,(Pi budget_)),(2,(Pd.ptr En.SSpace_scantling_twice_two_search s_)),(4,(Pd.box En.SFound_scantling_twice_two_search s0.w.heap.size g1 v15)),(5,(Pd.row En.Smade_scantling_twice_two_search s0.w.heap.size 135 og54 list53)),(6,(Pd.map En.str kvStr En.bool s0.w.heap.size og56 seen55)),(7,(Pi i20)),(56,(Pd.rep (En.slice En.SOn_scantling_twice_two_search) r42)),(57,(Pi (r42.length:Int))),(58,(Pi v57))]∧Dis (some g1) og54∧Dis (some g1) og56∧Dis og54 og56∧zg.l2 s_ i20 r42 (zg.j2 (zg.l1 s_ budget_ r_ (zg.j1 r_) k22) v15 i20) k59 list53 seen55 v57) k58 ⟨list16,seen18,0,og17,og19,L.kk,d24,d25,d26,h⟩ ?_;rintro k59 a s ⟨list53,seen55,v57,og54,og56,L,d61,d62,d63,h⟩ KL60 hKL60;unfold zg.l2 at h;refine rA 1 L fun a s L=>?_;refine wp_seq_k fun K64 H64=>cn L h (fun h=>?_) fun h=>?_
    ·refine wp_skip (H64 _ _ ?_);refine wp_seq_k fun K65 H65=>wp_block ?_;obtain ⟨e66,h67,h⟩:=h;refine rs (sl 2 (p1 h67) L fun a s L=>?_);have lt_d71:=L.mlt 6 rfl;have lt_d70:=L.rlt 5 rfl;have lt_d69:=L.blt 4 rfl;refine zz En.SOn_scantling_twice_two_search (z:=(0,([],[],false))) 10 L tyz132 J J J J fun a s g68 hg_ L=>?_;have d69:=Dis.newg hg_ lt_d69;have d70:=Dis.newg hg_ lt_d70;have d71:=Dis.newg hg_ lt_d71;refine sB 10 L fun s L=>?_;refine es ?_;obtain ⟨r72,h73,h⟩:=h;refine rs (sA 4 L fun a s L=>?_);refine sv (zgq (q:=(e66.2,r72)) op h73 opz (fun _ _ _ h_=>h_) J J) L fun a s L=>?_;refine sA 1 L fun a s L=>?_;refine es (rs ?_);refine sA 2 L fun a s L=>?_;refine sv (zqc op op Ud.h (zez Ud.h) tyv4 J J) L fun a s L=>?_;refine sA 1 L fun a s L=>?_;refine es (cn L h (fun h=>?_) fun h=>?_)
     ·refine rs ?_;refine sA 2 L fun a s L=>?_;refine zia L op op o_b Ud.h (zez Ud.h) (.inl J) J J kw fun s L=>?_;refine es ?_;obtain ⟨h74,h⟩:=h;refine rg (sA 6 L fun a s L=>?_);refine sv (zbj (x:=(e66.2,i20,e66.1)) (ps:=[(0,.tmp 75),(1,.tmp 76),(2,.tmp 78)]) tyz135 J stt135 (.cons (i:=0) op J (z7 (zo _ _ _)) (.cons (i:=1) op J (zk (z7 (zo _ _ _)) J) (.cons (i:=2) op J (zk (zk (zo _ _ _) J) J) .nil))) J J) L fun a s L=>?_;refine sA 1 L fun a s L=>?_;have lt_og75_0:=L.blt 4 rfl;have lt_og75_1:=L.mlt 6 rfl;refine zdx 81 L op op Ud.h Tq.h h74 J J J J ka fun a s og75 hg_ L=>?_;have d76:=Dis.app hg_ (Dis.symm d61) lt_og75_0;have d77:=Dis.app hg_ d63 lt_og75_1;refine sA 1 L fun a s L=>?_;refine en' (H65 _ _ ?_);obtain ⟨h78,h⟩:=h;refine rg (sA 2 L fun a s L=>?_);refine en' ?_;exact hKL60 a s ⟨(list53++[(e66.2,i20,e66.1)]),(zf4 seen55 r72 true),(v57+1),og75,og56,L.kk,(Dis.symm d76),d62,d77,h⟩
     ·refine wp_skip (H65 _ _ ?_);obtain ⟨h79,h⟩:=h;refine rg (sA 2 L fun a s L=>?_);refine en' ?_;exact hKL60 a s ⟨list53,seen55,(v57+1),og54,og56,L.kk,d61,d62,d63,h⟩
    ·refine wp_exit ?_;exact J48 list53 seen55 og54 og56 a s (L.kk) d61 d62 d63 h
 ·refine wp_exit ?_;exact J13 v15 list16 og17 a s (L.kk) d24 h
open Go.Shelf Go.Sort
abbrev TW:=List SItem × List SItem × Bool
theorem rankT_inj {a b:Bool} {p q r s:List SItem} (h:zfl (p,q,a)=zfl (r,s,b)):a=b:=by
 cases a <;> cases b <;> simp [zfl] at h ⊢
theorem cmpT_self (x:TW):zp1 x x=0:=by
 unfold zp1;rw [zf1,zf1];simp
theorem zlm (x y:TW):zp1 y x = -zp1 x y:=by
 unfold zp1;rw [zfj x.1 y.1,zfj x.2.1 y.2.1]
 by_cases h1:zdu x.1 y.1=0
 ·by_cases h2:zdu x.2.1 y.2.1=0
  ·simp only [h1,h2,Int.neg_zero,ne_eq,not_true_eq_false,if_false]
   by_cases h3:zfl x<zfl y
   ·rw [if_pos h3,if_neg (by omega),if_pos h3];rfl
   ·by_cases h4:zfl y<zfl x
    ·rw [if_pos h4,if_neg h3,if_pos h4]
    ·rw [if_neg h3,if_neg h4,if_neg h4,if_neg h3];rfl
  ·simp only [h1,Int.neg_zero,ne_eq,not_true_eq_false,if_false];rw [if_pos (by omega),if_pos h2]
 ·rw [if_pos (by omega),if_pos h1]
theorem cmpT_zero {x y:TW} (h:zp1 x y=0):x=y:=by
 obtain ⟨a,b,c⟩:=x;obtain ⟨a',b',c'⟩:=y;unfold zp1 at h
 by_cases h1:zdu a a'=0
 ·by_cases h2:zdu b b'=0
  ·simp only [h1,h2,ne_eq,not_true_eq_false,if_false] at h;have e1:=zb8.1 h1;have e2:=zb8.1 h2;subst e1;subst e2;have:zfl (a,b,c)=zfl (a,b,c'):=by
    split at h
    ·omega
    ·split at h <;> omega
   rw [rankT_inj this]
  ·simp only [h1,ne_eq,not_true_eq_false,if_false] at h;rw [if_pos h2] at h;exact absurd h h2
 ·simp only at h;rw [if_pos h1] at h;exact absurd h h1
theorem cmpT_le {x y z:TW} (h1:zp1 x y≤0) (h2:zp1 y z≤0):zp1 x z≤0:=by
 obtain ⟨a,b,c⟩:=x;obtain ⟨a',b',c'⟩:=y;obtain ⟨a'',b'',c''⟩:=z;unfold zp1 at *;simp only at *;have lt1:∀{p q r:List SItem},zdu p q≤0→zdu q r<0→zdu p r<0:=fun {p q r} h k=>by
  rcases Int.lt_or_eq_of_le h with h | h
  ·exact ze8 h k
  ·rw [zb8.1 h];exact k
 have lt2:∀{p q r:List SItem},zdu p q<0→zdu q r≤0→zdu p r<0:=fun {p q r} h k=>by
  rcases Int.lt_or_eq_of_le k with k | k
  ·exact ze8 h k
  ·rw [← zb8.1 k];exact h
 by_cases p1:zdu a a'=0
 ·have e:=zb8.1 p1;subst e
  by_cases p2:zdu a a''=0
  ·have e:=zb8.1 p2;subst e;rw [if_neg (by simp [zf1])] at h1 h2 ⊢
   by_cases q1:zdu b b'=0
   ·have e:=zb8.1 q1;subst e
    by_cases q2:zdu b b''=0
    ·have e:=zb8.1 q2;subst e;rw [if_neg (by simp [zf1])] at h1 h2 ⊢;have m1:zfl (a,b,c)≤zfl (a,b,c'):=by
      rcases Int.lt_or_le (zfl (a,b,c')) (zfl (a,b,c)) with h | h
      ·rw [if_neg (by omega),if_pos h] at h1;omega
      ·exact h
     have m2:zfl (a,b,c')≤zfl (a,b,c''):=by
      rcases Int.lt_or_le (zfl (a,b,c'')) (zfl (a,b,c')) with h | h
      ·rw [if_neg (by omega),if_pos h] at h2;omega
      ·exact h
     split
     ·omega
     ·rw [if_neg (by omega)];omega
    ·rw [if_pos q2] at h2 ⊢;exact h2
   ·rw [if_pos q1] at h1
    by_cases q2:zdu b' b''=0
    ·have e:=zb8.1 q2;subst e;rw [if_pos q1];exact h1
    ·rw [if_pos q2] at h2;have:=lt1 h1 (show zdu b' b'' < 0 by omega);rw [if_pos (by omega)];omega
  ·rw [if_pos p2] at h2 ⊢;exact h2
 ·rw [if_pos p1] at h1
  by_cases p2:zdu a' a''=0
  ·have e:=zb8.1 p2;subst e;rw [if_pos p1];exact h1
  ·rw [if_pos p2] at h2;have:=lt1 h1 (show zdu a' a'' < 0 by omega);rw [if_pos (by omega)];omega
theorem zo0 (x:TW):∀l:List TW,(insT x l).Perm (x::l)
 | []=>.refl _
 | y::l=>by
  unfold insT;split
  ·exact .refl _
  ·exact ((zo0 x l).cons y).trans (.swap x y l)
theorem zi9:∀L:List TW,(srtT L).Perm L
 | []=>.refl _
 | x::L=>(zo0 x _).trans ((zi9 L).cons x)
theorem insT_srt (x:TW):∀{l:List TW},l.Pairwise (fun a b=>zp1 a b≤0)→(insT x l).Pairwise (fun a b=>zp1 a b≤0)
 | [],_=>by simp [insT]
 | y::l,h=>by
  unfold insT;rw [List.pairwise_cons] at h;split
  ·rename_i hx
   rw [List.pairwise_cons,List.pairwise_cons];refine ⟨fun z hz=>?_,h⟩;rcases List.mem_cons.1 hz with rfl | hz
   ·exact hx
   ·exact cmpT_le hx (h.1 z hz)
  ·rename_i hx
   rw [List.pairwise_cons];refine ⟨fun z hz=>?_,insT_srt x h.2⟩;rcases List.mem_cons.1 ((zo0 x l).mem_iff.1 hz) with rfl | hz
   ·have:=zlm z y;omega
   ·exact h.1 z hz
theorem srtT_srt:∀L:List TW,(srtT L).Pairwise (fun a b=>zp1 a b≤0)
 | []=>.nil
 | x::L=>insT_srt x (srtT_srt L)
theorem srtT_uniq:∀{a b:List TW},a.Perm b→a.Pairwise (fun x y=>zp1 x y≤0)→b.Pairwise (fun x y=>zp1 x y≤0)→a=b
 | [],b,h,_,_=>(List.perm_nil.1 h.symm).symm
 | x::a,[],h,_,_=>(List.perm_nil.1 h)
 | x::a,y::b,h,ha,hb=>by
  rw [List.pairwise_cons] at ha hb;have e:x=y:=by
   rcases List.mem_cons.1 (h.mem_iff.1 (List.mem_cons_self ..)) with e | hx
   ·exact e
   ·rcases List.mem_cons.1 (h.mem_iff.2 (List.mem_cons_self ..)) with e | hy
    ·exact e.symm
    ·have h1:=ha.1 y hy;have h2:=hb.1 x hx;have:=zlm x y;exact cmpT_zero (by omega)
  subst e;rw [srtT_uniq (h.cons_inv) ha.2 hb.2]
theorem swo_two:SWO (Go.Proofs.ltOf fun x y:TW=>zp1 x y):=swo_cmp (fun x=>cmpT_self _) (fun x y=>zlm _ _) fun x y z h1 h2=>cmpT_le h1 h2
theorem zm1 {x y:TW} (hx:x.1.length≤1000∧x.2.1.length≤1000):zh9 x y (zp1 x y):=by
 have r:∀z:TW,zhr z (zfl z):=fun z=>⟨fun h=>by unfold zfl;rw [if_pos h],fun h=>by unfold zfl;rw [h];rfl⟩;refine ⟨_,zeh hx.1,_,zeh hx.2,_,r x,_,r y,_,zqw,_,or_in (by simp), ?_⟩;unfold zp1
 by_cases h1:zdu x.1 y.1=0
 ·by_cases h2:zdu x.2.1 y.2.1=0
  ·by_cases h3:zfl x<zfl y
   ·simp [zli,sgnI,h1,h2,h3]
   ·by_cases h4:zfl y<zfl x
    ·simp [zli,sgnI,h1,h2,h3,h4]
    ·simp [zli,sgnI,h1,h2,h3,h4]
  ·simp [zli,h1,h2]
 ·simp [zli,h1]
theorem zfy (v0:Value) {x r:List TW} (h:zec x r):Fm Tryz.prog 99 (fun b=>v0.ownBlock=some b) [Pd.prow En.Stwo_twice 80 v0 x,Pd.is (.func (.func 100) #[] #[])] (fun _ s' _=>(Pd.prow En.Stwo_twice 80 v0 r).p s' v0):=by
 have h0:=fm_sort slsortW (E:=En.Stwo_twice) (E':=En.Stwo_twice) (te:=80) (g:=100) (cf:=fun a b:TW=>zp1 a b) rfl ty80 rfl rfl (fun h=>h) (ze1 Tryz.func99 rfl (by rfl)) (ze1 Tryz.func100 rfl (by rfl)) swo_two h.2.1 (fun a ha b hb=>@zm0 true dLe _ _ _ (zm1 (h.1 a ha))) v0;refine ⟨h0.call,fun s vs hg hM hv=>(h0.run s vs hg hM hv).mono fun e w' ⟨v,s',he,hw,hfr,ys,hp,hs,hrow⟩=>⟨v,s',he,hw,hfr, ?_⟩⟩;have e:r=ys:=by
  rw [h.2.2];refine srtT_uniq ((zi9 x).trans hp.symm) (srtT_srt x) (hs.imp fun {a b} h=>?_);have:=zlm a b;omega
 rw [e];exact hrow
end Go.Proofs.YtjdaaiodniicoaaGreatDoor.V
namespace Go.Proofs.YtjdaaiodniicoaaGreatDoor.V
open Go
set_option linter.unusedVariables false
set_option maxRecDepth 100000
set_option maxHeartbeats 2000000
set_option synthInstance.maxSize 100000
set_option synthInstance.maxHeartbeats 200000
theorem zkf {a_:(List SItem)} {b_:(List SItem)} {apart_:Bool} {r_:Stwo_twice} (h:zgl a_ b_ apart_ r_):Fn Tryz.prog 98 [(Pd.rep (En.slice En.SItem) a_),(Pd.rep (En.slice En.SItem) b_),(Pd.rep En.bool apart_)] (Rq (Pd.rep En.Stwo_twice r_)):=by
 unfold zgl at h;refine zbn Tryz.func98 J Tryz.ntmps98 (by rfl) (by simp) fun s0 a L=>?_;refine rs (zz En.Stwo_twice (z:=([],[],false)) 6 L tyz80 J J J J fun a s g1 hg_ L=>?_);refine es (wp_seq_k fun K2 H2=>?_);obtain ⟨r3,h4,h⟩:=h;refine ra 4 (p1 (zeg h4)) L fun a s L=>?_;refine cn L h (fun h=>?_) fun h=>?_
 ·refine rg ?_;refine sA 4 L fun a s L=>?_;refine en' (H2 _ _ ?_);refine rs (sA 3 L fun a s L=>?_);refine sv (zbj (x:=(b_,a_,apart_)) (ps:=[(0,.tmp 13),(1,.tmp 14),(2,.tmp 15)]) tyz80 J stt80 (.cons (i:=0) op J (z7 (zo _ _ _)) (.cons (i:=1) op J (zk (z7 (zo _ _ _)) J) (.cons (i:=2) op J (zk (zk (zo _ _ _) J) J) .nil))) J J) L fun a s L=>?_;refine sB 6 L fun s L=>?_;refine es ?_;subst h;exact wp_ret (retb J ty80 L J)
 ·refine wp_skip (H2 _ _ ?_);refine rs (sA 3 L fun a s L=>?_);refine sv (zbj (x:=(a_,b_,apart_)) (ps:=[(0,.tmp 13),(1,.tmp 14),(2,.tmp 15)]) tyz80 J stt80 (.cons (i:=0) op J (z7 (zo _ _ _)) (.cons (i:=1) op J (zk (z7 (zo _ _ _)) J) (.cons (i:=2) op J (zk (zk (zo _ _ _) J) J) .nil))) J J) L fun a s L=>?_;refine sB 6 L fun s L=>?_;refine es ?_;subst h;exact wp_ret (retb J ty80 L J)
theorem zpk {x_:Sof_twice} {t_:Stwo_twice} {cv_:Int} {r_:(List Stwo_twice)} (h:zu x_ t_ cv_ r_):Fn Tryz.prog 73 [(Pd.rep En.Sof_twice x_),(Pd.rep En.Stwo_twice t_),(Pd.rep (En.int .u8) cv_)] (Ro En.Stwo_twice 80 r_):=by
 unfold zu at h;refine zbn Tryz.func73 J Tryz.ntmps73 (by rfl) (by simp) fun s0 a L=>?_;refine rs (sA 2 L fun a s L=>?_);refine sno En.Stwo_twice 80 L fun a s L=>?_;refine es ?_;obtain ⟨r1,h2,h⟩:=h;refine ra 7 (p1 ((zqr h2).frz)) L fun a s L=>?_;refine rs (sno En.Stwo_twice 80 L fun a s L=>?_);refine es (wp_seq_k fun K3 H3=>?_);refine rA 3 L fun a s L=>?_;refine cn L h (fun h=>?_) fun h=>?_
 ·refine rA 3 L fun a s L=>?_;refine wp_block ?_;have J6:∀(out4:(List Stwo_twice)) (og5:Option Nat) (a:Act) (s:St),Has N0 92 s0 a s [(8,(Pd.row En.Stwo_twice s0.w.heap.size 80 og5 out4))]→((zu.j1 r_) out4)→K3 a s.w:=by
   intro out4 og5 a s L h;unfold zu.j1 at h;show K3 a s.w;refine H3 _ _ ?_;obtain ⟨r7,h8,h⟩:=h;refine rs (sA 1 L fun a s L=>?_);refine zjw 90 (fun v0=>zfy v0 h8) L op (zs:=[.func 100]) (.cons o_isf .nil) J J J J kw fun a s L=>?_;refine es (rA 2 L fun a s L=>?_);subst h;exact wp_ret (zf3 J L J)
  obtain ⟨k12,h⟩:=h;refine lpn (fun k13 a s=>∃(out9:(List Stwo_twice)) (v11:Int) (og10:Option Nat),Has N0 92 s0 a s [(7,(Pd.rep (En.slice En.SBranch) r1)),(8,(Pd.row En.Stwo_twice s0.w.heap.size 80 og10 out9)),(26,(Pd.rep (En.slice En.SBranch) r1)),(27,(Pi (r1.length:Int))),(28,(Pi v11))]∧zu.l1 r1 (zu.j1 r_) k13 out9 v11) k12 ⟨([]:(List Stwo_twice)),0,none,L.kk,h⟩ ?_;rintro k13 a s ⟨out9,v11,og10,L,h⟩ KL14 hKL14;unfold zu.l1 at h;refine rA 1 L fun a s L=>?_;refine wp_seq_k fun K15 H15=>cn L h (fun h=>?_) fun h=>?_
  ·refine wp_skip (H15 _ _ ?_);refine wp_seq_k fun K16 H16=>wp_block ?_;obtain ⟨e17,h18,h⟩:=h;refine rs (sl 3 (p1 h18) L fun a s L=>?_);have lt_d20:=L.rlt 8 rfl;refine zz En.SBranch (z:=([],0)) 10 L zhp J J J J fun a s g19 hg_ L=>?_;have d20:=Dis.newg hg_ lt_d20;refine sA 1 L fun a s L=>?_;refine sB 10 L fun s L=>?_;refine es ?_;obtain ⟨h21,h⟩:=h;refine rs (sA 8 L fun a s L=>?_);refine sv (zbj (x:=(e17.1,e17.1,decide (1<e17.2))) (ps:=[(0,.tmp 35),(1,.tmp 37),(2,.tmp 40)]) tyz80 J stt80 (.cons (i:=0) op J (z7 (zo _ _ _)) (.cons (i:=1) op J (zk (z7 (zo _ _ _)) J) (.cons (i:=2) op J (zk (zk (zo _ _ _) J) J) .nil))) J J) L fun a s L=>?_;refine sA 1 L fun a s L=>?_;have lt_og22_0:=L.blt 10 rfl;refine zdx 43 L op op Ud.h Tq.h h21 J J J J ka fun a s og22 hg_ L=>?_;have d23:=Dis.app hg_ (Dis.symm d20) lt_og22_0;refine sA 1 L fun a s L=>?_;refine es ?_;obtain ⟨h24,h⟩:=h;refine rA 5 L fun a s L=>?_;refine wp_block ?_;have J27:∀(out25:(List Stwo_twice)) (og26:Option Nat) (a:Act) (s:St),Has N0 92 s0 a s [(7,(Pd.rep (En.slice En.SBranch) r1)),(8,(Pd.row En.Stwo_twice s0.w.heap.size 80 og26 out25)),(26,(Pd.rep (En.slice En.SBranch) r1)),(27,(Pi (r1.length:Int))),(28,(Pi v11))]→((zu.j2 (zu.l1 r1 (zu.j1 r_) k13) v11) out25)→K16 a s.w:=by
    intro out25 og26 a s L h;unfold zu.j2 at h;show K16 a s.w;refine H16 _ _ ?_;obtain ⟨h28,h⟩:=h;refine rg (sA 2 L fun a s L=>?_);refine en' ?_;exact hKL14 a s ⟨out25,(v11+1),og26,L.kk,h⟩
   obtain ⟨k32,h⟩:=h;refine lpn (fun k33 a s=>∃(out29:(List Stwo_twice)) (v31:Int) (og30:Option Nat),Has N0 92 s0 a s [(7,(Pd.rep (En.slice En.SBranch) r1)),(8,(Pd.row En.Stwo_twice s0.w.heap.size 80 og30 out29)),(10,(Pd.box En.SBranch s0.w.heap.size g19 e17)),(26,(Pd.rep (En.slice En.SBranch) r1)),(27,(Pi (r1.length:Int))),(28,(Pi v11)),(46,(Pd.rep (En.slice En.SBranch) (r1.take (v11:Int).toNat))),(47,(Pi ((r1.take (v11:Int).toNat).length:Int))),(48,(Pi v31))]∧Dis og30 (some g19)∧zu.l2 r1 v11 e17 (zu.j2 (zu.l1 r1 (zu.j1 r_) k13) v11) k33 out29 v31) k32 ⟨(out9++[(e17.1,e17.1,decide (1<e17.2))]),0,og22,L.kk,d23,h⟩ ?_;rintro k33 a s ⟨out29,v31,og30,L,d35,h⟩ KL34 hKL34;unfold zu.l2 at h;obtain ⟨b36,h37,h⟩:=h;refine ra 1 (p1 h37) L fun a s L=>?_;refine wp_seq_k fun K38 H38=>cn L h (fun h=>?_) fun h=>?_
   ·refine wp_skip (H38 _ _ ?_);refine wp_seq_k fun K39 H39=>wp_block ?_;obtain ⟨e40,h41,h⟩:=h;refine rs (sl 2 (p1 h41) L fun a s L=>?_);have lt_d44:=L.blt 10 rfl;have lt_d43:=L.rlt 8 rfl;refine zz En.SBranch (z:=([],0)) 12 L zhp J J J J fun a s g42 hg_ L=>?_;have d43:=Dis.newg hg_ lt_d43;have d44:=Dis.newg hg_ lt_d44;refine sB 12 L fun s L=>?_;refine es ?_;obtain ⟨r45,h46,h47,h⟩:=h;refine rg (sl 7 (p1 (zkf h46)) L fun a s L=>?_);have lt_og48_0:=L.blt 10 rfl;refine zdx 59 L op op Ud.h Tq.h h47 J J J J ka fun a s og48 hg_ L=>?_;have d49:=Dis.app hg_ d35 lt_og48_0;refine sA 1 L fun a s L=>?_;refine en' (H39 _ _ ?_);obtain ⟨h50,h⟩:=h;refine rg (sA 2 L fun a s L=>?_);refine en' ?_;exact hKL34 a s ⟨(out29++[r45]),(v31+1),og48,L.kk,d49,h⟩
   ·refine wp_exit ?_;exact J27 out29 og30 a s (L.kk) h
  ·refine wp_exit ?_;exact J6 out9 og10 a s (L.kk) h
 ·obtain ⟨r51,h52,h⟩:=h;refine ra 8 (p1 ((zqr h52).frz)) L fun a s L=>?_;refine wp_block ?_;have J55:∀(out53:(List Stwo_twice)) (og54:Option Nat) (a:Act) (s:St),Has N0 92 s0 a s [(8,(Pd.row En.Stwo_twice s0.w.heap.size 80 og54 out53))]→((zu.j3 r_) out53)→K3 a s.w:=by
   intro out53 og54 a s L h;unfold zu.j3 at h;show K3 a s.w;refine H3 _ _ ?_;obtain ⟨r56,h57,h⟩:=h;refine rs (sA 1 L fun a s L=>?_);refine zjw 90 (fun v0=>zfy v0 h57) L op (zs:=[.func 100]) (.cons o_isf .nil) J J J J kw fun a s L=>?_;refine es (rA 2 L fun a s L=>?_);subst h;exact wp_ret (zf3 J L J)
  obtain ⟨k61,h⟩:=h;refine lpn (fun k62 a s=>∃(out58:(List Stwo_twice)) (v60:Int) (og59:Option Nat),Has N0 92 s0 a s [(7,(Pd.rep (En.slice En.SBranch) r1)),(8,(Pd.row En.Stwo_twice s0.w.heap.size 80 og59 out58)),(67,(Pd.rep (En.slice En.SBranch) r51)),(68,(Pi (r51.length:Int))),(69,(Pi v60))]∧zu.l3 r1 r51 (zu.j3 r_) k62 out58 v60) k61 ⟨([]:(List Stwo_twice)),0,none,L.kk,h⟩ ?_;rintro k62 a s ⟨out58,v60,og59,L,h⟩ KL63 hKL63;unfold zu.l3 at h;refine rA 1 L fun a s L=>?_;refine wp_seq_k fun K64 H64=>cn L h (fun h=>?_) fun h=>?_
  ·refine wp_skip (H64 _ _ ?_);refine wp_seq_k fun K65 H65=>wp_block ?_;obtain ⟨e66,h67,h⟩:=h;refine rs (sl 2 (p1 h67) L fun a s L=>?_);have lt_d69:=L.rlt 8 rfl;refine zz En.SBranch (z:=([],0)) 14 L zhp J J J J fun a s g68 hg_ L=>?_;have d69:=Dis.newg hg_ lt_d69;refine sB 14 L fun s L=>?_;refine es (rA 3 L fun a s L=>?_);refine wp_block ?_;have J72:∀(out70:(List Stwo_twice)) (og71:Option Nat) (a:Act) (s:St),Has N0 92 s0 a s [(7,(Pd.rep (En.slice En.SBranch) r1)),(8,(Pd.row En.Stwo_twice s0.w.heap.size 80 og71 out70)),(67,(Pd.rep (En.slice En.SBranch) r51)),(68,(Pi (r51.length:Int))),(69,(Pi v60))]→((zu.j4 (zu.l3 r1 r51 (zu.j3 r_) k62) v60) out70)→K65 a s.w:=by
    intro out70 og71 a s L h;unfold zu.j4 at h;show K65 a s.w;refine H65 _ _ ?_;obtain ⟨h73,h⟩:=h;refine rg (sA 2 L fun a s L=>?_);refine en' ?_;exact hKL63 a s ⟨out70,(v60+1),og71,L.kk,h⟩
   obtain ⟨k77,h⟩:=h;refine lpn (fun k78 a s=>∃(out74:(List Stwo_twice)) (v76:Int) (og75:Option Nat),Has N0 92 s0 a s [(7,(Pd.rep (En.slice En.SBranch) r1)),(8,(Pd.row En.Stwo_twice s0.w.heap.size 80 og75 out74)),(14,(Pd.box En.SBranch s0.w.heap.size g68 e66)),(67,(Pd.rep (En.slice En.SBranch) r51)),(68,(Pi (r51.length:Int))),(69,(Pi v60)),(73,(Pd.rep (En.slice En.SBranch) r1)),(74,(Pi (r1.length:Int))),(75,(Pi v76))]∧Dis og75 (some g68)∧zu.l4 r1 e66 (zu.j4 (zu.l3 r1 r51 (zu.j3 r_) k62) v60) k78 out74 v76) k77 ⟨out58,0,og59,L.kk,(Dis.symm d69),h⟩ ?_;rintro k78 a s ⟨out74,v76,og75,L,d80,h⟩ KL79 hKL79;unfold zu.l4 at h;refine rA 1 L fun a s L=>?_;refine wp_seq_k fun K81 H81=>cn L h (fun h=>?_) fun h=>?_
   ·refine wp_skip (H81 _ _ ?_);refine wp_seq_k fun K82 H82=>wp_block ?_;obtain ⟨e83,h84,h⟩:=h;refine rs (sl 2 (p1 h84) L fun a s L=>?_);have lt_d87:=L.blt 14 rfl;have lt_d86:=L.rlt 8 rfl;refine zz En.SBranch (z:=([],0)) 16 L zhp J J J J fun a s g85 hg_ L=>?_;have d86:=Dis.newg hg_ lt_d86;have d87:=Dis.newg hg_ lt_d87;refine sB 16 L fun s L=>?_;refine es ?_;obtain ⟨r88,h89,h90,h⟩:=h;refine rg (sl 7 (p1 (zkf h89)) L fun a s L=>?_);have lt_og91_0:=L.blt 14 rfl;refine zdx 86 L op op Ud.h Tq.h h90 J J J J ka fun a s og91 hg_ L=>?_;have d92:=Dis.app hg_ d80 lt_og91_0;refine sA 1 L fun a s L=>?_;refine en' (H82 _ _ ?_);obtain ⟨h93,h⟩:=h;refine rg (sA 2 L fun a s L=>?_);refine en' ?_;exact hKL79 a s ⟨(out74++[r88]),(v76+1),og91,L.kk,d92,h⟩
   ·refine wp_exit ?_;exact J72 out74 og75 a s (L.kk) h
  ·refine wp_exit ?_;exact J55 out58 og59 a s (L.kk) h
theorem zmz {x_:Sof_twice} {t_:Stwo_twice} {r_:(List SOn_scantling_twice_two_search)} (h:z6 x_ t_ r_):Fn Tryz.prog 47 [(Pd.rep En.Sof_twice x_),(Pd.rep En.Stwo_twice t_)] (Ro En.SOn_scantling_twice_two_search 132 r_):=by
 unfold z6 at h;refine zbn Tryz.func47 J Tryz.ntmps47 (by rfl) (by simp) fun s0 a L=>?_;refine rs (sA 2 L fun a s L=>?_);refine sno En.SOn_scantling_twice_two_search 132 L fun a s L=>?_;refine es (rs ?_);refine sno En.SOn_scantling_twice_two_search 132 L fun a s L=>?_;refine es (wp_seq_k fun K1 H1=>?_);obtain ⟨r2,h3,h⟩:=h;refine ra 10 (p1 ((zrb h3).frz)) L fun a s L=>?_;refine wp_block ?_;have J6:∀(out4:(List SOn_scantling_twice_two_search)) (og5:Option Nat) (a:Act) (s:St),Has N0 41 s0 a s [(5,(Pd.row En.SOn_scantling_twice_two_search s0.w.heap.size 132 og5 out4))]→((z6.j1 r_) out4)→K1 a s.w:=by
  intro out4 og5 a s L h;unfold z6.j1 at h;show K1 a s.w;refine H1 _ _ (rA 2 L fun a s L=>?_);subst h;exact wp_ret (zf3 J L J)
 obtain ⟨k10,h⟩:=h;refine lpn (fun k11 a s=>∃(out7:(List SOn_scantling_twice_two_search)) (v9:Int) (og8:Option Nat),Has N0 41 s0 a s [(2,(Pd.ptr En.Sof_twice x_)),(3,(Pd.ptr En.Stwo_twice t_)),(5,(Pd.row En.SOn_scantling_twice_two_search s0.w.heap.size 132 og8 out7)),(17,(Pd.rep (En.slice (En.int .u8)) r2)),(18,(Pi (r2.length:Int))),(19,(Pi v9))]∧z6.l1 x_ t_ r2 (z6.j1 r_) k11 out7 v9) k10 ⟨([]:(List SOn_scantling_twice_two_search)),0,none,L.kk,h⟩ ?_;rintro k11 a s ⟨out7,v9,og8,L,h⟩ KL12 hKL12;unfold z6.l1 at h;refine rA 1 L fun a s L=>?_;refine wp_seq_k fun K13 H13=>cn L h (fun h=>?_) fun h=>?_
 ·refine wp_skip (H13 _ _ ?_);refine wp_seq_k fun K14 H14=>wp_block ?_;obtain ⟨e15,h16,h⟩:=h;refine ra 3 (p1 h16) L fun a s L=>?_;obtain ⟨r17,h18,h⟩:=h;refine ra 6 (p1 ((zpk h18).frz)) L fun a s L=>?_;refine wp_block ?_;have J21:∀(out19:(List SOn_scantling_twice_two_search)) (og20:Option Nat) (a:Act) (s:St),Has N0 41 s0 a s [(2,(Pd.ptr En.Sof_twice x_)),(3,(Pd.ptr En.Stwo_twice t_)),(5,(Pd.row En.SOn_scantling_twice_two_search s0.w.heap.size 132 og20 out19)),(17,(Pd.rep (En.slice (En.int .u8)) r2)),(18,(Pi (r2.length:Int))),(19,(Pi v9))]→((z6.j2 (z6.l1 x_ t_ r2 (z6.j1 r_) k11) v9) out19)→K14 a s.w:=by
   intro out19 og20 a s L h;unfold z6.j2 at h;show K14 a s.w;refine H14 _ _ ?_;obtain ⟨h22,h⟩:=h;refine rg (sA 2 L fun a s L=>?_);refine en' ?_;exact hKL12 a s ⟨out19,(v9+1),og20,L.kk,h⟩
  obtain ⟨k26,h⟩:=h;refine lpn (fun k27 a s=>∃(out23:(List SOn_scantling_twice_two_search)) (v25:Int) (og24:Option Nat),Has N0 41 s0 a s [(2,(Pd.ptr En.Sof_twice x_)),(3,(Pd.ptr En.Stwo_twice t_)),(5,(Pd.row En.SOn_scantling_twice_two_search s0.w.heap.size 132 og24 out23)),(7,(Pd.rep (En.int .u8) e15)),(17,(Pd.rep (En.slice (En.int .u8)) r2)),(18,(Pi (r2.length:Int))),(19,(Pi v9)),(26,(Pd.rep (En.slice En.Stwo_twice) r17)),(27,(Pi (r17.length:Int))),(28,(Pi v25))]∧z6.l2 e15 r17 (z6.j2 (z6.l1 x_ t_ r2 (z6.j1 r_) k11) v9) k27 out23 v25) k26 ⟨out7,0,og8,L.kk,h⟩ ?_;rintro k27 a s ⟨out23,v25,og24,L,h⟩ KL28 hKL28;unfold z6.l2 at h;refine rA 1 L fun a s L=>?_;refine wp_seq_k fun K29 H29=>cn L h (fun h=>?_) fun h=>?_
  ·refine wp_skip (H29 _ _ ?_);refine wp_seq_k fun K30 H30=>wp_block ?_;obtain ⟨e31,h32,h⟩:=h;refine rs (sl 2 (p1 h32) L fun a s L=>?_);have lt_d34:=L.rlt 5 rfl;refine zz En.Stwo_twice (z:=([],[],false)) 9 L tyz80 J J J J fun a s g33 hg_ L=>?_;have d34:=Dis.newg hg_ lt_d34;refine sB 9 L fun s L=>?_;refine es ?_;obtain ⟨h35,h⟩:=h;refine rg (sA 3 L fun a s L=>?_);refine sv (zbj (x:=(e15,e31)) (ps:=[(0,.tmp 33),(1,.tmp 34)]) tyz132 J stt132 (.cons (i:=0) op J (z7 (zo _ _ _)) (.cons (i:=1) op J (zk (zo _ _ _) J) .nil)) J J) L fun a s L=>?_;refine sA 1 L fun a s L=>?_;refine zdx 37 L op op Ud.h Tq.h h35 J J J J ka fun a s og36 hg_ L=>?_;refine sA 1 L fun a s L=>?_;refine en' (H30 _ _ ?_);obtain ⟨h37,h⟩:=h;refine rg (sA 2 L fun a s L=>?_);refine en' ?_;exact hKL28 a s ⟨(out23++[(e15,e31)]),(v25+1),og36,L.kk,h⟩
  ·refine wp_exit ?_;exact J21 out23 og24 a s (L.kk) h
 ·refine wp_exit ?_;exact J6 out7 og8 a s (L.kk) h
theorem znx {x_:Sof_twice} {t_:Stwo_twice} {r_:Bool} (h:zee x_ t_ r_):Fn Tryz.prog 48 [(Pd.rep En.Sof_twice x_),(Pd.rep En.Stwo_twice t_)] (Rq (Pd.rep En.bool r_)):=by
 unfold zee at h;refine zbn Tryz.func48 J Tryz.ntmps48 (by rfl) (by simp) fun s0 a L=>?_;refine rA 3 L fun a s L=>?_;refine wp_seq_k fun K1 H1=>rA 2 L fun a s L=>?_;refine cn L h (fun h=>?_) fun h=>?_
 ·obtain ⟨r2,h3,r4,h5,h⟩:=h;refine ra 15 (pp (zji h3) (pp (fun hc_=>(zji (h5 hc_))) trivial)) L fun a s L=>?_;subst h;exact wp_ret (zdr J L J)
 ·refine wp_skip (H1 _ _ ?_);obtain ⟨r6,h7,h⟩:=h;refine ra 7 (p1 (zji h7)) L fun a s L=>?_;subst h;exact wp_ret (zdr J L J)
theorem twice_key_ok {t_:Stwo_twice} {r_:Str} (h:zgm t_ r_):Fn Tryz.prog 46 [(Pd.rep En.Stwo_twice t_)] (Rq (Pd.rep En.str r_)):=by
 unfold zgm at h;refine zbn Tryz.func46 J Tryz.ntmps46 (by rfl) (by simp) fun s0 a L=>?_;refine rs (sA 1 L fun a s L=>?_);refine sv (zp (o_s (by decide)) J J) L fun a s L=>?_;refine es ?_;obtain ⟨r1,h2,h3,r4,h5,h6,h⟩:=h;refine wp_seq (rda zck 8 [(Pd.ptr (En.slice En.SItem) t_.1),(Pd.rep (En.slice En.SItem) t_.1),(Pd.rep En.str r1),(Pd.rep En.str (r1++([124]:Str))),(Pd.ptr (En.slice En.SItem) t_.2.1),(Pd.rep (En.slice En.SItem) t_.2.1),(Pd.rep En.str r4),(Pd.rep En.str ((r1++([124]:Str))++r4))] L (by kernel_rfl) J J ?_ ?_)
 ·refine zbe.cons (zdb (off:=0) (O 1 J) U80 J (zx (zn _ _)) J ty77 J J) ?_;refine zbe.cons (zw ty77 (O 4 J) J J) ?_;refine zbe.cons (zdl (zgz h2) (xs:=[.tmp 5]) (.cons (O 5 J) .nil) J J) ?_;refine zbe.cons (zq4 (O 6 J) (o_s (by decide)) h3 J J) ?_;refine zbe.cons (zdb (off:=1) (O 1 J) U80 J (ze (zx (zn _ _)) J) J ty77 J J) ?_;refine zbe.cons (zw ty77 (O 8 J) J J) ?_;refine zbe.cons (zdl (zgz h5) (xs:=[.tmp 9]) (.cons (O 9 J) .nil) J J) ?_;refine zbe.cons (zq4 (O 7 J) (O 10 J) h6 J J) ?_;exact zbe.nil
 intro a s _ L;replace L:=L.kk (L':=[(1,(Pd.ptr En.Stwo_twice t_)),(11,(Pd.rep En.str ((r1++([124]:Str))++r4)))]);refine dp ?_;refine sA 1 L fun a s L=>?_;refine es (wp_seq_k fun K7 H7=>?_);refine rA 2 L fun a s L=>?_;refine cn L h (fun h=>?_) fun h=>?_
 ·obtain ⟨h8,h⟩:=h;refine rs (sA 1 L fun a s L=>?_);refine sv (zq4 op (o_s (by decide)) h8 J J) L fun a s L=>?_;refine sA 1 L fun a s L=>?_;refine es ?_;subst h;exact wp_ret (zdr J L J)
 ·refine wp_skip (H7 _ _ ?_);refine rA 2 L fun a s L=>?_;subst h;exact wp_ret (zdr J L J)
theorem zcf {d_:SDesc} {budget_:Int} {r_:SVerdict} (h:zbt d_ budget_ r_):Fn Tryz.prog 19 [(Pd.rep En.SDesc d_),(Pi budget_)] (Rq (Pd.rep En.SVerdict r_)):=by
 unfold zbt at h;refine zbn Tryz.func19 J Tryz.ntmps19 (by rfl) (by simp) fun s0 a L=>?_;refine rs (sA 1 L fun a s L=>?_);refine zz En.SVerdict (z:=(0,[],[],0,0,0,0)) 4 L znv J J J J fun a s g1 hg_ L=>?_;refine es (rs ?_);refine sA 1 L fun a s L=>?_;refine sv (zbj (x:=d_) (ps:=[(0,.tmp 7)]) tyz75 J stt75 (.cons (i:=0) op J (zju (zo _ _ _)) .nil) J J) L fun a s L=>?_;have lt_d3:=L.blt 4 rfl;refine zz En.Sof_twice (z:=[]) 5 L tyz75 J J J J fun a s g2 hg_ L=>?_;have d3:=Dis.newg hg_ lt_d3;refine sB 5 L fun s L=>?_;refine es ?_;obtain ⟨r4,h5,h⟩:=h;refine ra 3 (p1 ((zr5 h5).frz)) L fun a s L=>?_;obtain ⟨r6,h7,h⟩:=h;refine rs (sA 2 L fun a s L=>?_);refine sv (zbj (x:=(r4,r4,false)) (ps:=[(0,.tmp 11),(1,.tmp 12),(2,.const (.bool false))]) tyz80 J stt80 (.cons (i:=0) op J (z7 (zo _ _ _)) (.cons (i:=1) op J (zk (z7 (zo _ _ _)) J) (.cons (i:=2) o_b J (zk (zk (zo _ _ _) J) J) .nil))) J J) L fun a s L=>?_;refine sA 1 L fun a s L=>?_;refine sv (t_q (Pd.rep EnF84 (fun q_=>z6 d_ q_.1 q_.2)) (t_mkmeth (cs:=[.tmp 14]) (.cons op .nil) (ze1 Tryz.func47 J (by rfl)) (zfw enc_rep zf9) (fun q_ h_=>(zmz h_).frz) J J)) L fun a s L=>?_;refine sA 1 L fun a s L=>?_;refine sv (t_q (Pd.rep EnF85 (fun q_=>zee d_ q_.1 q_.2)) (t_mkmeth (cs:=[.tmp 16]) (.cons op .nil) (ze1 Tryz.func48 J (by rfl)) (zfw enc_rep zf9) (fun q_ h_=>znx h_) J J)) L fun a s L=>?_;refine sv (zbj (x:=((r4,r4,false),(fun q_=>zgm q_.1 q_.2),(fun q_=>z6 d_ q_.1 q_.2),(fun q_=>zee d_ q_.1 q_.2))) (ps:=[(0,.tmp 13),(1,.func 46),(2,.tmp 15),(3,.tmp 17)]) tyz87 J stt87 (.cons (i:=0) op J (z7 (zo _ _ _)) (.cons (i:=1) (o_q (Pd.rep EnF83 (fun q_=>zgm q_.1 q_.2)) (o_fun (ze1 Tryz.func46 J (by rfl)) (fun q_ h_=>twice_key_ok h_))) J (zk (z7 (zo _ _ _)) J) (.cons (i:=2) op J (zk (zk (z7 (zo _ _ _)) J) J) (.cons (i:=3) op J (zk (zk (zk (zo _ _ _) J) J) J) .nil)))) J J) L fun a s L=>?_
 refine sl 3 (p1 (zfz h7)) L fun a s L=>?_;refine sB 4 L fun s L=>?_;refine es ?_;subst h;exact wp_ret (retb J ty32 L J)
theorem zkl  {r_:Bool} (h:zgy  r_):Fn Tryz.prog 17 [] (Rq (Pd.rep En.bool r_)):=by
 unfold zgy at h;refine zbn Tryz.func17 J Tryz.ntmps17 (by rfl) (by simp) fun s0 a L=>?_;refine rA 1 L fun a s L=>?_;obtain ⟨r1,h2,h⟩:=h;refine rs (sl 1 (p1 (ref01_Row_ok h2)) L fun a s L=>?_);refine sv (zbj (x:=(2,0,0,0,0,r1,([]:Str))) (ps:=[(0,.const (.int .i64 2)),(5,.tmp 8)]) zko J stt42 (.cons (i:=0) op J (z7 (zo _ _ _)) (.cons (i:=5) op J (zk (zk (zk (zk (zk (z7 (zo _ _ _)) J) J) J) J) J) .nil)) J J) L fun a s L=>?_;refine sA 1 L fun a s L=>?_;refine sv (zbj (x:=[(2,0,0,0,0,r1,([]:Str))]) (ps:=[(0,.tmp 10)]) znw J stt24 (.cons (i:=0) op J (zju (zo _ _ _)) .nil) J J) L fun a s L=>?_;refine zz En.SDesc (z:=[]) 1 L znw J J J J fun a s g3 hg_ L=>?_;refine sB 1 L fun s L=>?_;refine es (rs ?_);refine sv (zbj (x:=(3,0,0,0,0,(0#256),([97]:Str))) (ps:=[(0,.const (.int .i64 3)),(6,.const (.string ⟨#[97]⟩))]) zko J stt42 (.cons (i:=0) op J (z7 (zo _ _ _)) (.cons (i:=6) (o_s (by decide)) J (zk (zk (zk (zk (zk (zk (zo _ _ _) J) J) J) J) J) J) .nil)) J J) L fun a s L=>?_;refine sA 1 L fun a s L=>?_;refine sv (zbj (x:=[(3,0,0,0,0,(0#256),([97]:Str))]) (ps:=[(0,.tmp 13)]) znw J stt24 (.cons (i:=0) op J (zju (zo _ _ _)) .nil) J J) L fun a s L=>?_;have lt_d5:=L.blt 1 rfl;refine zz En.SDesc (z:=[]) 2 L znw J J J J fun a s g4 hg_ L=>?_;have d5:=Dis.newg hg_ lt_d5;refine sB 2 L fun s L=>?_;refine es (rs ?_);refine sv (zbj (x:=(2,0,0,0,0,(0#256),([]:Str))) (ps:=[(0,.const (.int .i64 2))]) zko J stt42 (.cons (i:=0) op J (z7 (zo _ _ _)) .nil) J J) L fun a s L=>?_;refine sA 1 L fun a s L=>?_;refine sv (zbj (x:=[(2,0,0,0,0,(0#256),([]:Str))]) (ps:=[(0,.tmp 16)]) znw J stt24 (.cons (i:=0) op J (zju (zo _ _ _)) .nil) J J) L fun a s L=>?_
 have lt_d8:=L.blt 2 rfl;have lt_d7:=L.blt 1 rfl;refine zz En.SDesc (z:=[]) 3 L znw J J J J fun a s g6 hg_ L=>?_;have d7:=Dis.newg hg_ lt_d7;have d8:=Dis.newg hg_ lt_d8;refine sB 3 L fun s L=>?_;refine es ?_;obtain ⟨r9,h10,h⟩:=h;refine rs (sl 3 (p1 (zfe h10)) L fun a s L=>?_);have lt_d14:=L.blt 3 rfl;have lt_d13:=L.blt 2 rfl;have lt_d12:=L.blt 1 rfl;refine zz En.SDesc (z:=[]) 4 L znw J J J J fun a s g11 hg_ L=>?_;have d12:=Dis.newg hg_ lt_d12;have d13:=Dis.newg hg_ lt_d13;have d14:=Dis.newg hg_ lt_d14;refine sB 4 L fun s L=>?_;refine es ?_;obtain ⟨r15,h16,h⟩:=h;refine rs (sl 2 (p1 (zcf h16)) L fun a s L=>?_);have lt_d20:=L.blt 4 rfl;have lt_d19:=L.blt 3 rfl;have lt_d18:=L.blt 1 rfl;refine zz En.SVerdict (z:=(0,[],[],0,0,0,0)) 5 L znv J J J J fun a s g17 hg_ L=>?_;have d18:=Dis.newg hg_ lt_d18;have d19:=Dis.newg hg_ lt_d19;have d20:=Dis.newg hg_ lt_d20;replace L:=L.dr (some g4);refine sB 5 L fun s L=>?_;refine es ?_;obtain ⟨r21,h22,r23,h24,h⟩:=h;refine rs (sl 4 (pp (zfe h22) (p1 (zcf h24))) L fun a s L=>?_);have lt_d29:=L.blt 5 rfl;have lt_d28:=L.blt 4 rfl;have lt_d27:=L.blt 3 rfl;have lt_d26:=L.blt 1 rfl;refine zz En.SVerdict (z:=(0,[],[],0,0,0,0)) 6 L znv J J J J fun a s g25 hg_ L=>?_;have d26:=Dis.newg hg_ lt_d26;have d27:=Dis.newg hg_ lt_d27;have d28:=Dis.newg hg_ lt_d28;have d29:=Dis.newg hg_ lt_d29;refine sB 6 L fun s L=>?_;refine es ?_;obtain ⟨r30,h31,h⟩:=h;refine rs (sl 2 (p1 (zcf h31)) L fun a s L=>?_);have lt_d35:=L.blt 6 rfl;have lt_d34:=L.blt 5 rfl;have lt_d33:=L.blt 1 rfl
 refine zz En.SVerdict (z:=(0,[],[],0,0,0,0)) 7 L znv J J J J fun a s g32 hg_ L=>?_;have d33:=Dis.newg hg_ lt_d33;have d34:=Dis.newg hg_ lt_d34;have d35:=Dis.newg hg_ lt_d35;replace L:=L.dr (some g11);replace L:=L.dr (some g6);refine sB 7 L fun s L=>?_;refine es ?_;obtain ⟨r36,h37,b38,h39,r40,h41,r42,h43,b44,h45,h⟩:=h;refine ra 37 (pp (fun hc_=>(zpw (h37 hc_))) (pp h39 (pp (fun hc_=>(zcf (h41 hc_))) (pp (fun hc_=>(zcf (h43 hc_))) (p1 h45))))) L fun a s L=>?_;subst h;exact wp_ret (zdr J L J)
theorem zmq {d_:SDesc} {r_:Bool} (h:zjm d_ r_):Fn Tryz.prog 18 [(Pd.rep En.SDesc d_)] (Rq (Pd.rep En.bool r_)):=by
 unfold zjm at h;refine zbn Tryz.func18 J Tryz.ntmps18 (by rfl) (by simp) fun s0 a L=>?_;refine rA 2 L fun a s L=>?_;obtain ⟨r1,h2,r3,h4,b5,h6,r7,h8,h⟩:=h;refine ra 18 (pp (ref04_Few_ok h2) (pp (fun hc_=>(zoe (h4 hc_))) (pp h6 (pp (fun hc_=>(zpt (h8 hc_))) trivial)))) L fun a s L=>?_;subst h;exact wp_ret (zdr J L J)
theorem law20_TwiceParts_ok {d_:SDesc} {ev_:SDesc} {w_:(List Int)} {r_:Bool} (h:zf7 d_ ev_ w_ r_):Fn Tryz.prog 4 [(Pd.rep En.SDesc d_),(Pd.rep En.SDesc ev_),(Pd.rep (En.slice (En.int .u8)) w_)] (Rq (Pd.rep En.bool r_)):=by
 unfold zf7 at h;refine zbn Tryz.func4 J Tryz.ntmps4 (by rfl) (by simp) fun s0 a L=>?_;refine rA 3 L fun a s L=>?_;refine wp_seq_k fun K1 H1=>?_;obtain ⟨r2,h3,r4,h5,r6,h7,b8,h9,b10,h11,h⟩:=h;refine ra 29 (pp (zkl h3) (pp (fun hc_=>(zmq (h5 hc_))) (pp (fun hc_=>(zmq (h7 hc_))) (pp h9 (p1 h11))))) L fun a s L=>?_;refine cn L h (fun h=>?_) fun h=>?_
 ·obtain ⟨r12,h13,h⟩:=h;refine ra 2 (p1 (zkl h13)) L fun a s L=>?_;subst h;exact wp_ret (zdr J L J)
 ·refine wp_skip (H1 _ _ ?_);obtain ⟨r14,h15,h⟩:=h;refine ra 4 (p1 (zog h15)) L fun a s L=>?_;obtain ⟨r16,h17,r18,h19,h⟩:=h;refine rs (sl 5 (pp (zfe h17) (p1 (zcf h19))) L fun a s L=>?_);refine zz En.SVerdict (z:=(0,[],[],0,0,0,0)) 8 L znv J J J J fun a s g20 hg_ L=>?_;refine sB 8 L fun s L=>?_;refine es ?_;obtain ⟨r21,h22,r23,h24,h⟩:=h;refine rs (sl 5 (pp (zfe h22) (p1 (zcf h24))) L fun a s L=>?_);have lt_d26:=L.blt 8 rfl;refine zz En.SVerdict (z:=(0,[],[],0,0,0,0)) 9 L znv J J J J fun a s g25 hg_ L=>?_;have d26:=Dis.newg hg_ lt_d26;refine sB 9 L fun s L=>?_;refine es ?_;obtain ⟨r27,h28,h⟩:=h;refine ra 4 (p1 (zk8 h28)) L fun a s L=>?_;obtain ⟨r29,h30,h⟩:=h;refine ra 4 (p1 (zk8 h30)) L fun a s L=>?_;refine wp_seq_k fun K31 H31=>?_;obtain ⟨h32,h⟩:=h;refine rA 9 L fun a s L=>?_;refine cn L h (fun h=>?_) fun h=>?_
  ·refine rA 1 L fun a s L=>?_;subst h;exact wp_ret (zdr J L J)
  ·refine wp_skip (H31 _ _ ?_);refine wp_seq_k fun K33 H33=>?_;obtain ⟨r34,h35,r36,h37,b38,h39,h⟩:=h;refine ra 23 (pp (fun hc_=>(zcf (h35 hc_))) (pp (fun hc_=>(count_Has_ok (h37 hc_))) (p1 h39))) L fun a s L=>?_;refine cn L h (fun h=>?_) fun h=>?_
   ·refine rA 1 L fun a s L=>?_;subst h;exact wp_ret (zdr J L J)
   ·refine wp_skip (H33 _ _ ?_);refine rs (sv (zbj (x:=(1,0,0,0,0,(0#256),([]:Str))) (ps:=[(0,.const (.int .i64 1))]) zko J stt42 (.cons (i:=0) op J (z7 (zo _ _ _)) .nil) J J) L fun a s L=>?_);refine sA 1 L fun a s L=>?_;refine sv (zbj (x:=[(1,0,0,0,0,(0#256),([]:Str))]) (ps:=[(0,.tmp 97)]) znw J stt24 (.cons (i:=0) op J (zju (zo _ _ _)) .nil) J J) L fun a s L=>?_;have lt_d42:=L.blt 9 rfl;have lt_d41:=L.blt 8 rfl;refine zz En.SDesc (z:=[]) 12 L znw J J J J fun a s g40 hg_ L=>?_;have d41:=Dis.newg hg_ lt_d41;have d42:=Dis.newg hg_ lt_d42;refine sB 12 L fun s L=>?_;refine es ?_;obtain ⟨r43,h44,r45,h46,h⟩:=h;refine rs (sl 5 (pp (zfe h44) (p1 (zcf h46))) L fun a s L=>?_);have lt_d48:=L.blt 12 rfl;refine zz En.SVerdict (z:=(0,[],[],0,0,0,0)) 13 L znv J J J J fun a s g47 hg_ L=>?_;have d48:=Dis.newg hg_ lt_d48;replace L:=L.dr (some g20);replace L:=L.dr (some g25);refine sB 13 L fun s L=>?_;refine es ?_;obtain ⟨r49,h50,h⟩:=h;refine rs (sl 3 (p1 (zcf h50)) L fun a s L=>?_);have lt_d52:=L.blt 13 rfl;refine zz En.SVerdict (z:=(0,[],[],0,0,0,0)) 14 L znv J J J J fun a s g51 hg_ L=>?_;have d52:=Dis.newg hg_ lt_d52;replace L:=L.dr (some g40);refine sB 14 L fun s L=>?_;refine es ?_;obtain ⟨b53,h54,h⟩:=h;refine ra 25 (p1 h54) L fun a s L=>?_;subst h;exact wp_ret (zdr J L J)
def Lv (d:List SNode) (s:List SItem) (l:List (List SItem)):Prop:=∃h,lv d h s=some l
theorem Lv.uniq {d:List SNode} {s:List SItem} {l m:List (List SItem)} (h:Lv d s l) (k:Lv d s m):l=m:=by
 obtain ⟨a,ha⟩:=h;obtain ⟨b,hb⟩:=k;have h1:=zjk (Nat.le_max_left a b) ha;have h2:=zjk (Nat.le_max_right a b) hb;rw [h1] at h2;exact Option.some.inj h2
theorem Lv.ready {d:List SNode} {s:List SItem} (h:rdy d s=true):Lv d s [s]:=⟨1,by simp [lv,h]⟩
theorem lv_list {d:List SNode}:∀(ss:List (List SItem)) (f:List SItem→List (List SItem)),(∀t∈ss,Lv d t (f t))→∃h,ss.mapM (lv d h)=some (ss.map f)
 | [],_,_=>⟨0,rfl⟩
 | s::ss,f,hs=>by
  obtain ⟨h1,e1⟩:=hs s (by simp);obtain ⟨h2,e2⟩:=lv_list ss f fun t ht=>hs t (by simp [ht]);refine ⟨max h1 h2, ?_⟩;rw [List.mapM_cons,zjk (Nat.le_max_left h1 h2) e1,zow (fun a b hb=>zjk (Nat.le_max_right h1 h2) hb) _ _ e2];rfl
theorem Lv.open {d:List SNode} {s:List SItem} (hr:rdy d s=false) (f:List SItem→List (List SItem)) (h:∀t∈opn d s,Lv d t (f t)):Lv d s ((opn d s).map f).flatten:=by
 obtain ⟨k,e⟩:=lv_list _ f h;exact ⟨k+1,by unfold lv;rw [if_neg (by rw [hr];simp),e];rfl⟩
def PM (d:List SNode):Nat→Int→List (List SItem) × Nat
 | 0,_=>([],0)
 | k+1,i=>match at? d i with
  | none=>([],0)
  | some n=>
   if n.1=1 then ([],1)
   else if n.1=3 then ([[(3,i,0,0)]],0)
   else if n.1=4 then ((PM d k n.2.1).1.map (·++[(1,n.2.2.1,0,0)])++(List.replicate (PM d k n.2.1).2 (PM d k n.2.2.1).1).flatten,(PM d k n.2.1).2*(PM d k n.2.2.1).2)
   else if n.1=5 then ((PM d k n.2.1).1++(PM d k n.2.2.1).1,(PM d k n.2.1).2+(PM d k n.2.2.1).2)
   else if n.1=6 then ((PM d k n.2.1).1.map (·++[(1,i,0,0)]),1)
   else if n.1=7 then (if 0<n.2.2.2.2.1 then (PM d k n.2.1).1.map (·++[(2,i,max (n.2.2.2.1-1) 0,n.2.2.2.2.1-1)]) else [],if n.2.2.2.1=0 then 1 else 0)
   else ([[(1,i,0,0)]],0)
theorem zis {d:List SNode} (hd:ROk d):∀(k k':Nat) (i:Int),i<(k:Int)→i<(k':Int)→PM d k i=PM d k' i
 | 0,k',i,h,h'=>by
  cases k' with
  | zero=>rfl
  | succ k'=>
   have:at? d i=none:=by
    unfold at?;rw [if_neg (by omega)]
   simp [PM,this]
 | k+1,0,i,h,h'=>by
  have:at? d i=none:=by
   unfold at?;rw [if_neg (by omega)]
  simp [PM,this]
 | k+1,k'+1,i,h,h'=>by
  cases hn:at? d i with
  | none=>simp only [PM,hn]
  | some n=>
   simp only [PM,hn]
   by_cases h1:n.1=1
   ·simp [h1]
   ·by_cases h3:n.1=3
    ·simp [h3]
    ·by_cases h4:n.1=4
     ·obtain ⟨⟨a,b⟩,c,e⟩:=hd.two _ n hn (.inl h4);rw [zis hd k k' n.2.1 (by omega) (by omega),zis hd k k' n.2.2.1 (by omega) (by omega)]
     ·by_cases h5:n.1=5
      ·obtain ⟨⟨a,b⟩,c,e⟩:=hd.two _ n hn (.inr h5);rw [zis hd k k' n.2.1 (by omega) (by omega),zis hd k k' n.2.2.1 (by omega) (by omega)]
      ·by_cases h6:n.1=6
       ·obtain ⟨a,b⟩:=hd.one _ n hn (.inl h6);rw [zis hd k k' n.2.1 (by omega) (by omega)];simp [h6]
       ·by_cases h7:n.1=7
        ·obtain ⟨a,b⟩:=hd.one _ n hn (.inr (.inl h7));rw [zis hd k k' n.2.1 (by omega) (by omega)];simp [h7]
        ·simp [h1,h3,h4,h5,h6,h7]
def pm (d:List SNode) (i:Int):List (List SItem):=(PM d d.length i).1
def nw (d:List SNode) (i:Int):Nat:=(PM d d.length i).2
theorem zit {d:List SNode} (hd:ROk d) {i:Int} {n:SNode} (hn:at? d i=some n):PM d d.length i =
  (if n.1=1 then ([],1)
   else if n.1=3 then ([[(3,i,0,0)]],0)
   else if n.1=4 then ((pm d n.2.1).map (·++[(1,n.2.2.1,0,0)])++(List.replicate (nw d n.2.1) (pm d n.2.2.1)).flatten,nw d n.2.1*nw d n.2.2.1)
   else if n.1=5 then (pm d n.2.1++pm d n.2.2.1,nw d n.2.1+nw d n.2.2.1)
   else if n.1=6 then ((pm d n.2.1).map (·++[(1,i,0,0)]),1)
   else if n.1=7 then (if 0<n.2.2.2.2.1 then (pm d n.2.1).map (·++[(2,i,max (n.2.2.2.1-1) 0,n.2.2.2.2.1-1)]) else [],if n.2.2.2.1=0 then 1 else 0)
   else ([[(1,i,0,0)]],0)):=by
 obtain ⟨hb0,hb1⟩:=zbq hn;rw [zis hd d.length (d.length+1) i hb1 (by omega)];simp only [PM,hn,pm,nw]
theorem zkr {d:List SNode} (hd:ROk d):∀(k:Nat) (i:Int) (n:SNode),i<(k:Int)→at? d i=some n→(nw d i≠0↔nz d i=true)
 | 0,i,n,hi,hn=>by have:=zbq hn;omega
 | k+1,i,n,hi,hn=>by
  have e:=zit hd hn;have en:nw d i=(PM d d.length i).2:=rfl;rw [en,e,nz_at hd hn]
  by_cases h1:n.1=1
  ·simp [h1]
  ·by_cases h3:n.1=3
   ·simp [h3]
   ·by_cases h4:n.1=4
    ·obtain ⟨⟨a,b⟩,c,e⟩:=hd.two _ n hn (.inl h4);obtain ⟨m1,hm1⟩:=zdg hn a b;obtain ⟨m2,hm2⟩:=zdg hn c e;have i1:=zkr hd k _ m1 (by omega) hm1;have i2:=zkr hd k _ m2 (by omega) hm2;rw [if_neg h1,if_neg h3,if_pos h4,if_neg h1,if_pos h4,Bool.and_eq_true,← i1,← i2];simp only;rw [Nat.mul_ne_zero_iff]
    ·by_cases h5:n.1=5
     ·obtain ⟨⟨a,b⟩,c,e⟩:=hd.two _ n hn (.inr h5);obtain ⟨m1,hm1⟩:=zdg hn a b;obtain ⟨m2,hm2⟩:=zdg hn c e;have i1:=zkr hd k _ m1 (by omega) hm1;have i2:=zkr hd k _ m2 (by omega) hm2;rw [if_neg h1,if_neg h3,if_neg h4,if_pos h5,if_neg h1,if_neg h4,if_pos h5,Bool.or_eq_true,← i1,← i2];simp only;omega
     ·by_cases h6:n.1=6
      ·simp [h6]
      ·by_cases h7:n.1=7
       ·by_cases h0:n.2.2.2.1=0 <;> simp [h7,h0]
       ·simp [h1,h3,h4,h5,h6,h7]
def pmI (d:List SNode) (x:SItem):List (List SItem):=
 if x.1=1 then pm d x.2.1
 else if x.1=2 then (match at? d x.2.1 with | some n=>if 0<x.2.2.2 then (pm d n.2.1).map (·++[(2,x.2.1,max (x.2.2.1-1) 0,x.2.2.2-1)]) else [] | none=>[])
 else if x.1=5 then [] else [[x]]
def nwI (d:List SNode) (x:SItem):Nat:=
 if x.1=1 then nw d x.2.1 else if x.1=2 then (if x.2.2.1=0 then 1 else 0) else if x.1=5 then (if x.2.2.1=0 then 1 else 0) else 0
abbrev Told (d:List SNode) (P:List (List SItem)) (m:Nat) (rest:List SItem) (s:List SItem):Prop:=
 ∀lr,(m≠0→Lv d rest lr)→∃l,Lv d s l∧l.Perm (P.map (·++rest)++(List.replicate m lr).flatten)
theorem perm_flat {α:Type} {a b:List α} (h:a.Perm b) (m:Nat):(List.replicate m a).flatten.Perm (List.replicate m b).flatten:=by
 induction m with
 | zero=>exact .refl _
 | succ m ih=>
  rw [List.replicate_succ,List.replicate_succ,List.flatten_cons,List.flatten_cons];exact h.append ih
theorem rep_split {α:Type} (m:Nat) (a b:List α):(List.replicate m (a++b)).flatten.Perm ((List.replicate m a).flatten++(List.replicate m b).flatten):=by
 induction m with
 | zero=>exact .refl _
 | succ m ih=>
  simp only [List.replicate_succ,List.flatten_cons];refine (ih.append_left (a++b)).trans ?_;rw [List.append_assoc,List.append_assoc];refine List.Perm.append_left a ?_;rw [← List.append_assoc,← List.append_assoc];exact (List.perm_append_comm).append_right _
theorem rep_rep {α:Type} (m k:Nat) (a:List α):(List.replicate m (List.replicate k a).flatten).flatten=(List.replicate (m*k) a).flatten:=by
 induction m with
 | zero=>simp
 | succ m ih=>rw [List.replicate_succ,List.flatten_cons,ih,Nat.succ_mul,Nat.add_comm,← List.replicate_append_replicate,List.flatten_append]
theorem rep_map {α β:Type} (f:α→β) (m:Nat) (a:List α):((List.replicate m a).flatten).map f=(List.replicate m (a.map f)).flatten:=by
 rw [List.map_flatten,List.map_replicate]
theorem told_seq {d:List SNode} {P1 P2:List (List SItem)} {m1 m2:Nat} {b:SItem} {rest s:List SItem} (h1:Told d P1 m1 (b::rest) s) (h2:Told d P2 m2 rest (b::rest)):Told d (P1.map (·++[b])++(List.replicate m1 P2).flatten) (m1*m2) rest s:=by
 intro lr hlr;have key:∃lb,(m1≠0→Lv d (b::rest) lb∧lb.Perm (P2.map (·++rest)++(List.replicate m2 lr).flatten)):=by
  by_cases h:m1=0
  ·exact ⟨[],fun k=>absurd h k⟩
  ·obtain ⟨lb,k1,k2⟩:=h2 lr fun k=>hlr (Nat.mul_ne_zero h k);exact ⟨lb,fun _=>⟨k1,k2⟩⟩
 obtain ⟨lb,hlb⟩:=key;obtain ⟨l,k1,k2⟩:=h1 lb fun k=>(hlb k).1;refine ⟨l,k1,k2.trans ?_⟩;have e1:P1.map (·++b::rest)=(P1.map (·++[b])).map (·++rest):=by
  rw [List.map_map];apply List.map_congr_left;intro p _;simp
 rw [e1,List.map_append,List.append_assoc];refine List.Perm.append_left _ ?_
 by_cases h:m1=0
 ·subst h;simp
 ·refine (perm_flat (hlb h).2 m1).trans ?_;refine (rep_split m1 _ _).trans ?_;rw [rep_map,rep_rep]
theorem zox {d:List SNode} {s t:List SItem} (hr:rdy d s=false) (ho:opn d s=[t]) {l:List (List SItem)} (h:Lv d t l):Lv d s l:=by
 have:=Lv.open hr (fun _=>l) (fun x hx=>by rw [ho] at hx;rw [List.mem_singleton.1 hx];exact h);rw [ho] at this;simpa using this
theorem lv_two {d:List SNode} {s t u:List SItem} (hr:rdy d s=false) (ho:opn d s=[t,u]) {l m:List (List SItem)} (h:Lv d t l) (k:Lv d u m):Lv d s (l++m):=by
 by_cases htu:t=u
 ·subst htu;rw [k.uniq h];have:=Lv.open hr (fun _=>l) (fun x hx=>by rw [ho] at hx;simp at hx;rw [hx];exact h);rw [ho] at this;simpa using this
 ·have:=Lv.open hr (fun x=>if x=t then l else m) (fun x hx=>by
   rw [ho] at hx;simp only [List.mem_cons,List.not_mem_nil,or_false] at hx;rcases hx with rfl | rfl
   ·simp;exact h
   ·simp [Ne.symm htu];exact k)
  rw [ho] at this;simpa [Ne.symm htu] using this
theorem lv_none {d:List SNode} {s:List SItem} (hr:rdy d s=false) (ho:opn d s=[]):Lv d s []:=by
 have:=Lv.open hr (fun _=>[]) (fun x hx=>by rw [ho] at hx;cases hx);rw [ho] at this;simpa using this
theorem told_rep {d:List SNode} (hd:ROk d) {i:Int} {n:SNode} (hn:at? d i=some n) (h7:n.1=7) (hA:∀rest,Told d (pm d n.2.1) 0 rest ((1,n.2.1,0,0)::rest)) (lo hi:Int) (rest:List SItem):
  Told d (if 0<hi then (pm d n.2.1).map (·++[(2,i,max (lo-1) 0,hi-1)]) else []) (if lo=0 then 1 else 0) rest ((2,i,lo,hi)::rest):=by
 intro lr hlr;have hr:rdy d ((2,i,lo,hi)::rest)=false:=by simp [rdy]
 have ho:opn d ((2,i,lo,hi)::rest)=(if lo=0 then [rest] else [])++(if 0<hi then [(1,n.2.1,0,0)::(2,i,max (lo-1) 0,hi-1)::rest] else []):=by
  simp only [opn,hn];rw [if_neg (by decide),if_pos trivial]
 obtain ⟨la,ha,hpa⟩:=hA ((2,i,max (lo-1) 0,hi-1)::rest) [] (fun h=>absurd rfl h);have e1:(pm d n.2.1).map (·++(2,i,max (lo-1) 0,hi-1)::rest)=((pm d n.2.1).map (·++[(2,i,max (lo-1) 0,hi-1)])).map (·++rest):=by
  rw [List.map_map];apply List.map_congr_left;intro p _;simp
 rw [e1] at hpa;simp only [List.replicate_zero,List.flatten_nil,List.append_nil] at hpa
 by_cases h0:lo=0
 ·have hL:=hlr (by simp [h0])
  by_cases h1:0<hi
  ·refine ⟨_,lv_two hr (by rw [ho,if_pos h0,if_pos h1];rfl) hL ha, ?_⟩;rw [if_pos h1,if_pos h0];simp only [List.replicate_one,List.flatten_cons,List.flatten_nil,List.append_nil];exact (List.perm_append_comm).trans (hpa.append_right _)
  ·refine ⟨_,zox hr (by rw [ho,if_pos h0,if_neg h1];rfl) hL, ?_⟩;rw [if_neg h1,if_pos h0];simp
 ·by_cases h1:0<hi
  ·refine ⟨_,zox hr (by rw [ho,if_neg h0,if_pos h1];rfl) ha, ?_⟩;rw [if_pos h1,if_neg h0];simpa using hpa
  ·refine ⟨_,lv_none hr (by rw [ho,if_neg h0,if_neg h1];rfl), ?_⟩;rw [if_neg h1,if_neg h0];simp
theorem znz {d:List SNode} (hd:ROk d):∀(k:Nat) (i:Int) (n:SNode),i<(k:Int)→at? d i=some n→∀rest,Told d (pm d i) (nw d i) rest ((1,i,0,0)::rest)
 | 0,i,n,hi,hn,_=>by have:=zbq hn;omega
 | k+1,i,n,hi,hn,rest=>by
  have ih:=znz hd k;have e:=zit hd hn;have ep:pm d i=(PM d d.length i).1:=rfl;have en:nw d i=(PM d d.length i).2:=rfl;rw [ep,en,e];have hk9:=hd.kind _ n hn;have rd0:(n.1≠2∧n.1≠8∧n.1≠9)→rdy d ((1,i,0,0)::rest)=false:=fun h=>by
   simp only [rdy,hn];simp [h.1,h.2.1,h.2.2]
  have op0:opn d ((1,i,0,0)::rest)=(if n.1=1 then [rest] else if n.1=3 then [(3,i,0,0)::rest] else if n.1=4 then [(1,n.2.1,0,0)::(1,n.2.2.1,0,0)::rest] else if n.1=5 then [(1,n.2.1,0,0)::rest,(1,n.2.2.1,0,0)::rest]
    else if n.1=6 then [rest,(1,n.2.1,0,0)::(1,i,0,0)::rest] else [(2,i,n.2.2.2.1,n.2.2.2.2.1)::rest]):=by
   simp only [opn,hn];rw [if_neg (by decide),if_neg (by decide)]
  have z0:∀a:Int,0≤a→a<i→nz d a=false→nw d a=0:=fun a h0 h1 hz=>by
   obtain ⟨m,hm⟩:=zdg hn h0 h1;rcases Nat.eq_zero_or_pos (nw d a) with h | h
   ·exact h
   ·have:=(zkr hd k a m (by omega) hm).1 (by omega);rw [hz] at this;cases this
  by_cases h1:n.1=1
  ·rw [if_pos h1];intro lr hlr;refine ⟨lr,zox (rd0 (by omega)) (by rw [op0,if_pos h1]) (hlr (by simp)),by simp⟩
  ·rw [if_neg h1] at op0 ⊢
   by_cases h3:n.1=3
   ·rw [if_pos h3] at op0 ⊢;intro lr hlr;exact ⟨_,zox (rd0 (by omega)) op0 (Lv.ready (by simp [rdy])),by simp⟩
   ·rw [if_neg h3] at op0 ⊢
    by_cases h4:n.1=4
    ·rw [if_pos h4] at op0 ⊢;obtain ⟨⟨a,b⟩,c,e⟩:=hd.two _ n hn (.inl h4);obtain ⟨m1,hm1⟩:=zdg hn a b;obtain ⟨m2,hm2⟩:=zdg hn c e;have:=told_seq (ih _ m1 (by omega) hm1 ((1,n.2.2.1,0,0)::rest)) (ih _ m2 (by omega) hm2 rest);intro lr hlr;obtain ⟨l,k1,k2⟩:=this lr hlr;exact ⟨l,zox (rd0 (by omega)) op0 k1,k2⟩
    ·rw [if_neg h4] at op0 ⊢
     by_cases h5:n.1=5
     ·rw [if_pos h5] at op0 ⊢;obtain ⟨⟨a,b⟩,c,e⟩:=hd.two _ n hn (.inr h5);obtain ⟨m1,hm1⟩:=zdg hn a b;obtain ⟨m2,hm2⟩:=zdg hn c e;intro lr hlr;simp only at hlr;obtain ⟨l1,k1,k2⟩:=ih _ m1 (by omega) hm1 rest lr fun h=>hlr (by omega);obtain ⟨l2,k3,k4⟩:=ih _ m2 (by omega) hm2 rest lr fun h=>hlr (by omega);refine ⟨_,lv_two (rd0 (by omega)) op0 k1 k3,(k2.append k4).trans ?_⟩;rw [List.map_append,← List.replicate_append_replicate,List.flatten_append,List.append_assoc,List.append_assoc];refine List.Perm.append_left _ ?_;rw [← List.append_assoc,← List.append_assoc];exact (List.perm_append_comm).append_right _
     ·rw [if_neg h5] at op0 ⊢
      by_cases h6:n.1=6
      ·rw [if_pos h6] at op0 ⊢;obtain ⟨a,b⟩:=hd.one _ n hn (.inl h6);obtain ⟨m1,hm1⟩:=zdg hn a b;have hz:=z0 _ a b (hd.nn _ n hn (.inl h6));intro lr hlr;have hA:=ih _ m1 (by omega) hm1 ((1,i,0,0)::rest) [] (fun h=>absurd hz h);obtain ⟨l1,k1,k2⟩:=hA;refine ⟨_,lv_two (rd0 (by omega)) op0 (hlr (by simp)) k1, ?_⟩;rw [hz] at k2;have e1:(pm d n.2.1).map (·++(1,i,0,0)::rest)=((pm d n.2.1).map (·++[(1,i,0,0)])).map (·++rest):=by
        rw [List.map_map];apply List.map_congr_left;intro p _;simp
       rw [e1] at k2;simp only [List.replicate_zero,List.flatten_nil,List.append_nil] at k2;simp only [List.replicate_one,List.flatten_cons,List.flatten_nil,List.append_nil];exact (List.perm_append_comm).trans (k2.append_right _)
      ·rw [if_neg h6] at op0 ⊢
       by_cases h7:n.1=7
       ·rw [if_pos h7];obtain ⟨a,b⟩:=hd.one _ n hn (.inr (.inl h7));obtain ⟨m1,hm1⟩:=zdg hn a b;have hz:=z0 _ a b (hd.nn _ n hn (.inr h7));have:=told_rep hd hn h7 (fun rest=>by have:=ih _ m1 (by omega) hm1 rest;rw [hz] at this;exact this) n.2.2.2.1 n.2.2.2.2.1 rest;intro lr hlr;obtain ⟨l,k1,k2⟩:=this lr hlr;exact ⟨l,zox (rd0 (by omega)) op0 k1,k2⟩
       ·rw [if_neg h7];intro lr hlr;refine ⟨_,Lv.ready ?_,by simp⟩;simp only [rdy,hn];have:n.1=2∨n.1=8∨n.1=9:=by omega
        rcases this with h | h | h <;> simp [h]
theorem told_item {d:List SNode} (hd:ROk d) {x:SItem} (hx:ze0 d x=true) (rest:List SItem):Told d (pmI d x) (nwI d x) rest (x::rest):=by
 by_cases h5:x.1=5
 ·have e1:pmI d x=[]:=by simp [pmI,h5]
  have e2:nwI d x=if x.2.2.1=0 then 1 else 0:=by simp [nwI,h5]
  rw [e1,e2];intro lr hlr;have hr:rdy d (x::rest)=false:=by simp [rdy,h5]
  by_cases h0:x.2.2.1=0
  ·rw [if_pos h0] at hlr ⊢;refine ⟨lr,zox hr (by simp [opn,h5,h0]) (hlr (by simp)),by simp⟩
  ·rw [if_neg h0];exact ⟨_,lv_none hr (by simp [opn,h5,h0]),by simp⟩
 ·obtain ⟨n,hn,hk⟩:=zfh hx h5;rcases hk with h1 | ⟨h2,h7⟩ | ⟨h3,_⟩ | ⟨h4,_⟩
  ·have e:x=(1,x.2.1,0,0):=by
    unfold ze0 at hx;rw [if_neg h5,hn] at hx;simp [h1] at hx;obtain ⟨a,b,c,e⟩:=x;simp only at h1 hx;rw [h1,hx.1,hx.2]
   have e1:pmI d x=pm d x.2.1:=by simp [pmI,h1]
   have e2:nwI d x=nw d x.2.1:=by simp [nwI,h1]
   have:=zbq hn;rw [e1,e2];have ht:=znz hd d.length _ n (by omega) hn rest;rw [← e] at ht;exact ht
  ·have e1:pmI d x=if 0<x.2.2.2 then (pm d n.2.1).map (·++[(2,x.2.1,max (x.2.2.1-1) 0,x.2.2.2-1)]) else []:=by simp [pmI,h2,hn]
   have e2:nwI d x=if x.2.2.1=0 then 1 else 0:=by simp [nwI,h2]
   rw [e1,e2];obtain ⟨a,b⟩:=hd.one _ n hn (.inr (.inl h7));obtain ⟨m1,hm1⟩:=zdg hn a b;have hb:=zbq hn;have hz:nw d n.2.1=0:=by
    rcases Nat.eq_zero_or_pos (nw d n.2.1) with h | h
    ·exact h
    ·have:=(zkr hd d.length _ m1 (by omega) hm1).1 (by omega);rw [hd.nn _ n hn (.inr h7)] at this;cases this
   have:=told_rep hd hn h7 (fun rest=>by have:=znz hd d.length _ m1 (by omega) hm1 rest;rw [hz] at this;exact this) x.2.2.1 x.2.2.2 rest;obtain ⟨xk,xi,xl,xh⟩:=x;simp only at h2;subst h2;exact this
  ·have e1:pmI d x=[[x]]:=by simp [pmI,h3]
   have e2:nwI d x=0:=by simp [nwI,h3]
   rw [e1,e2];intro lr _;exact ⟨_,Lv.ready (by simp [rdy,h3]),by simp⟩
  ·have e1:pmI d x=[[x]]:=by simp [pmI,h4]
   have e2:nwI d x=0:=by simp [nwI,h4]
   rw [e1,e2];intro lr _;exact ⟨_,Lv.ready (by simp [rdy,h4]),by simp⟩
def hds (d:List SNode):List SItem→List (List SItem)
 | []=>[[]]
 | x::rest=>(pmI d x).map (·++rest)++(List.replicate (nwI d x) (hds d rest)).flatten
theorem zqt {d:List SNode} (hd:ROk d):∀(s:List SItem),zd6 d s=true→∃l,Lv d s l∧l.Perm (hds d s)
 | [],_=>⟨[[]],Lv.ready rfl,.refl _⟩
 | x::rest,hf=>by
  obtain ⟨h1,h2⟩:=zdp hf;obtain ⟨lr,k1,k2⟩:=zqt hd rest h2;obtain ⟨l,k3,k4⟩:=told_item hd h1 rest lr fun _=>k1;exact ⟨l,k3,k4.trans (List.Perm.append_left _ (perm_flat k2 _))⟩
theorem exl {ρ:Type} {γ:Sort _} {P:γ→ρ→Prop} (c:γ) (h:∃r,P c r):∃r,∃c,P c r:=let ⟨r,h⟩:=h;⟨r,c,h⟩
theorem zmx {ρ:Type} {A:Prop} {B:ρ→Prop} (a:A) (h:∃r,B r):∃r,A∧B r:=let ⟨r,h⟩:=h;⟨r,a,h⟩
theorem pick {ρ:Type} [Inhabited ρ] {b:Bool} {X Y:ρ→Prop} (h1:b=true→∃r,X r) (h2:b=false→∃r,Y r):∃r,(b=true→X r)∧(b=false→Y r):=by
 cases b
 ·obtain ⟨r,h⟩:=h2 rfl;exact ⟨r,(fun h=>by cases h),fun _=>h⟩
 ·obtain ⟨r,h⟩:=h1 rfl;exact ⟨r,fun _=>h,(fun h=>by cases h)⟩
def sumT (l:List SNode):Nat:=(l.map fun n=>n.2.2.2.2.2.2.length).sum
theorem sumT_le {l:List SNode} (h:∀n∈l,n.2.2.2.2.2.2.length≤140737488351232):sumT l≤l.length*140737488351232:=by
 induction l with
 | nil=>simp [sumT]
 | cons x l ih=>
  have h1:=h x (by simp);have h2:=ih fun n hn=>h n (by simp [hn]);simp only [sumT,List.map_cons,List.sum_cons,List.length_cons] at h2 ⊢;omega
theorem few_ex {d:List SNode} (ht:∀n∈d,n.2.2.2.2.2.2.length≤140737488351232):∃r,zc5 d r∧(r=true→d.length≤100):=by
 refine ⟨decide ((d.length:Int)≤100)&&decide (((sumT (d.take (min d.length 200)):Nat):Int)≤2000), ?_,fun h=>?_⟩
 ·refine zh8 (P:=fun k (s:Int) v=>zc5.l1 d _ k s v) (min d.length 200) (fun i s=>s=((sumT (d.take i):Nat):Int)) ?_ ?_ _ (by simp [sumT])
  ·rintro i s hi rfl;have hd:i<d.length:=by omega
   have h1:=sumT_le (l:=d.take i) fun n hn=>ht n (List.mem_of_mem_take hn);have h2:=ht _ (List.getElem_mem hd);have h3:(d.take i).length=i:=by simp;omega
   rw [h3] at h1;have h4:i*140737488351232≤200*140737488351232:=Nat.mul_le_mul_right _ (by omega);have e:sumT (d.take (i+1))=sumT (d.take i)+d[i].2.2.2.2.2.2.length:=by
    unfold sumT;rw [List.take_succ_eq_append_getElem hd,List.map_append,List.sum_append];simp only [List.map_cons,List.map_nil,List.sum_cons,List.sum_nil,Nat.add_zero]
   refine .inr ⟨_,rfl,fun k h=>⟨true,by simp;omega,fun _=>⟨d[i],by rw [zbm];simp [hd],zi (by omega) (by omega),zi (by omega) (by omega), ?_⟩,(fun h=>by cases h)⟩⟩;rw [e] at h;simpa using h
  ·rintro s rfl k;exact ⟨false,by simp;omega,(fun h=>by cases h),fun _=>⟨_,rfl,rfl⟩⟩
 ·simp only [Bool.and_eq_true,decide_eq_true_eq] at h;omega
theorem byte_in {s:Str} {i:Int} (h0:0≤i) (h1:i<(s.length:Int)):∃c,zd9 s i=some c:=by
 obtain ⟨x,hx,_⟩:=zm6 h0 h1;exact ⟨_,by unfold zd9;rw [hx];rfl⟩
theorem in_ex (s:Str) {i:Int} (f t:Int) (h0:0≤i):∃r,zfu s i f t r:=by
 by_cases h1:i<(s.length:Int)
 ·obtain ⟨c,hc⟩:=byte_in h0 h1;exact ⟨_,c,fun _=>hc,_,rfl,c,fun _=>hc,rfl⟩
 ·exact ⟨_,0,fun h=>absurd (dt h) h1,_,rfl,0,fun h=>absurd h (by simp [h1]),rfl⟩
theorem utf8_ex {s:Str} (hl:s.length≤140737488351232):∃r,zbl s r:=by
 have key:∀(m:Nat) (i:Int),0≤i→(s.length:Int)+4-i≤m→i≤(s.length:Int)+4→∃q:Bool × Nat,zbl.l1 s q.1 (zbl.j1 q.1) q.2 i:=by
  intro m
  induction m with
  | zero=>
   intro i h0 h1 h2;exact ⟨(true,1),fun h=>absurd (dt h) (by omega),fun _=>rfl⟩
  | succ m ih=>
   intro i h0 h1 h2
   suffices h:∃q:Bool × Nat,zbl.l1 s q.1 (zbl.j1 q.1) (q.2+1) i by
    obtain ⟨q,hq⟩:=h;exact ⟨(q.1,q.2+1),hq⟩
   unfold zbl.l1;refine pick (fun hd=>?_) (fun hd=>⟨(true,0),rfl⟩);have hlt:=dt hd;obtain ⟨c,hc⟩:=byte_in h0 hlt;obtain ⟨r17,h17⟩:=in_ex s (i:=i+1) 128 191 (by omega);obtain ⟨r21,h21⟩:=in_ex s (i:=i+2) 128 191 (by omega);obtain ⟨r25,h25⟩:=in_ex s (i:=i+3) 128 191 (by omega);obtain ⟨r35,h35⟩:=in_ex s (i:=i+1) 160 191 (by omega);obtain ⟨r44,h44⟩:=in_ex s (i:=i+1) 128 159 (by omega);obtain ⟨r49,h49⟩:=in_ex s (i:=i+1) 144 191 (by omega);obtain ⟨r58,h58⟩:=in_ex s (i:=i+1) 128 143 (by omega);have i1:InR .i64 (i+1):=zi (by omega) (by omega);have i2:InR .i64 (i+2):=zi (by omega) (by omega);have i3:InR .i64 (i+3):=zi (by omega) (by omega);have i4:InR .i64 (i+4):=zi (by omega) (by omega);have g1:=ih (i+1) (by omega) (by omega) (by omega);have g2:=ih (i+2) (by omega) (by omega) (by omega);have g3:=ih (i+3) (by omega) (by omega) (by omega);have g4:=ih (i+4) (by omega) (by omega) (by omega);refine exl c (zmx hc (zmx i1 (exl r17 (zmx h17 (zmx i2 (exl r21 (zmx h21 (zmx i3 (exl r25 (zmx h25 (pick (fun _=>zmx i1 g1) (fun _=>?_))))))))))));refine exl _ (zmx rfl (pick (fun _=>zmx i2 g2) (fun _=>?_)));refine zmx (fun _=>i1) (exl r35 (zmx (fun _=>h35) (pick (fun _=>zmx i3 g3) (fun _=>?_))));refine exl _ (zmx rfl (pick (fun _=>zmx i3 g3) (fun _=>?_)));refine zmx (fun _=>i1) (exl r44 (zmx (fun _=>h44) (pick (fun _=>zmx i3 g3) (fun _=>?_))));refine zmx (fun _=>i1) (exl r49 (zmx (fun _=>h49) (pick (fun _=>zmx i4 g4) (fun _=>?_))));refine exl _ (zmx rfl (pick (fun _=>zmx i4 g4) (fun _=>?_)));refine zmx (fun _=>i1) (exl r58 (zmx (fun _=>h58) (pick (fun _=>zmx i4 g4) (fun _=>?_))))
   exact ⟨(false,0),rfl⟩
 obtain ⟨q,hq⟩:=key (s.length+4) 0 (by omega) (by omega) (by omega);exact ⟨q.1,q.2,hq⟩
theorem text_ex {s:Str} (hl:s.length≤140737488351232):∃r,zcm s r∧(r=true→s≠[]):=by
 obtain ⟨u,hu⟩:=utf8_ex hl;have tne:∀u:Bool,(decide (0<(s.length:Int))&&u)=true→s≠[]:=fun u h e=>by subst e;simp at h
 have key:∀(m:Nat) (i:Int),0≤i→(s.length:Int)-i≤m→i≤(s.length:Int)→∃q:Bool × Nat,zcm.l1 s q.1 (zcm.j1 s q.1) q.2 i∧(q.1=true→s≠[]):=by
  intro m
  induction m with
  | zero=>
   intro i h0 h1 h2;exact ⟨(decide (0<(s.length:Int))&&u,1),⟨fun h=>absurd (dt h) (by omega),fun _=>⟨u,fun _=>hu,rfl⟩⟩,tne u⟩
  | succ m ih=>
   intro i h0 h1 h2
   by_cases hlt:i<(s.length:Int)
   ·obtain ⟨c,hc⟩:=byte_in h0 hlt
    by_cases h34:c=34
    ·exact ⟨(false,1),⟨fun _=>⟨c,hc,fun _=>rfl,fun h=>by simp [h34] at h⟩,fun h=>absurd hlt (df h)⟩,(fun h=>by cases h)⟩
    ·obtain ⟨q,hq,hq2⟩:=ih (i+1) (by omega) (by omega) (by omega);exact ⟨(q.1,q.2+1),⟨fun _=>⟨c,hc,fun h=>by simp at h;exact absurd h h34,fun _=>⟨zi (by omega) (by omega),hq⟩⟩,fun h=>absurd hlt (df h)⟩,hq2⟩
   ·exact ⟨(decide (0<(s.length:Int))&&u,1),⟨fun h=>absurd (dt h) hlt,fun _=>⟨u,fun _=>hu,rfl⟩⟩,tne u⟩
 obtain ⟨q,hq,hq2⟩:=key s.length 0 (by omega) (by omega) (by omega);exact ⟨q.1,⟨q.2,hq⟩,hq2⟩
inductive Tr (l:List SNode):Int→Int→Prop
 | leaf {i:Int} {e:SNode} (he:at? l i=some e) (hk:e.1=1∨e.1=2∨e.1=3) (hx:e.1=3→e.2.2.2.2.2.2≠[]) (h0:e.2.1=0∧e.2.2.1=0):Tr l i i
 | one {f i:Int} {e:SNode} (he:at? l i=some e) (hk:e.1=6∨e.1=7∨e.1=8∨e.1=9) (ha:e.2.1=i-1) (hb:e.2.2.1=0) (hr:e.1=7→0≤e.2.2.2.1∧e.2.2.2.1≤e.2.2.2.2.1∧e.2.2.2.2.1≤255) (h:Tr l f (i-1)):Tr l f i
 | two {f p i:Int} {e:SNode} (he:at? l i=some e) (hk:e.1=4∨e.1=5) (ha:e.2.1=p-1) (hb:e.2.2.1=i-1) (h1:Tr l p (i-1)) (h2:Tr l f (p-1)):Tr l f i
theorem Tr.le {l:List SNode} {f i:Int} (h:Tr l f i):0≤f∧f≤i:=by
 induction h with
 | leaf he _ _ _=>exact ⟨(zbq he).1,Int.le_refl _⟩
 | one _ _ _ _ _ _ ih=>omega
 | two _ _ _ _ _ _ i1 i2=>omega
theorem Tr.lt {l:List SNode} {f i:Int} (h:Tr l f i):i<(l.length:Int):=by
 cases h with
 | leaf he _ _ _=>exact (zbq he).2
 | one he _ _ _ _ _=>exact (zbq he).2
 | two he _ _ _ _ _=>exact (zbq he).2
theorem Tr.sub {l:List SNode} {f i:Int} (h:Tr l f i):∀k,f≤k→k≤i→∃g,Tr l g k∧f≤g:=by
 induction h with
 | leaf he hk hx h0=>
  rename_i i e
  intro k h1 h2;obtain rfl:k=i:=by omega
  exact ⟨k,.leaf he hk hx h0,Int.le_refl _⟩
 | one he hk ha hb hr h ih=>
  rename_i f i e
  intro k h1 h2
  by_cases hki:k=i
  ·subst hki;exact ⟨f,.one he hk ha hb hr h,Int.le_refl _⟩
  ·exact ih k h1 (by omega)
 | two he hk ha hb h1 h2 i1 i2=>
  rename_i f p i e
  intro k k1 k2;have l1:=h1.le;have l2:=h2.le
  by_cases hki:k=i
  ·subst hki;exact ⟨f,.two he hk ha hb h1 h2,Int.le_refl _⟩
  ·by_cases hkp:p≤k
   ·obtain ⟨g,g1,g2⟩:=i1 k hkp (by omega);exact ⟨g,g1,by omega⟩
   ·exact i2 k k1 (by omega)
def zmi (l:List SNode) (i r:Int):Prop:=r = -1∨Tr l r i
theorem first_ex {l:List SNode} (hl:l.length≤1000) (ht:∀n∈l,n.2.2.2.2.2.2.length≤140737488351232):∀(m:Nat) (i:Int),i<(m:Int)→-1≤i→i<(l.length:Int)→∃r,z8.n (m+1) l i r∧zmi l i r:=by
 intro m
 induction m with
 | zero=>
  intro i h1 h2 h3;exact ⟨-1,⟨fun _=>rfl,fun h=>absurd (by omega) (df h)⟩,.inl rfl⟩
 | succ m ih=>
  intro i h1 h2 h3
  by_cases h0:i<0
  ·exact ⟨-1,⟨fun _=>rfl,fun h=>absurd h0 (df h)⟩,.inl rfl⟩
  ·obtain ⟨e,he,hm⟩:=zm6 (xs:=l) (i:=i) (by omega) h3;have i1:InR .i64 (i-1):=zi (by omega) (by omega);obtain ⟨p,hp,hpo⟩:=ih (i-1) (by omega) (by omega) (by omega);have one:∀w:SNode,(e=w→w.2.1=i-1∧(w.1=6∨w.1=7∨w.1=8∨w.1=9)∧(w.1=7→0≤w.2.2.2.1∧w.2.2.2.1≤w.2.2.2.2.1∧w.2.2.2.2.1≤255)∧w.2.2.1=0)→∃r,z8.j1 (z8.n (m+1)) l i r e w∧zmi l i r:=by
    intro w hw
    by_cases hew:e=w
    ·refine ⟨p,⟨i1,p,hp,fun h=>by simp [hew] at h,fun _=>rfl⟩, ?_⟩;rcases hpo with rfl | p0
     ·exact .inl rfl
     ·obtain ⟨w1,w2,w3,w4⟩:=hw hew;exact .inr (.one he (by rw [hew];exact w2) (by rw [hew];exact w1) (by rw [hew];exact w4) (by rw [hew];exact w3) p0)
    ·exact ⟨-1,⟨i1,p,hp,fun _=>rfl,fun h=>by simp at h;exact absurd h hew⟩,.inl rfl⟩
   have two:(e.1=4∨e.1=5)→∃r,z8.j2 (z8.n (m+1)) l i r e true∧zmi l i r:=by
    intro hk
    by_cases hp0:p<0
    ·exact ⟨-1,⟨fun _=>⟨i1,i1,p,hp,fun _=>rfl,fun h=>absurd hp0 (df h)⟩,(fun h=>by cases h)⟩,.inl rfl⟩
    ·have htr:Tr l p (i-1):=by
      rcases hpo with rfl | h
      ·omega
      ·exact h
     have p1:=htr.le;obtain ⟨q,hq,hqo⟩:=ih (p-1) (by omega) (by omega) (by omega);have j1:InR .i64 (p-1):=zi (by omega) (by omega)
     by_cases hew:e=(e.1,p-1,i-1,0,0,(0#256),([]:Str))
     ·refine ⟨q,⟨fun _=>⟨i1,i1,p,hp,fun h=>absurd (dt h) hp0,fun _=>⟨j1,j1,q,hq,false, ?_,(fun h=>by cases h),fun _=>rfl⟩⟩,(fun h=>by cases h)⟩, ?_⟩
      ·have:(e != (e.1,p-1,i-1,0,0,(0#256),([]:Str)))=false:=by rw [← hew];simp
       exact this.symm
      ·rcases hqo with rfl | q0
       ·exact .inl rfl
       ·exact .inr (.two he hk (by rw [hew]) (by rw [hew]) htr q0)
     ·refine ⟨-1,⟨fun _=>⟨i1,i1,p,hp,fun h=>absurd (dt h) hp0,fun _=>⟨j1,j1,q,hq,true, ?_,fun _=>rfl,(fun h=>by cases h)⟩⟩,(fun h=>by cases h)⟩,.inl rfl⟩;exact (bne_iff_ne.2 hew).symm
   have three:(e.1=6∨e.1=7∨e.1=8∨e.1=9)→∃r,z8.j3 (z8.n (m+1)) l i r e true∧zmi l i r:=by
    intro hk
    by_cases h7:e.1=7
    ·by_cases hb:((decide (e.2.2.2.1<0))||(decide (e.2.2.2.2.1<e.2.2.2.1))||(decide (255<e.2.2.2.2.1)))=true
     ·exact ⟨-1,⟨fun _=>⟨i1,fun _=>⟨_,rfl,fun _=>rfl,fun h=>by rw [hb] at h;cases h⟩,fun h=>by simp [h7] at h⟩,(fun h=>by cases h)⟩,.inl rfl⟩
     ·obtain ⟨r,hr1,hr2⟩:=one (e.1,i-1,0,e.2.2.2.1,e.2.2.2.2.1,(0#256),([]:Str)) fun _=>⟨rfl,hk,fun _=>by
       simp only [Bool.or_eq_true,decide_eq_true_eq,not_or] at hb;exact ⟨by show (0:Int)≤e.2.2.2.1;omega,by show e.2.2.2.1≤e.2.2.2.2.1;omega,by show e.2.2.2.2.1≤255;omega⟩,rfl⟩
      exact ⟨r,⟨fun _=>⟨i1,fun _=>⟨_,rfl,fun h=>absurd h hb,fun _=>hr1⟩,fun h=>by simp [h7] at h⟩,(fun h=>by cases h)⟩,hr2⟩
    ·obtain ⟨r,hr1,hr2⟩:=one (e.1,i-1,0,0,0,(0#256),([]:Str)) fun _=>⟨rfl,hk,fun h=>absurd h h7,rfl⟩;exact ⟨r,⟨fun _=>⟨i1,fun h=>by simp at h;exact absurd h h7,fun _=>hr1⟩,(fun h=>by cases h)⟩,hr2⟩
   have ne:∀{a b:Int},a≠b→(a==b)=true→False:=fun h k=>h (eq_of_beq k);have last:∀b:Bool,(b=true↔e.1=9)→e.1≠6→e.1≠7→e.1≠8→∃r,z8.j3 (z8.n (m+1)) l i r e b∧zmi l i r:=by
    intro b hb n6 n7 n8;cases b
    ·have n9:e.1≠9:=fun h=>by have:=hb.2 h;cases this
     by_cases h4:e.1=4
     ·obtain ⟨r,hr1,hr2⟩:=two (.inl h4);exact ⟨r,⟨(fun h=>by cases h),fun _=>⟨fun h=>by rw [h];exact hr1,fun h=>by simp [h4] at h⟩⟩,hr2⟩
     ·by_cases h5:e.1=5
      ·obtain ⟨r,hr1,hr2⟩:=two (.inr h5);have e5:(e.1==5)=true:=by simp [h5]
       exact ⟨r,⟨(fun h=>by cases h),fun _=>⟨fun h=>by simp at h;exact absurd h h4,fun _=>by rw [e5];exact hr1⟩⟩,hr2⟩
      ·have e5:(e.1==5)=false:=by simp [h5]
       exact ⟨-1,⟨(fun h=>by cases h),fun _=>⟨fun h=>by simp at h;exact absurd h h4,fun _=>by rw [e5];exact ⟨(fun h=>by cases h),fun _=>rfl⟩⟩⟩,.inl rfl⟩
    ·exact three (.inr (.inr (.inr (hb.1 rfl))))
   suffices h:∃r,(∃e6:SNode,at? l i=some e6∧_)∧zmi l i r by
    obtain ⟨r,hr,ho⟩:=h;exact ⟨r,⟨fun h=>absurd (dt h) h0,fun _=>hr⟩,ho⟩
   by_cases k1:e.1=1
   ·by_cases hw:e=(e.1,0,0,0,0,(0#256),([]:Str))
    ·exact ⟨i,⟨e,he,fun _=>⟨fun h=>by rw [← hw] at h;simp at h,fun _=>rfl⟩,fun h=>by simp [k1] at h⟩,.inr (.leaf he (.inl k1) (fun h=>by omega) ⟨by rw [hw],by rw [hw]⟩)⟩
    ·exact ⟨-1,⟨e,he,fun _=>⟨fun _=>rfl,fun h=>by simp at h;exact absurd h hw⟩,fun h=>by simp [k1] at h⟩,.inl rfl⟩
   ·by_cases k2:e.1=2
    ·by_cases hw:e=(e.1,0,0,0,0,e.2.2.2.2.2.1,([]:Str))
     ·exact ⟨i,⟨e,he,fun h=>(ne k1 h).elim,fun _=>⟨fun _=>⟨false,by rw [← hw];simp,(fun h=>by cases h),fun _=>rfl⟩,fun h=>by simp [k2] at h⟩⟩,.inr (.leaf he (.inr (.inl k2)) (fun h=>by omega) ⟨by rw [hw],by rw [hw]⟩)⟩
     ·exact ⟨-1,⟨e,he,fun h=>(ne k1 h).elim,fun _=>⟨fun _=>⟨true,(bne_iff_ne.2 hw).symm,fun _=>rfl,(fun h=>by cases h)⟩,fun h=>by simp [k2] at h⟩⟩,.inl rfl⟩
    ·by_cases k3:e.1=3
     ·obtain ⟨t,htx,htn⟩:=text_ex (ht e hm);cases t
      ·exact ⟨-1,⟨e,he,fun h=>(ne k1 h).elim,fun _=>⟨fun h=>(ne k2 h).elim,fun _=>⟨fun _=>⟨false,htx,fun _=>rfl,(fun h=>by cases h)⟩,fun h=>by simp [k3] at h⟩⟩⟩,.inl rfl⟩
      ·by_cases hw:e=(e.1,0,0,0,0,(0#256),e.2.2.2.2.2.2)
       ·exact ⟨i,⟨e,he,fun h=>(ne k1 h).elim,fun _=>⟨fun h=>(ne k2 h).elim,fun _=>⟨fun _=>⟨true,htx,(fun h=>by cases h),fun _=>⟨false,by rw [← hw];simp,(fun h=>by cases h),fun _=>rfl⟩⟩,fun h=>by simp [k3] at h⟩⟩⟩,.inr (.leaf he (.inr (.inr k3)) (fun _=>htn rfl) ⟨by rw [hw],by rw [hw]⟩)⟩
       ·exact ⟨-1,⟨e,he,fun h=>(ne k1 h).elim,fun _=>⟨fun h=>(ne k2 h).elim,fun _=>⟨fun _=>⟨true,htx,(fun h=>by cases h),fun _=>⟨true,(bne_iff_ne.2 hw).symm,fun _=>rfl,(fun h=>by cases h)⟩⟩,fun h=>by simp [k3] at h⟩⟩⟩,.inl rfl⟩
     ·by_cases k6:e.1=6
      ·obtain ⟨r,hr1,hr2⟩:=three (.inl k6);exact ⟨r,⟨e,he,fun h=>(ne k1 h).elim,fun _=>⟨fun h=>(ne k2 h).elim,fun _=>⟨fun h=>(ne k3 h).elim,fun _=>⟨fun h=>by rw [h];exact hr1,fun h=>by simp [k6] at h⟩⟩⟩⟩,hr2⟩
      ·by_cases k7:e.1=7
       ·obtain ⟨r,hr1,hr2⟩:=three (.inr (.inl k7));exact ⟨r,⟨e,he,fun h=>(ne k1 h).elim,fun _=>⟨fun h=>(ne k2 h).elim,fun _=>⟨fun h=>(ne k3 h).elim,fun _=>⟨fun h=>(ne k6 h).elim,fun _=>⟨fun h=>by rw [h];exact hr1,fun h=>by simp [k7] at h⟩⟩⟩⟩⟩,hr2⟩
       ·by_cases k8:e.1=8
        ·obtain ⟨r,hr1,hr2⟩:=three (.inr (.inr (.inl k8)));exact ⟨r,⟨e,he,fun h=>(ne k1 h).elim,fun _=>⟨fun h=>(ne k2 h).elim,fun _=>⟨fun h=>(ne k3 h).elim,fun _=>⟨fun h=>(ne k6 h).elim,fun _=>⟨fun h=>(ne k7 h).elim,fun _=>⟨fun h=>by rw [h];exact hr1,fun h=>by simp [k8] at h⟩⟩⟩⟩⟩⟩,hr2⟩
        ·obtain ⟨r,hr1,hr2⟩:=last (e.1==9) beq_iff_eq k6 k7 k8;exact ⟨r,⟨e,he,fun h=>(ne k1 h).elim,fun _=>⟨fun h=>(ne k2 h).elim,fun _=>⟨fun h=>(ne k3 h).elim,fun _=>⟨fun h=>(ne k6 h).elim,fun _=>⟨fun h=>(ne k7 h).elim,fun _=>⟨fun h=>(ne k8 h).elim,fun _=>hr1⟩⟩⟩⟩⟩⟩,hr2⟩
theorem form_ex {d:List SNode} (hl:d.length≤1000) (ht:∀n∈d,n.2.2.2.2.2.2.length≤140737488351232):∃r,zjz d r∧(r=true→Tr d 0 ((d.length:Int)-1)):=by
 obtain ⟨r,hr,ho⟩:=first_ex hl ht d.length ((d.length:Int)-1) (by omega) (by omega) (by omega);refine ⟨_,⟨fun _=>zi (by omega) (by omega),r,fun _=>⟨_,hr⟩,rfl⟩,fun h=>?_⟩;simp only [Bool.and_eq_true,decide_eq_true_eq,beq_iff_eq] at h;rcases ho with rfl | h2
 ·omega
 ·rw [h.2] at h2;exact h2
def powW (a:Nat) (t:Nat):Nat:=if t=0 then 1 else if a=0 then 0 else if a=1 then 1 else 2
theorem powW_le (a t:Nat):powW a t≤2:=by
 unfold powW;split
 ·omega
 ·split
  ·omega
  ·split <;> omega
theorem powW_step {a:Nat} (ha:a≤2) (t:Nat):min 2 (powW a t*a)=powW a (t+1):=by
 have:a=0∨a=1∨a=2:=by omega
 unfold powW
 by_cases ht:t=0
 ·subst ht;rcases this with rfl | rfl | rfl <;> simp
 ·rcases this with rfl | rfl | rfl <;> simp [ht]
def sumW (a lo:Nat):Nat→Nat
 | 0=>0
 | m+1=>min 2 (sumW a lo m+powW a (lo+m))
theorem sumW_le (a lo m:Nat):sumW a lo m≤2:=by
 cases m with
 | zero=>simp [sumW]
 | succ m=>simp only [sumW];omega
theorem sumW_zero (a lo:Nat):∀m,sumW a lo m≠0↔∃t,t<m∧powW a (lo+t)≠0
 | 0=>by simp [sumW]
 | m+1=>by
  have ih:=sumW_zero a lo m;simp only [sumW];constructor
  ·intro h
   by_cases h1:sumW a lo m≠0
   ·obtain ⟨t,h2,h3⟩:=ih.1 h1;exact ⟨t,by omega,h3⟩
   ·exact ⟨m,by omega,by omega⟩
  ·rintro ⟨t,h1,h2⟩
   by_cases htm:t=m
   ·subst htm;omega
   ·have:=ih.2 ⟨t,by omega,h2⟩;omega
theorem zoj {a t:Nat}:powW a t≠0↔t=0∨a≠0:=by
 unfold powW
 by_cases h1:t=0
 ·simp [h1]
 ·by_cases h2:a=0
  ·simp [h1,h2]
  ·rw [if_neg h1,if_neg h2];split <;> simp [h1,h2]
structure NOk (d:List SNode):Prop where
 two:∀(i:Int) n,at? d i=some n→(n.1=4∨n.1=5)→(0≤n.2.1∧n.2.1<i)∧(0≤n.2.2.1∧n.2.2.1<i)
 one:∀(i:Int) n,at? d i=some n→(n.1=6∨n.1=7∨n.1=8∨n.1=9)→0≤n.2.1∧n.2.1<i
 rep:∀(i:Int) n,at? d i=some n→n.1=7→0≤n.2.2.2.1∧n.2.2.2.1≤n.2.2.2.2.1∧n.2.2.2.2.1≤255
 kind:∀(i:Int) n,at? d i=some n→1≤n.1∧n.1≤9
 ntx:∀(i:Int) n,at? d i=some n→n.1=3→n.2.2.2.2.2.2≠[]
theorem Tr.node {l:List SNode} {f i:Int} (h:Tr l f i) {n:SNode} (hn:at? l i=some n):
  ((n.1=4∨n.1=5)→(0≤n.2.1∧n.2.1<i)∧(0≤n.2.2.1∧n.2.2.1<i))∧((n.1=6∨n.1=7∨n.1=8∨n.1=9)→0≤n.2.1∧n.2.1<i)∧(n.1=7→0≤n.2.2.2.1∧n.2.2.2.1≤n.2.2.2.2.1∧n.2.2.2.2.1≤255)∧(1≤n.1∧n.1≤9)∧(n.1=3→n.2.2.2.2.2.2≠[]):=by
 cases h with
 | leaf he hk hx h0=>
  rw [hn] at he;cases he;exact ⟨fun h=>by omega,fun h=>by omega,fun h=>by omega,by omega,hx⟩
 | one he hk ha hb hr h=>
  rw [hn] at he;cases he;have:=h.le;exact ⟨fun h=>by omega,fun h=>by omega,hr,by omega,fun h=>by omega⟩
 | two he hk ha hb h1 h2=>
  rw [hn] at he;cases he;have:=h1.le;have:=h2.le;exact ⟨fun h=>by omega,fun h=>by omega,fun h=>by omega,by omega,fun h=>by omega⟩
theorem Tr.at {d:List SNode} (h:Tr d 0 ((d.length:Int)-1)) {i:Int} {n:SNode} (hn:at? d i=some n):∃g,Tr d g i:=by
 have hb:=zbq hn;obtain ⟨g,hg,_⟩:=h.sub i hb.1 (by omega);exact ⟨g,hg⟩
theorem Tr.nok {d:List SNode} (h:Tr d 0 ((d.length:Int)-1)):NOk d:=
 ⟨fun i n hn=>let ⟨g,hg⟩:=h.at hn;(hg.node hn).1,fun i n hn=>let ⟨g,hg⟩:=h.at hn;(hg.node hn).2.1,fun i n hn=>let ⟨g,hg⟩:=h.at hn;(hg.node hn).2.2.1,fun i n hn=>let ⟨g,hg⟩:=h.at hn;(hg.node hn).2.2.2.1,fun i n hn=>let ⟨g,hg⟩:=h.at hn;(hg.node hn).2.2.2.2⟩
def WV (d:List SNode):Nat→Int→Nat
 | 0,_=>0
 | k+1,i=>match at? d i with
  | none=>0
  | some n=>
   if n.1=1 then 1
   else if n.1=4 then min 2 (WV d k n.2.1*WV d k n.2.2.1)
   else if n.1=5 then min 2 (WV d k n.2.1+WV d k n.2.2.1)
   else if n.1=6 then (if 0<WV d k n.2.1 then 2 else 1)
   else if n.1=7 then sumW (WV d k n.2.1) n.2.2.2.1.toNat (n.2.2.2.2.1+1-n.2.2.2.1).toNat
   else 0
theorem WV_le (d:List SNode) (k:Nat) (i:Int):WV d k i≤2:=by
 cases k with
 | zero=>simp [WV]
 | succ k=>
  unfold WV;cases at? d i with
  | none=>simp
  | some n=>
   simp only;split
   ·omega
   ·split
    ·omega
    ·split
     ·omega
     ·split
      ·split <;> omega
      ·split
       ·exact sumW_le _ _ _
       ·omega
theorem zmh {d:List SNode} (hd:NOk d):∀(k k':Nat) (i:Int),i<(k:Int)→i<(k':Int)→WV d k i=WV d k' i
 | 0,k',i,h,h'=>by
  have:at? d i=none:=by
   unfold at?;rw [if_neg (by omega)]
  cases k' <;> simp [WV,this]
 | k+1,0,i,h,h'=>by
  have:at? d i=none:=by
   unfold at?;rw [if_neg (by omega)]
  simp [WV,this]
 | k+1,k'+1,i,h,h'=>by
  cases hn:at? d i with
  | none=>simp only [WV,hn]
  | some n=>
   simp only [WV,hn]
   by_cases h4:n.1=4
   ·obtain ⟨⟨a,b⟩,c,e⟩:=hd.two _ n hn (.inl h4);rw [zmh hd k k' n.2.1 (by omega) (by omega),zmh hd k k' n.2.2.1 (by omega) (by omega)]
   ·by_cases h5:n.1=5
    ·obtain ⟨⟨a,b⟩,c,e⟩:=hd.two _ n hn (.inr h5);rw [zmh hd k k' n.2.1 (by omega) (by omega),zmh hd k k' n.2.2.1 (by omega) (by omega)]
    ·by_cases h6:n.1=6∨n.1=7
     ·obtain ⟨a,b⟩:=hd.one _ n hn (by omega);rw [zmh hd k k' n.2.1 (by omega) (by omega)];simp [h4,h5]
     ·simp only [not_or] at h6;simp [h4,h5,h6.1,h6.2]
def wv (d:List SNode) (i:Int):Nat:=WV d d.length i
theorem wv_at {d:List SNode} (hd:NOk d) {i:Int} {n:SNode} (hn:at? d i=some n):wv d i =
  (if n.1=1 then 1
   else if n.1=4 then min 2 (wv d n.2.1*wv d n.2.2.1)
   else if n.1=5 then min 2 (wv d n.2.1+wv d n.2.2.1)
   else if n.1=6 then (if 0<wv d n.2.1 then 2 else 1)
   else if n.1=7 then sumW (wv d n.2.1) n.2.2.2.1.toNat (n.2.2.2.2.1+1-n.2.2.2.1).toNat
   else 0):=by
 obtain ⟨hb0,hb1⟩:=zbq hn;unfold wv;rw [zmh hd d.length (d.length+1) i hb1 (by omega)];simp only [WV,hn]
theorem nz_atN {d:List SNode} (hd:NOk d) {i:Int} {n:SNode} (h:at? d i=some n):nz d i =
  (if n.1=1 then true else if n.1=4 then nz d n.2.1&&nz d n.2.2.1 else if n.1=5 then nz d n.2.1||nz d n.2.2.1 else if n.1=6 then true else if n.1=7 then decide (n.2.2.2.1=0)||nz d n.2.1 else false):=by
 obtain ⟨k,rfl,hk⟩:=zm5 h;have e:=nzL_at hk;have e2:nz d (k:Int)=nzN ((nzL d).take k) n:=by unfold nz;rw [zbm,e];rfl
 rw [e2];unfold nzN
 by_cases h1:n.1=1
 ·simp [h1]
 ·by_cases h4:n.1=4
  ·obtain ⟨⟨a,b⟩,c,e⟩:=hd.two _ n h (.inl h4);rw [if_neg h1,if_pos h4,if_neg h1,if_pos h4,zhn a b,zhn c e];rfl
  ·by_cases h5:n.1=5
   ·obtain ⟨⟨a,b⟩,c,e⟩:=hd.two _ n h (.inr h5);rw [if_neg h1,if_neg h4,if_pos h5,if_neg h1,if_neg h4,if_pos h5,zhn a b,zhn c e];rfl
   ·by_cases h6:n.1=6
    ·simp [h6]
    ·by_cases h7:n.1=7
     ·obtain ⟨a,b⟩:=hd.one _ n h (.inr (.inl h7));rw [if_neg h1,if_neg h4,if_neg h5,if_neg h6,if_pos h7,if_neg h1,if_neg h4,if_neg h5,if_neg h6,if_pos h7,zhn a b];rfl
     ·simp [h1,h4,h5,h6,h7]
theorem wv_nz {d:List SNode} (hd:NOk d):∀(k:Nat) (i:Int) (n:SNode),i<(k:Int)→at? d i=some n→(wv d i≠0↔nz d i=true)
 | 0,i,n,hi,hn=>by have:=zbq hn;omega
 | k+1,i,n,hi,hn=>by
  have ih:=wv_nz hd k;rw [wv_at hd hn,nz_atN hd hn]
  by_cases h1:n.1=1
  ·simp [h1]
  ·by_cases h4:n.1=4
   ·obtain ⟨⟨a,b⟩,c,e⟩:=hd.two _ n hn (.inl h4);obtain ⟨m1,hm1⟩:=zdg hn a b;obtain ⟨m2,hm2⟩:=zdg hn c e;rw [if_neg h1,if_pos h4,if_neg h1,if_pos h4,Bool.and_eq_true,← ih _ m1 (by omega) hm1,← ih _ m2 (by omega) hm2,← Nat.mul_ne_zero_iff];omega
   ·by_cases h5:n.1=5
    ·obtain ⟨⟨a,b⟩,c,e⟩:=hd.two _ n hn (.inr h5);obtain ⟨m1,hm1⟩:=zdg hn a b;obtain ⟨m2,hm2⟩:=zdg hn c e;rw [if_neg h1,if_neg h4,if_pos h5,if_neg h1,if_neg h4,if_pos h5,Bool.or_eq_true,← ih _ m1 (by omega) hm1,← ih _ m2 (by omega) hm2];omega
    ·by_cases h6:n.1=6
     ·simp [h6];split <;> omega
     ·by_cases h7:n.1=7
      ·obtain ⟨a,b⟩:=hd.one _ n hn (.inr (.inl h7));obtain ⟨r0,r1,r2⟩:=hd.rep _ n hn h7;obtain ⟨m1,hm1⟩:=zdg hn a b;rw [if_neg h1,if_neg h4,if_neg h5,if_neg h6,if_pos h7,if_neg h1,if_neg h4,if_neg h5,if_neg h6,if_pos h7,sumW_zero,Bool.or_eq_true,← ih _ m1 (by omega) hm1,decide_eq_true_eq];constructor
       ·rintro ⟨t,h1,h2⟩;rcases zoj.1 h2 with h3 | h3
        ·exact .inl (by omega)
        ·exact .inr h3
       ·rintro (h3 | h3)
        ·exact ⟨0,by omega,zoj.2 (.inl (by omega))⟩
        ·exact ⟨0,by omega,zoj.2 (.inr h3)⟩
      ·simp [h1,h4,h5,h6,h7]
theorem min_mul (x y:Nat):min 2 (min 2 x*min 2 y)=min 2 (x*y):=by
 rcases Nat.lt_or_ge x 2 with h | h
 ·have:x=0∨x=1:=by omega
  rcases this with rfl | rfl <;> simp
 ·rcases Nat.lt_or_ge y 2 with h' | h'
  ·have:y=0∨y=1:=by omega
   rcases this with rfl | rfl <;> simp
  ·have:2*2≤x*y:=Nat.mul_le_mul h h';rw [Nat.min_eq_left h,Nat.min_eq_left h'];omega
theorem ROk.nok {d:List SNode} (h:ROk d):NOk d:=⟨h.two,h.one,h.rep,h.kind,h.ntx⟩
theorem ways_l3 {l:List Int} {a:Nat} (ha:a≤2) {e:SNode} (h1:at? l e.2.1=some (a:Int)) {t:Nat} (ht:t≤255) {Z:Int→Prop} (hZ:Z (powW a t:Int)):
  ∀(m v:Nat),v+m=t→∃k,zq.l3 l e t Z k (powW a v:Int) v
 | 0,v,hv=>by
  obtain rfl:v=t:=by omega
  exact ⟨1,fun h=>absurd (dt h) (by omega),fun _=>hZ⟩
 | m+1,v,hv=>by
  obtain ⟨k,hk⟩:=ways_l3 ha h1 ht hZ m (v+1) (by omega);have e1:(min 2 ((powW a v:Int)*(a:Int)))=(powW a (v+1):Int):=by
   have:=Int.natCast_mul (powW a v) a;rw [← powW_step ha v];omega
  have hle:=powW_le a v;have hle2:powW a v*a≤4:=by
   have:=Nat.mul_le_mul hle ha;omega
  exact ⟨k+1,fun _=>⟨a,h1,zi (by omega) (by rw [← Int.natCast_mul];omega),zi (by omega) (by omega),by rw [e1];exact hk⟩,fun h=>absurd (by omega) (df h)⟩
theorem ways_l2 {l:List Int} {a:Nat} (ha:a≤2) {e:SNode} (h1:at? l e.2.1=some (a:Int)) {lo hi:Nat} (hlo:e.2.2.2.1=lo) (hhi:e.2.2.2.2.1=hi) (hh:hi≤255) {Z:Int→Prop} (hZ:Z (sumW a lo (hi+1-lo):Int)):
  ∀(m j:Nat),j+m=hi+1-lo→∃k,zq.l2 l e Z k (sumW a lo j:Int) ((lo+j:Nat):Int)
 | 0,j,hj=>by
  obtain rfl:j=hi+1-lo:=by omega
  exact ⟨1,fun h=>absurd (dt h) (by omega),fun _=>hZ⟩
 | m+1,j,hj=>by
  obtain ⟨k,hk⟩:=ways_l2 ha h1 hlo hhi hh hZ m (j+1) (by omega);have hs:=sumW_le a lo j;have hp:=powW_le a (lo+j);have e1:(min 2 ((sumW a lo j:Int)+(powW a (lo+j):Int)))=(sumW a lo (j+1):Int):=by simp only [sumW];omega
  obtain ⟨k3,hk3⟩:=ways_l3 ha h1 (t:=lo+j) (by omega) (Z:=zq.j3 (zq.l2 l e Z k) (sumW a lo j:Int) ((lo+j:Nat):Int)) ⟨zi (by omega) (by omega),zi (by omega) (by omega),by
   rw [e1];have:(((lo+j:Nat):Int)+1)=((lo+(j+1):Nat):Int):=by omega
   rw [this];exact hk⟩ (lo+j) 0 (by omega)
  have e0:(powW a 0:Int)=1:=rfl;rw [e0] at hk3;exact ⟨k+1,fun _=>⟨k3,hk3⟩,fun h=>absurd (by omega) (df h)⟩
theorem zrm {d:List SNode} (hl:d.length≤1000) (hd:NOk d) {i:Nat} (h1:i<d.length):zq d (i:Int) (wv d (i:Int):Int):=by
 have hat:∀(k:Nat) (a:Int),0≤a→a<(k:Int)→at? ((List.range k).map fun (j:Nat)=>(wv d (j:Int):Int)) a=some (wv d a:Int):=fun k a h0 h1=>by
  obtain ⟨j,rfl⟩:∃j:Nat,a=(j:Int):=⟨a.toNat,by omega⟩;rw [zbm,List.getElem?_map,List.getElem?_range (by omega)];rfl
 have key:∀(m:Nat) (k:Nat),k+m=i+1→∃f,zq.l1 d (i:Int) (zq.j1 (i:Int) (wv d (i:Int):Int)) f ((List.range k).map fun (j:Nat)=>(wv d (j:Int):Int)) (k:Int):=by
  intro m
  induction m with
  | zero=>
   intro k hk;exact ⟨1,fun h=>absurd (dt h) (by omega),fun _=>⟨_,hat k _ (by omega) (by omega),rfl⟩⟩
  | succ m ih=>
   intro k hk;obtain ⟨f,hf⟩:=ih (k+1) (by omega);obtain ⟨e,he,_⟩:=zm6 (xs:=d) (i:=(k:Int)) (by omega) (by omega);have hw:=wv_at hd he;have next:∀w:Nat,min 2 w=wv d (k:Int)→zq.j2 (zq.l1 d (i:Int) (zq.j1 (i:Int) (wv d (i:Int):Int)) f) ((List.range k).map fun (j:Nat)=>(wv d (j:Int):Int)) (k:Int) (w:Int):=fun w hw=>by
    refine ⟨by simp;omega,zi (by omega) (by omega), ?_⟩;have e1:(min 2 (w:Int))=(wv d (k:Int):Int):=by rw [← hw];omega
    rw [e1];have e2:((List.range k).map fun (j:Nat)=>(wv d (j:Int):Int))++[(wv d (k:Int):Int)]=(List.range (k+1)).map fun (j:Nat)=>(wv d (j:Int):Int):=by
     rw [List.range_succ,List.map_append];rfl
    rw [e2];exact hf
   have ne:∀{a b:Int},a≠b→(a==b)=true→False:=fun h k=>h (eq_of_beq k);refine ⟨f+1,fun _=>⟨e,he,fun h=>?_,fun k1=>⟨fun h=>?_,fun k4=>⟨fun h=>?_,fun k5=>⟨fun h=>?_,fun k6=>⟨fun h=>?_,fun k7=>?_⟩⟩⟩⟩⟩,fun h=>absurd (by omega) (df h)⟩
   ·have h1:e.1=1:=eq_of_beq h;exact next 1 (by rw [hw,if_pos h1];rfl)
   ·have h1:e.1≠1:=by simpa using k1
    have h4:e.1=4:=eq_of_beq h;rw [if_neg h1,if_pos h4] at hw;obtain ⟨⟨a0,a1⟩,b0,b1⟩:=hd.two _ e he (.inl h4);have l1:=WV_le d d.length e.2.1;have l2:=WV_le d d.length e.2.2.1;have hm:wv d e.2.1*wv d e.2.2.1≤4:=by have:=Nat.mul_le_mul l1 l2;exact this
    refine ⟨_,hat k _ a0 a1,_,hat k _ b0 b1,zi (by rw [← Int.natCast_mul];omega) (by rw [← Int.natCast_mul];omega), ?_⟩;rw [← Int.natCast_mul];exact next _ hw.symm
   ·have h1:e.1≠1:=by simpa using k1
    have h4:e.1≠4:=by simpa using k4
    have h5:e.1=5:=eq_of_beq h;rw [if_neg h1,if_neg h4,if_pos h5] at hw;obtain ⟨⟨a0,a1⟩,b0,b1⟩:=hd.two _ e he (.inr h5);have l1:=WV_le d d.length e.2.1;have l2:=WV_le d d.length e.2.2.1;unfold wv at *;refine ⟨_,hat k _ a0 a1,_,hat k _ b0 b1,zi (by omega) (by omega), ?_⟩;exact next (WV d d.length e.2.1+WV d d.length e.2.2.1) hw.symm
   ·have h1:e.1≠1:=by simpa using k1
    have h4:e.1≠4:=by simpa using k4
    have h5:e.1≠5:=by simpa using k5
    have h6:e.1=6:=eq_of_beq h;rw [if_neg h1,if_neg h4,if_neg h5,if_pos h6] at hw;obtain ⟨a0,a1⟩:=hd.one _ e he (.inl h6);refine ⟨_,hat k _ a0 a1,fun h=>?_,fun h=>?_⟩
    ·exact next 2 (by rw [hw,if_pos (by have:=dt h;omega)];rfl)
    ·exact next 1 (by rw [hw,if_neg (by have:=df h;omega)];rfl)
   ·have h1:e.1≠1:=by simpa using k1
    have h4:e.1≠4:=by simpa using k4
    have h5:e.1≠5:=by simpa using k5
    have h6:e.1≠6:=by simpa using k6
    have h7:e.1=7:=eq_of_beq h;rw [if_neg h1,if_neg h4,if_neg h5,if_neg h6,if_pos h7] at hw;obtain ⟨a0,a1⟩:=hd.one _ e he (.inr (.inl h7));obtain ⟨r0,r1,r2⟩:=hd.rep _ e he h7;have hs:=sumW_le (wv d e.2.1) e.2.2.2.1.toNat (e.2.2.2.2.1+1-e.2.2.2.1).toNat;have e1:(e.2.2.2.2.1+1-e.2.2.2.1).toNat=e.2.2.2.2.1.toNat+1-e.2.2.2.1.toNat:=by omega
    have:=ways_l2 (l:=(List.range k).map fun (j:Nat)=>(wv d (j:Int):Int)) (WV_le d d.length e.2.1) (e:=e) (hat k _ a0 a1) (lo:=e.2.2.2.1.toNat) (hi:=e.2.2.2.2.1.toNat) (by omega) (by omega) (by omega)
     (Z:=zq.j2 (zq.l1 d (i:Int) (zq.j1 (i:Int) (wv d (i:Int):Int)) f) ((List.range k).map fun (j:Nat)=>(wv d (j:Int):Int)) (k:Int))
     (next _ (by rw [hw,e1];rw [e1] at hs;exact Nat.min_eq_right hs)) (e.2.2.2.2.1.toNat+1-e.2.2.2.1.toNat) 0 (by omega)
    have e2:((e.2.2.2.1.toNat+0:Nat):Int)=e.2.2.2.1:=by omega
    rw [e2] at this;exact this
   ·have h1:e.1≠1:=by simpa using k1
    have h4:e.1≠4:=by simpa using k4
    have h5:e.1≠5:=by simpa using k5
    have h6:e.1≠6:=by simpa using k6
    have h7:e.1≠7:=by simpa using k7
    rw [if_neg h1,if_neg h4,if_neg h5,if_neg h6,if_neg h7] at hw;exact next 0 (by rw [hw];rfl)
 obtain ⟨f,hf⟩:=key (i+1) 0 (by omega);exact ⟨f,by simpa using hf⟩
theorem first8_ok {d:List SNode} (hl:d.length≤1000) (hd:NOk d):∃r,zb4 d r∧(r.2=false→∀(i:Int) n,at? d i=some n→(n.1=6∨n.1=7)→nz d n.2.1=false):=by
 have key:∀(m i:Nat),i+m=d.length→(∀(k:Int) n,k<(i:Int)→at? d k=some n→(n.1=6∨n.1=7)→nz d n.2.1=false)→∃q:(Int × Bool) × Nat,zb4.l1 d q.1 (zb4.j1 q.1) q.2 (i:Int)∧(q.1.2=false→∀(i:Int) n,at? d i=some n→(n.1=6∨n.1=7)→nz d n.2.1=false):=by
  intro m
  induction m with
  | zero=>
   intro i hi hk;exact ⟨((0,false),1),⟨fun h=>absurd (dt h) (by omega),fun _=>rfl⟩,fun _ k n hn=>hk k n (by have:=zbq hn;omega) hn⟩
  | succ m ih=>
   intro i hi hk;obtain ⟨e,he,_⟩:=zm6 (xs:=d) (i:=(i:Int)) (by omega) (by omega);have hw:∃w,((((e.1==6)||(e.1==7)))=true→zq d e.2.1 w∧(w=0→nz d e.2.1=false)):=by
    by_cases hkk:e.1=6∨e.1=7
    ·obtain ⟨a0,a1⟩:=hd.one _ e he (by omega);obtain ⟨mm,hm⟩:=zdg he a0 a1;obtain ⟨j,hj⟩:∃j:Nat,e.2.1=(j:Int):=⟨e.2.1.toNat,by omega⟩;refine ⟨(wv d e.2.1:Int),fun _=>⟨?_,fun h0=>?_⟩⟩
     ·rw [hj];exact zrm hl hd (by omega)
     ·have:=wv_nz hd (d.length) e.2.1 mm (by omega) hm;cases hz:nz d e.2.1
      ·rfl
      ·have:=this.2 hz;omega
    ·exact ⟨0,fun h=>absurd (by simpa using h) hkk⟩
   obtain ⟨w,hw⟩:=hw;cases hb:(((e.1==6)||(e.1==7))&&(w != 0))
   ·obtain ⟨q,hq,hq2⟩:=ih (i+1) (by omega) (fun k n hki hn hkk=>by
     by_cases hk2:k=(i:Int)
     ·subst hk2;rw [he] at hn;cases hn;have h6:((e.1==6)||(e.1==7))=true:=by simpa using hkk
      rw [h6] at hb;simp at hb;exact (hw h6).2 hb
     ·exact hk k n (by omega) hn hkk)
    exact ⟨(q.1,q.2+1),⟨fun _=>⟨e,he,e,fun _=>he,w,fun h=>(hw h).1,(fun h=>by rw [hb] at h;cases h),fun _=>⟨zi (by omega) (by omega),by simpa using hq⟩⟩,fun h=>absurd (by omega) (df h)⟩,hq2⟩
   ·exact ⟨(((i:Int),true),1),⟨fun _=>⟨e,he,e,fun _=>he,w,fun h=>(hw h).1,fun _=>rfl,fun h=>by rw [hb] at h;cases h⟩,fun h=>absurd (by omega) (df h)⟩,(fun h=>by cases h)⟩
 obtain ⟨q,hq,hq2⟩:=key d.length 0 (by omega) (fun k n hk hn=>by have:=zbq hn;omega);exact ⟨q.1,⟨q.2,hq⟩,hq2⟩
structure Rt (d:List SNode):Prop extends ROk d where
 tr:Tr d 0 ((d.length:Int)-1)
theorem Rt.ne {d:List SNode} (h:Rt d):d≠[]:=fun e=>by
 have:=h.tr.le;subst e;simp at this
theorem right_ok {d:List SNode} (hl:d.length≤1000) (ht:∀n∈d,n.2.2.2.2.2.2.length≤140737488351232):∃r,zgw d r∧(r=true→Rt d):=by
 obtain ⟨f,hf,ho⟩:=form_ex hl ht;cases f
 ·exact ⟨false,⟨false,hf,fun _=>rfl,(fun h=>by cases h)⟩,(fun h=>by cases h)⟩
 ·have hd:=(ho rfl).nok;obtain ⟨w,hw,hw2⟩:=first8_ok hl hd;refine ⟨!w.2,⟨true,hf,(fun h=>by cases h),fun _=>⟨w,hw,rfl⟩⟩,fun h=>?_⟩;have:=hw2 (by simpa using h);exact ⟨⟨hd.two,hd.one,hd.rep,hd.kind,hd.ntx,this⟩,ho rfl⟩
def CV (d:List SNode):Nat→Int→List (List SItem)
 | 0,_=>[]
 | k+1,i=>match at? d i with
  | none=>[]
  | some n=>
   if n.1=1 then []
   else if n.1=3 then [[(3,i,0,0)]]
   else if n.1=4 then (CV d k n.2.1).map (·++[(1,n.2.2.1,0,0)])++CV d k n.2.2.1
   else if n.1=5 then CV d k n.2.1++CV d k n.2.2.1
   else if n.1=6 then (CV d k n.2.1).map (·++[(1,i,0,0)])
   else if n.1=7 then (CV d k n.2.1).map (·++[(2,i,max (n.2.2.2.1-1) 0,n.2.2.2.2.1-1)])
   else [[(1,i,0,0)]]
theorem PM_CV (d:List SNode):∀(k:Nat) (i:Int),∀p∈(PM d k i).1,p∈CV d k i
 | 0,i,p,hp=>by simp [PM] at hp
 | k+1,i,p,hp=>by
  unfold PM at hp;unfold CV;cases hn:at? d i with
  | none=>rw [hn] at hp;simp at hp
  | some n=>
   rw [hn] at hp;have a:=PM_CV d k n.2.1;have b:=PM_CV d k n.2.2.1;simp only at hp ⊢
   by_cases h1:n.1=1
   ·simp [h1] at hp
   ·rw [if_neg h1] at hp ⊢
    by_cases h3:n.1=3
    ·rw [if_pos h3] at hp ⊢;exact hp
    ·rw [if_neg h3] at hp ⊢
     by_cases h4:n.1=4
     ·rw [if_pos h4] at hp ⊢;rcases List.mem_append.1 hp with hp | hp
      ·obtain ⟨q,hq,rfl⟩:=List.mem_map.1 hp;exact List.mem_append.2 (.inl (List.mem_map.2 ⟨q,a q hq,rfl⟩))
      ·obtain ⟨l,hl,hp⟩:=List.mem_flatten.1 hp;rw [List.mem_replicate.1 hl |>.2] at hp;exact List.mem_append.2 (.inr (b p hp))
     ·rw [if_neg h4] at hp ⊢
      by_cases h5:n.1=5
      ·rw [if_pos h5] at hp ⊢;rcases List.mem_append.1 hp with hp | hp
       ·exact List.mem_append.2 (.inl (a p hp))
       ·exact List.mem_append.2 (.inr (b p hp))
      ·rw [if_neg h5] at hp ⊢
       by_cases h6:n.1=6
       ·rw [if_pos h6] at hp ⊢;obtain ⟨q,hq,rfl⟩:=List.mem_map.1 hp;exact List.mem_map.2 ⟨q,a q hq,rfl⟩
       ·rw [if_neg h6] at hp ⊢
        by_cases h7:n.1=7
        ·rw [if_pos h7] at hp ⊢;simp only at hp;split at hp
         ·obtain ⟨q,hq,rfl⟩:=List.mem_map.1 hp;exact List.mem_map.2 ⟨q,a q hq,rfl⟩
         ·cases hp
        ·rw [if_neg h7] at hp ⊢;exact hp
def CI (d:List SNode) (x:SItem):List (List SItem):=
 if x.1=1 then CV d d.length x.2.1
 else if x.1=2 then (match at? d x.2.1 with | some n=>(CV d d.length n.2.1).map (·++[(2,x.2.1,max (x.2.2.1-1) 0,x.2.2.2-1)]) | none=>[])
 else [[x]]
def CS (d:List SNode):List SItem→List (List SItem)
 | []=>[[]]
 | x::rest=>(CI d x).map (·++rest)++CS d rest
theorem pmI_CI (d:List SNode) (x:SItem):∀p∈pmI d x,p∈CI d x:=by
 intro p hp;unfold pmI at hp;unfold CI
 by_cases h1:x.1=1
 ·rw [if_pos h1] at hp ⊢;exact PM_CV d _ _ p hp
 ·rw [if_neg h1] at hp ⊢
  by_cases h2:x.1=2
  ·rw [if_pos h2] at hp ⊢;cases hn:at? d x.2.1 with
   | none=>rw [hn] at hp;cases hp
   | some n=>
    rw [hn] at hp;simp only at hp ⊢;split at hp
    ·obtain ⟨q,hq,rfl⟩:=List.mem_map.1 hp;exact List.mem_map.2 ⟨q,PM_CV d _ _ q hq,rfl⟩
    ·cases hp
  ·rw [if_neg h2] at hp ⊢;split at hp
   ·cases hp
   ·exact hp
theorem hds_CS (d:List SNode):∀(s:List SItem),∀t∈hds d s,t∈CS d s
 | [],t,ht=>ht
 | x::rest,t,ht=>by
  rcases List.mem_append.1 ht with ht | ht
  ·obtain ⟨q,hq,rfl⟩:=List.mem_map.1 ht;exact List.mem_append.2 (.inl (List.mem_map.2 ⟨q,pmI_CI d x q hq,rfl⟩))
  ·obtain ⟨l,hl,hp⟩:=List.mem_flatten.1 ht;rw [List.mem_replicate.1 hl |>.2] at hp;exact List.mem_append.2 (.inr (hds_CS d rest t hp))
structure BrOk (l:List SBranch):Prop where
 many:∀b∈l,0≤b.2∧b.2≤2
 len:∀b∈l,b.1.length≤1000
theorem zj9 {s:List SItem} {many:Int}:∀(l:List SBranch) (i:Nat),(∀b∈l.take i,¬ zdu s b.1=0∧¬ zdu s b.1<0)→zmy s many l=l.take i++zmy s many (l.drop i)
 | l,0,_=>rfl
 | [],i+1,_=>by simp
 | b::l,i+1,h=>by
  have hb:=h b (by simp)
  conv=>lhs;unfold zmy
  rw [if_neg hb.1,if_neg hb.2,zj9 l i fun c hc=>h c (by simp [hc])];rfl
theorem zmn {l:List SBranch} (hs:l.Pairwise (fun a b=>zdu a.1 b.1<0)) (hb:BrOk l) (hl:l.length≤2000000000) {s:List SItem} (hsl:s.length≤1000) {many:Int} (hm:0≤many∧many≤2):zdn l s many (zmy s many l):=by
 refine uptoK (P:=fun k (q:List SBranch × Bool) v=>zdn.l1 l s many _ k q.1 q.2 v) l.length
  (fun i q=>(q.2=false→q.1=l.take i∧∀b∈l.take i,¬ zdu s b.1=0∧¬ zdu s b.1<0)∧(q.2=true→q.1++l.drop i=zmy s many l∧∀b∈l.drop i,zdu s b.1<0)) ?_ ?_ ([],false) ⟨fun _=>⟨by simp,by simp⟩,(fun h=>by cases h)⟩
 ·rintro i ⟨out,done⟩ k hi ⟨h1,h2⟩ hk;have hol:out.length≤l.length+1:=by
   cases done
   ·have k1:=(h1 rfl).1;simp only at k1;rw [k1];simp;omega
   ·have:=congrArg List.length (h2 rfl).1;have h3:=addB_len s many l;simp at this;omega
  have hbm:l[i]∈l:=List.getElem_mem hi;have hmb:=hb.many _ hbm;have hlb:=hb.len _ hbm;have hat:at? l (i:Int)=some l[i]:=by rw [zbm];simp [hi]
  have hdr:l.drop i=l[i]::l.drop (i+1):=(List.getElem_cons_drop hi).symm;have htk:l.take (i+1)=l.take i++[l[i]]:=List.take_succ_eq_append_getElem hi;have hsrt:∀b∈l.drop (i+1),zdu l[i].1 b.1<0:=by
   have:=hs.sublist (List.drop_sublist i l);rw [hdr,List.pairwise_cons] at this;exact this.1
  refine ⟨fun _=>⟨l[i],hat,_,zm3 hsl hlb,fun h0=>?_,fun h0=>⟨fun hc=>?_,fun hc=>?_⟩⟩,fun h=>absurd (by omega) (df h)⟩
  ·have e0:zdu s l[i].1=0:=by simpa using h0
   refine ⟨l[i],hat,zi (by omega) (by omega),by simp;omega,zi (by omega) (by omega),hk (out++[(s,min 2 (l[i].2+many))],true) ⟨(fun h=>by cases h),fun _=>?_⟩⟩;cases done
   ·obtain ⟨k1,k2⟩:=h1 rfl;simp only at k1;refine ⟨?_,fun b hbb=>by rw [zb8.1 e0];exact hsrt b hbb⟩;rw [zj9 l i k2,hdr,k1]
    conv=>rhs;unfold zmy
    rw [if_pos e0];simp
   ·obtain ⟨k1,k2⟩:=h2 rfl;have:=k2 l[i] (hdr ▸ List.mem_cons_self);omega
  ·simp only [Bool.and_eq_true,decide_eq_true_eq,Bool.not_eq_true'] at hc;obtain ⟨c1,c2⟩:=hc;subst c2;obtain ⟨k1,k2⟩:=h1 rfl;simp only at k1;refine ⟨by simp;omega,l[i],hat,by simp;omega,zi (by omega) (by omega),hk (out++[(s,many)]++[l[i]],true) ⟨(fun h=>by cases h),fun _=>⟨?_,fun b hbb=>ze8 c1 (hsrt b hbb)⟩⟩⟩;rw [zj9 l i k2,hdr,k1]
   conv=>rhs;unfold zmy
   rw [if_neg (by omega),if_pos c1];simp
  ·have e0:¬ zdu s l[i].1=0:=by simpa using h0
   refine ⟨l[i],hat,by simp;omega,zi (by omega) (by omega),hk (out++[l[i]],done) ⟨fun hd=>?_,fun hd=>?_⟩⟩
   ·simp only at hd;subst hd;obtain ⟨k1,k2⟩:=h1 rfl;simp only at k1;simp only [Bool.not_false,Bool.and_true,decide_eq_false_iff_not] at hc;refine ⟨by rw [htk,k1],fun b hbb=>?_⟩;rw [htk] at hbb;rcases List.mem_append.1 hbb with hbb | hbb
    ·exact k2 b hbb
    ·rw [List.mem_singleton.1 hbb];exact ⟨e0,hc⟩
   ·simp only at hd;subst hd;obtain ⟨k1,k2⟩:=h2 rfl;refine ⟨?_,fun b hbb=>k2 b (hdr ▸ List.mem_cons_of_mem _ hbb)⟩;rw [← k1,hdr];simp
 ·rintro ⟨out,done⟩ ⟨h1,h2⟩ k;refine ⟨fun h=>absurd (dt h) (by omega),fun _=>⟨fun hd=>?_,fun hd=>?_⟩⟩
  ·have hd':done=false:=by simpa using hd
   subst hd';obtain ⟨k1,k2⟩:=h1 rfl;simp only at k1;rw [List.take_length] at k1;refine ⟨by rw [k1];simp;omega, ?_⟩;rw [zj9 l l.length k2,k1];simp [zmy]
  ·have hd':done=true:=by simpa using hd
   subst hd';obtain ⟨k1,k2⟩:=h2 rfl;rw [← k1];simp
theorem Can.brok {f:List SItem→Nat} {B:List SBranch} (h:Can f B) (hl:∀t,f t≠0→t.length≤1000):BrOk B:=
 ⟨fun b hb=>by have:=(h.many hb).2.2;omega,fun b hb=>hl _ (h.many hb).2.1⟩
theorem into_in {d:List SNode} (hd:ROk d) (hdl:d.length≤400) (hd0:∃n,at? d 0=some n) (U:List (List SItem)) (hU:U.length≤1000000000) (hU1:∀t∈U,t.length≤1000):∀(h:Nat) (s:List SItem) (L:List (List SItem)),lv d h s=some L→Vs d 400 s→∀(f:List SItem→Nat) (B:List SBranch),Can f B→(∀t,f t≠0→t∈U)→(∀t∈L,t∈U)→∃r,zda.n h d s B r∧Can (fun t=>f t+L.count t) r
 | 0,s,L,hL,_,_,_,_,_,_=>by simp [lv] at hL
 | h+1,s,L,hL,hv,f,B,hB,hf,hLU=>by
  have hlen:=hv.len;have hBl:=zsj hB hf;have hBo:=hB.brok fun t ht=>hU1 t (hf t ht);cases hr:rdy d s with
  | true=>
   have e:L=[s]:=by
    unfold lv at hL;rw [if_pos hr] at hL;exact (Option.some.inj hL).symm
   subst e;refine ⟨zmy s 1 B,⟨true,hr ▸ zki hv.form hd0,fun _=>⟨s,zsn (by simp) (by omega),_,zmn hB.srt hBo (by omega) (by omega) (by omega),rfl⟩,(fun h=>by cases h)⟩, ?_⟩;refine (hB.add s (n:=1) (by omega)).congr fun t=>?_;simp only [List.count_singleton,beq_iff_eq]
   by_cases ht:t=s
   ·subst ht;simp
   ·simp [ht,Ne.symm ht]
  | false=>
   have hopn:=hv.opn hd hr;obtain ⟨ls,hls,hlf⟩:∃ls,(opn d s).mapM (lv d h)=some ls∧ls.flatten=L:=by
    unfold lv at hL;rw [if_neg (by rw [hr];simp)] at hL;exact Option.map_eq_some_iff.1 hL
   have hlsl:ls.length=(opn d s).length:=zni hls;have hol:=opn_len (d:=d) s;have key:∀(m i:Nat) (B':List SBranch),i+m=(opn d s).length→Can (fun t=>f t+(ls.take i).flatten.count t) B'→∃(r:List SBranch) (k:Nat),zda.l1 (zda.n h) d (opn d s) (zda.j1 r) k B' (i:Int)∧Can (fun t=>f t+L.count t) r:=by
    intro m
    induction m with
    | zero=>
     intro i B' hi hB';refine ⟨B',1,⟨fun h=>absurd (dt h) (by omega),fun _=>rfl⟩, ?_⟩;rw [List.take_of_length_le (by omega),hlf] at hB';exact hB'
    | succ m ih=>
     intro i B' hi hB';have hil:i<(opn d s).length:=by omega
     obtain ⟨li,h1,h2⟩:=zry hls hil;have hsub:∀t∈li,t∈L:=fun t ht=>by
      rw [← hlf];exact List.mem_flatten.2 ⟨li,List.mem_of_getElem? h2,ht⟩
     have hsub2:∀t,(ls.take i).flatten.count t≠0→t∈U:=fun t ht=>by
      have hp:t∈(ls.take i).flatten:=List.count_pos_iff.1 (by omega);obtain ⟨l,hl,ht⟩:=List.mem_flatten.1 hp;exact hLU t (by rw [← hlf];exact List.mem_flatten.2 ⟨l,List.mem_of_mem_take hl,ht⟩)
     obtain ⟨r1,hr1,hr2⟩:=into_in hd hdl hd0 U hU hU1 h _ li h1 (hopn _ (List.getElem_mem hil)) _ B' hB' (fun t ht=>by
      by_cases h0:f t=0
      ·exact hsub2 t (by omega)
      ·exact hf t h0) (fun t ht=>hLU t (hsub t ht))
     obtain ⟨r,k,hk1,hk2⟩:=ih (i+1) r1 (by omega) (hr2.congr fun t=>by rw [take_flat h2,List.count_append,Nat.add_assoc]);exact ⟨r,k+1,⟨fun _=>⟨_,by rw [zbm];simp [hil],r1,hr1,zi (by omega) (by omega),by simpa using hk1⟩,fun h=>absurd (by omega) (df h)⟩,hk2⟩
   obtain ⟨r,k,hk1,hk2⟩:=key (opn d s).length 0 B (by omega) (hB.congr fun t=>by simp);exact ⟨r,⟨false,hr ▸ zki hv.form hd0,(fun h=>by cases h),fun _=>⟨_,zrj hd hv.form hr (by omega) hd0,k,hk1⟩⟩,hk2⟩
theorem zqp {α:Type} [BEq α] [LawfulBEq α]:∀(n:Nat) (l:List α),l.length≤n→l.eraseDups.Nodup
 | _,[],_=>by simp
 | 0,x::l,h=>by simp at h
 | n+1,x::l,h=>by
  rw [List.eraseDups_cons,List.nodup_cons];refine ⟨fun hx=>?_,zqp n _ (Nat.le_trans (List.length_filter_le _ _) (by simpa using h))⟩;have:=List.mem_eraseDups.1 hx;simp at this
theorem CV_tr {d:List SNode} {f i:Int} (h:Tr d f i):∀k,((CV d k i).length:Int)≤i-f+1:=by
 induction h with
 | leaf he hk hx h0=>
  rename_i i e
  intro k;cases k with
  | zero=>simp [CV]
  | succ k=>
   unfold CV;rw [he];simp only;rcases hk with h | h | h
   ·simp [h]
   ·simp [h]
   ·simp [h]
 | one he hk ha hb hr t ih=>
  rename_i f i e
  intro k;have hle:=t.le;cases k with
  | zero=>simp [CV];omega
  | succ k=>
   have:=ih k;unfold CV;rw [he];simp only;rw [if_neg (by omega),if_neg (by omega),if_neg (by omega),if_neg (by omega),ha];split
   ·rw [List.length_map];omega
   ·split
    ·rw [List.length_map];omega
    ·simp;omega
 | two he hk ha hb t1 t2 i1 i2=>
  rename_i f p i e
  intro k;have h1:=t1.le;have h2:=t2.le;cases k with
  | zero=>simp [CV];omega
  | succ k=>
   have a1:=i1 k;have a2:=i2 k;unfold CV;rw [he];simp only;rw [if_neg (by omega),if_neg (by omega),ha,hb];split
   ·rw [List.length_append,List.length_map];omega
   ·split
    ·rw [List.length_append];omega
    ·omega
theorem CV_few {d:List SNode} (h:Rt d) (k:Nat) (i:Int):(CV d k i).length≤d.length+1:=by
 cases hn:at? d i with
 | none=>cases k <;> simp [CV,hn]
 | some n=>
  obtain ⟨g,hg⟩:=h.tr.at hn;have h1:=CV_tr hg k;have h2:=hg.le;have h3:=hg.lt;omega
theorem CS_few {d:List SNode} (h:Rt d):∀s:List SItem,(CS d s).length≤s.length*(d.length+1)+1
 | []=>by simp [CS]
 | x::rest=>by
  have h1:=CS_few h rest;have h2:(CI d x).length≤d.length+1:=by
   unfold CI;split
   ·exact CV_few h _ _
   ·split
    ·split
     ·rw [List.length_map];exact CV_few h _ _
     ·simp
    ·simp
  simp only [CS,List.length_append,List.length_map,List.length_cons,Nat.succ_mul];omega
structure Sm (d:List SNode) (s:List SItem):Prop where
 rt:Rt d
 len:d.length≤24
 txt:∀n∈d,n.2.2.2.2.2.2.length≤140737488351232
 form:zd6 d s=true
 slen:s.length≤400
theorem Sm.dok {d:List SNode} {s:List SItem} (h:Sm d s):DOk d:=⟨by have:=h.len;omega,fun n hn=>by have:=h.txt n hn;omega⟩
theorem Sm.ne {d:List SNode} {s:List SItem} (h:Sm d s):∃n,at? d 0=some n:=by
 have:=h.rt.ne;cases d with
 | nil=>exact absurd rfl this
 | cons n d=>exact ⟨n,rfl⟩
theorem Sm.vs {d:List SNode} {s:List SItem} (h:Sm d s):Vs d 400 s:=Vs.start h.form (by have:=h.slen;omega)
theorem zmf {d:List SNode} {s:List SItem} (h:Sm d s):∃B,zfp d s B∧zig d s B∧Can (fun t=>(hds d s).count t) B:=by
 have hd:=h.rt.toROk;obtain ⟨L,⟨k,hk⟩,hp⟩:=zqt hd s h.form;have hU:(CS d s).length≤1000000000:=by
  have h1:=CS_few h.rt s;have h4:s.length*(d.length+1)≤400*25:=Nat.mul_le_mul h.slen (by have:=h.len;omega);omega
 have hLU:∀t∈L,t∈CS d s:=fun t ht=>hds_CS d s t (hp.mem_iff.1 ht);have hvs:=lv_vs hd k s L hk h.vs;have hLU2:∀t∈L,t∈L.eraseDups:=fun t ht=>List.mem_eraseDups.2 ht;have hUl:L.eraseDups.length≤1000000000:=Nat.le_trans (zkt (zqp _ L (Nat.le_refl _)) fun t ht=>hLU t (List.mem_eraseDups.1 ht)) hU;have hU1:∀t∈L.eraseDups,t.length≤1000:=fun t ht=>by
  have:=(hvs t (List.mem_eraseDups.1 ht)).1.len;have:=h.len;omega
 obtain ⟨B,hB1,hB2⟩:=into_in hd (by have:=h.len;omega) h.ne L.eraseDups hUl hU1 k s L hk h.vs (fun _=>0) [] Can.nil (fun t ht=>absurd rfl ht) hLU2;have hB3:Can (fun t=>L.count t) B:=hB2.congr fun t=>by simp
 have hBl:=zsj hB3 (U:=L.eraseDups) fun t ht=>hLU2 t (List.count_pos_iff.1 (by omega));exact ⟨B,⟨hd,h.dok,by have:=h.len;omega,h.rt.ne,h.form,by have:=h.slen;omega,by omega,k,L,hk,hB3⟩,⟨B,⟨k,hB1⟩,rfl⟩,hB3.congr fun t=>by rw [hp.count_eq]⟩
theorem zr7 {s:List SItem} (hs:s.length≤1000) (hr:∀x∈s,ItR x):zcn s (zds s):=by
 refine ⟨s,clone_in hs, ?_⟩;refine zh8 (P:=fun k (t:List SItem) v=>zcn.l1 s (zds s) _ k t v) s.length (fun i t=>t=(s.take i).map zi3++s.drop i∧(s.take i).any badI=false) ?_ ?_ _ ⟨by simp,by simp⟩
 ·rintro i t hi ⟨rfl,hb⟩;have hl:((s.take i).map zi3).length=i:=by simp;omega
  have hat:at? ((s.take i).map zi3++s.drop i) (i:Int)=some s[i]:=by
   rw [zbm,List.getElem?_append_right (by omega),hl,Nat.sub_self];simp [hi]
  have hset:∀y,((s.take i).map zi3++s.drop i).set i y=(s.take i).map zi3++[y]++s.drop (i+1):=fun y=>by
   rw [List.set_append_right _ _ (by omega),hl,Nat.sub_self,List.drop_eq_getElem_cons hi,List.set_cons_zero];simp
  have hnext:(s.take (i+1)).map zi3++s.drop (i+1)=(s.take i).map zi3++[zi3 s[i]]++s.drop (i+1):=by
   rw [List.take_succ_eq_append_getElem hi,List.map_append];rfl
  have hri:=(hr _ (List.getElem_mem hi)).2.2.1;rw [zjo] at hri
  by_cases h5:s[i].1=5
  ·by_cases hlo:s[i].2.2.1≤0
   ·have hbad:badI s[i]=true:=by simp [badI,h5,hlo]
    refine .inl fun k=>⟨fun _=>⟨_,hat,fun h=>by simp [h5] at h,fun _=>⟨fun _=>?_,fun h=>absurd hlo (df h)⟩⟩,fun h=>absurd (by omega) (df h)⟩;unfold zds;rw [if_pos (any_of hi hbad)]
   ·have hbad:badI s[i]=false:=by simp [badI,hlo]
    refine .inr ⟨_,⟨rfl,by rw [znp hi,hb,hbad];rfl⟩,fun k h=>⟨fun _=>⟨_,hat,fun h=>by simp [h5] at h,fun _=>⟨fun h=>absurd (dt h) hlo,fun _=>⟨_,hat,zi (by omega) (by omega),_,hat,zi (by omega) (by omega), ?_⟩⟩⟩,fun h=>absurd (by omega) (df h)⟩⟩;rw [hnext] at h;rw [Int.toNat_natCast,hset];have e:zi3 s[i]=(s[i].1,s[i].2.1,s[i].2.2.1-1,s[i].2.2.2):=by unfold zi3;rw [if_pos h5]
    rw [← e];exact h
  ·have hbad:badI s[i]=false:=by simp [badI,h5]
   refine .inr ⟨_,⟨rfl,by rw [znp hi,hb,hbad];rfl⟩,fun k h=>⟨fun _=>⟨_,hat,fun _=>⟨zi (by omega) (by omega), ?_⟩,fun h=>by simp at h;exact absurd h h5⟩,fun h=>absurd (by omega) (df h)⟩⟩;rw [hnext] at h;have e:zi3 s[i]=s[i]:=by unfold zi3;rw [if_neg h5]
   rw [e] at h;rw [List.drop_eq_getElem_cons hi];simpa using h
 ·rintro t ⟨rfl,hb⟩ k;refine ⟨fun h=>absurd (dt h) (by omega),fun _=>?_⟩;rw [List.take_length] at hb;show zds s=_;unfold zds;rw [if_neg (by rw [hb];simp)];simp
theorem zps {s:List SItem} (hs:s.length≤1000) (hr:∀x∈s,ItR x):zby s (zds s):=by
 refine zh8 (P:=fun k (t:List SItem) v=>zby.l1 s (zds s) _ k t v) s.length (fun i t=>t=(s.take i).map zi3∧(s.take i).any badI=false) ?_ ?_ _ ⟨by simp,by simp⟩
 ·rintro i t hi ⟨rfl,hb⟩;have hl:((s.take i).map zi3).length=i:=by simp;omega
  have hat:at? s (i:Int)=some s[i]:=by rw [zbm];simp [hi]
  have hnext:(s.take (i+1)).map zi3=(s.take i).map zi3++[zi3 s[i]]:=by
   rw [List.take_succ_eq_append_getElem hi,List.map_append];rfl
  have hri:=(hr _ (List.getElem_mem hi)).2.2.1;rw [zjo] at hri;have hj:∀k,zby.l1 s (zds s) (zby.j1 (zds s)) k ((s.take (i+1)).map zi3) ((i:Int)+1)→zby.j2 (zby.l1 s (zds s) (zby.j1 (zds s)) k) ((s.take i).map zi3) (i:Int) (zi3 s[i]):=fun k h=>by
   refine ⟨by rw [hl];simp only [List.length_cons,List.length_nil];omega,zi (by omega) (by omega), ?_⟩;rw [hnext] at h;exact h
  by_cases h5:s[i].1=5
  ·by_cases hlo:s[i].2.2.1≤0
   ·have hbad:badI s[i]=true:=by simp [badI,h5,hlo]
    refine .inl fun k=>⟨fun _=>⟨_,hat,fun _=>⟨fun _=>?_,fun h=>absurd hlo (df h)⟩,fun h=>by simp [h5] at h⟩,fun h=>absurd (by omega) (df h)⟩;unfold zds;rw [if_pos (any_of hi hbad)]
   ·have hbad:badI s[i]=false:=by simp [badI,hlo]
    refine .inr ⟨_,⟨rfl,by rw [znp hi,hb,hbad];rfl⟩,fun k h=>⟨fun _=>⟨_,hat,fun _=>⟨fun h=>absurd (dt h) hlo,fun _=>⟨zi (by omega) (by omega), ?_⟩⟩,fun h=>by simp [h5] at h⟩,fun h=>absurd (by omega) (df h)⟩⟩;have:=hj k h;unfold zi3 at this;rw [if_pos h5] at this;exact this
  ·have hbad:badI s[i]=false:=by simp [badI,h5]
   refine .inr ⟨_,⟨rfl,by rw [znp hi,hb,hbad];rfl⟩,fun k h=>⟨fun _=>⟨_,hat,fun h=>by simp at h;exact absurd h h5,fun _=>?_⟩,fun h=>absurd (by omega) (df h)⟩⟩;have:=hj k h;unfold zi3 at this;rw [if_neg h5] at this;exact this
 ·rintro t ⟨rfl,hb⟩ k;refine ⟨fun h=>absurd (dt h) (by omega),fun _=>?_⟩;rw [List.take_length] at hb;show zds s=_;unfold zds;rw [if_neg (by rw [hb];simp),List.take_length]
theorem zmw {a:Cl} {n:Nat} (hn:n<256):zf2 a (n:Int) (a.has n):=by
 refine ⟨⟨by omega,by omega⟩,_,rfl, ?_⟩;rw [show ((n:Int) / 64)=((n / 64:Nat):Int) by omega,show ((n:Int) % 64)=((n % 64:Nat):Int) by omega];show _=(andI (zqk (((a.word ((n / 64:Nat):Int).toNat):Nat):Int) _) 1==1);rw [Int.toNat_natCast,shr_bit (Nat.mod_lt _ (by omega)),has_w hn]
theorem zmv {a:Cl} {c:Int} (hc:InR .u8 c):zf2 a c (a.has c.toNat):=by
 obtain ⟨n,hn,rfl⟩:=u8_of hc;simpa using zmw (a:=a) hn
theorem zir {a:Cl} {i:Nat} (hi:i<256):zf2 a ((i:Int) % 256) (a.has i):=by
 rw [show ((i:Int) % 256)=(i:Int) by omega];exact zmw hi
theorem class_Add_in {a:Cl} {l:List Int} (hl:∀x∈l,InR .u8 x) (hn:l.length<9223372036854775807):zc8 a l (a.addL l):=by
 refine zh8 (P:=fun k (s:Cl) v=>zc8.l1 l _ k s v) l.length (fun i s=>s=a.addL (l.take i)) ?_ ?_ a (by simp [Cl.addL])
 ·rintro i s hi rfl;refine .inr ⟨a.addL (l.take (i+1)),rfl,fun k h=>?_⟩;refine ⟨fun _=>?_,fun h=>absurd (by omega) (df h)⟩;obtain ⟨n,hn,he⟩:=u8_of (hl l[i] (List.getElem_mem hi));refine ⟨l[i],by rw [zbm];simp [hi], ?_, ?_,zi (by omega) (by omega), ?_⟩
  ·rw [he];omega
  ·rw [he];omega
  ·rw [he,show ((n:Int) / 64)=((n / 64:Nat):Int) by omega,show ((n:Int) % 64)=((n % 64:Nat):Int) by omega,put_words hn];have:(a.addL (l.take i)).put n=a.addL (l.take (i+1)):=by
    rw [List.take_succ_eq_append_getElem hi];simp [Cl.addL,he]
   rw [this];exact h
 ·rintro s rfl k;exact ⟨fun h=>absurd (dt h) (by omega),fun _=>by simp [zc8.j1]⟩
theorem zpc {f t:Int}:zdq f t (Cl.row f t):=by
 refine zh8 (P:=fun k (s:Cl) v=>zdq.l1 f t _ k s v) 256 (fun i s=>∀n,n<256→s.has n=(decide (n<i)&&(Cl.row f t).has n)) ?_ ?_ _ (by intro n _;simp [has_zero])
 ·intro i s hi hs;refine .inr ⟨if (decide (f≤(i:Int))&&decide ((i:Int)≤t))=true then s.put i else s, ?_,fun k h=>?_⟩
  ·intro n hn;split
   ·rename_i hc
    rw [has_put hi,hs n hn,zkx hn]
    by_cases e:i=n
    ·subst e;simp [hc]
    ·simp only [e,decide_false,Bool.or_false]
     congr 1
     apply decide_eq_decide.2;omega
   ·rename_i hc
    rw [hs n hn,zkx hn]
    by_cases e:i=n
    ·subst e;simp [hc]
    ·congr 1
     apply decide_eq_decide.2;omega
  ·refine ⟨fun _=>?_,fun h=>absurd (by omega) (df h)⟩;rw [show ((i:Int) % 256)=i by omega];refine ⟨_,rfl,fun hc=>?_,fun hc=>?_⟩
   ·rw [if_pos hc] at h;refine ⟨s.put i, ?_,zi (by omega) (by omega),h⟩;have:=class_Add_in (a:=s) (l:=[(i:Int)]) (by simpa using u8_nat hi) (by simp);simpa [Cl.addL] using this
   ·rw [if_neg (by simp [hc])] at h;exact ⟨zi (by omega) (by omega),h⟩
 ·intro s hs k;refine ⟨fun h=>absurd (dt h) (by omega),fun _=>?_⟩;show Cl.row f t=s;apply Cl.ext;intro c hc;rw [hs c hc];simp [hc]
theorem words_up {P:Nat→Cl→Int→Prop} {a r:Cl} (g:Nat→Nat→Nat)
  (hr:∀i,i<4→r.word i=g i (a.word i))
  (hs:∀k (i:Nat) (s:Cl) (v:Int),i<4→s.word i=a.word i→v=((g i (a.word i):Nat):Int)→P k (s.setw (i:Int) v) ((i:Int)+1)→P (k+1) s (i:Int))
  (hx:∀k,P (k+1) r 4):∃k,P k a 0:=by
 refine zh8 (P:=P) 4 (fun i s=>∀j,j<4→s.word j=if j<i then r.word j else a.word j) ?_ ?_ a (by intro j hj;simp)
 ·intro i s hi h;have hv:((g i (a.word i):Nat):Int).toNat<2 ^ 64:=by rw [Int.toNat_natCast,← hr i hi];exact r.word_lt i
  refine .inr ⟨s.setw (i:Int) ((g i (a.word i):Nat):Int),fun j hj=>?_,fun k hk=>hs k i s _ hi (by rw [h i hi];simp) rfl hk⟩;rw [zn9 hv j hj,h j hj]
  by_cases e:j=i
  ·subst e;simp [hr j hj]
  ·rw [if_neg e]
   by_cases e2:j<i
   ·rw [if_pos e2,if_pos (by omega)]
   ·rw [if_neg e2,if_neg (by omega)]
 ·intro s h k;have:s=r:=Cl.ext_words fun i hi=>by rw [h i hi,if_pos hi]
  subst this;exact hx k
theorem zi5 {r:Cl} {i v:Nat} (hi:i<4) (hv:v<2 ^ 64) (h:∀j,j<64→r.has (64*i+j)=v.testBit j):r.word i=v:=by
 apply Nat.eq_of_testBit_eq;intro j;rw [Cl.word_bit]
 by_cases hj:j<64
 ·simp [hj,h j hj]
 ·have:v<2 ^ j:=Nat.lt_of_lt_of_le hv (Nat.pow_le_pow_right (by omega) (by omega));simp [hj,Nat.testBit_lt_two_pow this]
theorem ref01_Has_in {a:Cl} {n:Nat} (hn:n<256):zc0 a (n:Int) (a.has n):=by
 refine ⟨by omega,⟨by omega,by omega⟩, ?_⟩;have hw:Cl.w a ((n:Int) / 64)=((a.word (n / 64):Nat):Int):=by
  rw [show ((n:Int) / 64)=((n / 64:Nat):Int) by omega];rfl
 rw [hw];refine zh8 (P:=fun k (s:Int) v=>zc0.l1 (n:Int) _ k s v) (n % 64) (fun i s=>s=((a.word (n / 64) / 2 ^ i:Nat):Int)) ?_ ?_ _ (by simp)
 ·rintro i s hi rfl;refine .inr ⟨_,rfl,fun k h=>⟨by omega,fun _=>⟨zi (by omega) (by omega), ?_⟩,fun h=>absurd (by omega) (df h)⟩⟩;rw [Nat.pow_succ,← Nat.div_div_eq_div_mul,Int.natCast_ediv] at h;exact h
 ·rintro s rfl k;refine ⟨by omega,fun h=>absurd (dt h) (by omega),fun _=>?_⟩;show a.has n=_;rw [has_w hn,Nat.testBit_eq_decide_div_mod_eq];rcases Nat.mod_two_eq_zero_or_one (a.word (n / 64) / 2 ^ (n % 64)) with h | h
  ·rw [h,show (((a.word (n / 64) / 2 ^ (n % 64):Nat):Int) % 2)=0 by omega];rfl
  ·rw [h,show (((a.word (n / 64) / 2 ^ (n % 64):Nat):Int) % 2)=1 by omega];rfl
theorem zmo {a:Cl} {c:Int} (hc:InR .u8 c):zc0 a c (a.has c.toNat):=by
 obtain ⟨n,hn,rfl⟩:=u8_of hc;simpa using ref01_Has_in (a:=a) hn
end Go.Proofs.YtjdaaiodniicoaaGreatDoor.V
