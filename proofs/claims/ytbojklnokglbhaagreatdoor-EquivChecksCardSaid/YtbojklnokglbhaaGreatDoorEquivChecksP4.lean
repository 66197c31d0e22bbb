/-
  The texts that the law's proof needs, part 4.
-/
import Derived.Shelf.SlLaysF
import Derived.Shelf.SlSortCmp.Whole1
import Derived.Test.YtbojklnokglbhaaGreatDoorEquivChecksP3

namespace Go.Proofs.YtbojklnokglbhaaGreatDoor.V
open Go Go.Shelf Go.Sort
set_option linter.unusedVariables false
theorem put_block1 {β:Type} [Inhabited β] (enc:β→Value) {w:World} {b:Nat} {cur:Array Value} {te:TypeId} {F:Array β} (m:Nat) (os:Array Obj) (hb:w.heap[b]?=some (.cells cur te (0,0))):
  (Sort.grow (putRow enc (Sort.ahead w m) b 0 F) os).heap[b]?=some (.cells (putCells enc 0 F cur) te (0,0)):=by
 have hlt:=(Array.getElem?_eq_some_iff.1 hb).1;unfold Sort.grow putRow mapBlock;simp only;rw [Array.getElem?_append_left (by simpa [Sort.ahead] using hlt),Array.getElem?_modify,if_pos rfl];show Option.map _ (w.heap[b]?)=_;rw [hb];rfl
theorem zp0 {β:Type} [Inhabited β] (enc:β→Value) {w:World} {b c:Nat} {F:Array β} (m:Nat) (os:Array Obj) (hc:c<w.heap.size) (hne:c≠b):(Sort.grow (putRow enc (Sort.ahead w m) b 0 F) os).heap[c]?=w.heap[c]?:=by
 unfold Sort.grow putRow mapBlock;simp only;rw [Array.getElem?_append_left (by simpa [Sort.ahead] using hc),Array.getElem?_modify,if_neg (Ne.symm hne)];rfl
theorem size1 {β:Type} [Inhabited β] (enc:β→Value) (w:World) (b m:Nat) (F:Array β) (os:Array Obj):w.heap.size≤(sortWorld enc w b 0 m F os).heap.size:=by
 unfold sortWorld Sort.grow putRow mapBlock;simp [Sort.ahead]
theorem fm_sort1 {P:Program} {ρ:Ren} (L:Go.Proofs.SlLaysF.n6 P ρ) (L0:Go.Proofs.SlLaysF0.n6 P ρ) {α:Type} {E:En α} {E':VD.En α} {te:TypeId} {g:FuncId} {cf:α→α→Int} (hE:Ty P te E) (hA:E.agg=false) (hA':E'.agg=false) (hR:∀{w S cs x},E.R w S cs x→E'.R w S cs x)
  (hf:∀(args:Array Value) (w:World),(callFunc (ρ.f 6) args).run P w = .ok (.enter (ρ.f 6) args) w) (eg:∀(args:Array Value) (w:World),(callFunc g args).run P w = .ok (.enter g args) w) (hO:SWO (Go.Proofs.ltOf cf)) {xs:List α} (hlen:xs.length≤2147483648)
  (hc:∀x∈xs,∀y∈xs,VD.Fn P g [VD.Pd.rep E' x,VD.Pd.rep E' y] (VD.Rq (VD.Pd.rep (VD.En.int .i64) (cf x y)))) (v0:Value):
  Fm P (ρ.f 6) (fun b=>v0.ownBlock=some b) [Pd.prow E te v0 xs,Pd.is (.func (.func g) #[] #[])] (fun _ s' _=>∃ys:List α,ys.Perm xs∧ys.Pairwise (fun a b=>¬ cf b a<0)∧(Pd.prow E te v0 ys).p s' v0):=by
 refine ⟨hf,fun s vs hgl hX hv=>?_⟩
 match vs,hv with
 | [v,fv],⟨⟨hv0,hrow⟩,hfv,_⟩=>
 have hfv:fv = .func (.func g) #[] #[]:=hfv;subst hfv;subst hv0;obtain ⟨h1,h2,h3,css,hEl,how⟩:=hrow
 by_cases hx0:xs=[]
 ·subst hx0;obtain ⟨p,cap,rfl⟩:∃p cap,v = .slice p 0 cap:=by
   rcases how.2 with ⟨e,_⟩ | ⟨b,cap,cur,e,_⟩
   ·exact ⟨none,0,e⟩
   ·exact ⟨_,cap,e⟩
  refine (Go.Proofs.AnyF.slices_SortFunc_none L0 p cap _ s.w).mono fun e w' ⟨he,hw⟩=>?_;subst he;subst hw;exact ⟨_,s,rfl,rfl,Fr.refl hX,[],.refl _,List.Pairwise.nil,rfl,h1,h2,h3,css,hEl,how⟩
 have hpos:0<xs.length:=List.length_pos_iff.2 hx0;rcases how.2 with ⟨e,hn⟩ | ⟨b,cap,cur,hvb,hN,hgb,hnc,hcm,hcs,htk⟩
 ·omega
 subst hvb;have hXb:s.X b:=h2 b rfl;have hblt:b<s.w.heap.size:=s.lt b hXb;have hsz1:E.sz=1:=E.sc hA
 let α':={p:List Value × α // E.R s.w (zfu s) p.1 p.2∧p.2∈xs}
 have hel:∀i:Fin xs.length,E.R s.w (zfu s) (css[i.1]'(by rw [hEl.1];exact i.2)) xs[i.1]∧xs[i.1]∈xs:=fun i=>⟨hEl.2 i.1 _ _ (List.getElem?_eq_getElem _) (List.getElem?_eq_getElem _),List.getElem_mem _⟩
 let d:Array α':=Array.ofFn fun i:Fin xs.length=>⟨(css[i.1]'(by rw [hEl.1];exact i.2),xs[i.1]),hel i⟩
 have hdn:d.size=xs.length:=by simp [d]
 haveI:Inhabited α':=⟨d[0]'(by rw [hdn];exact hpos)⟩
 let enc:α'→Value:=fun p=>p.1.1.headD undef
 have hsing:∀p:α',p.1.1=[enc p]:=fun p=>by
  have hl:=E.len p.2.1;rw [hsz1] at hl;obtain ⟨u,hu⟩:=List.length_eq_one_iff.1 hl;show p.1.1=[p.1.1.headD undef];rw [hu];rfl
 have hone:OneCell enc:=fun x=>E.one x.2.1 (enc x) (by rw [hsing x];simp);have hdl:d.toList.map (fun p=>p.1.1)=css:=by
  apply List.ext_getElem?;intro i;simp only [d,List.getElem?_map,Array.toList_ofFn,List.getElem?_ofFn]
  by_cases hi:i<xs.length
  ·rw [dif_pos hi,Option.map_some,List.getElem?_eq_getElem (by rw [hEl.1];exact hi)]
  ·rw [dif_neg hi,Option.map_none,List.getElem?_eq_none (by rw [hEl.1];omega)]
 have hdx:d.toList.map (fun p=>p.1.2)=xs:=by
  apply List.ext_getElem?;intro i;simp only [d,List.getElem?_map,Array.toList_ofFn,List.getElem?_ofFn]
  by_cases hi:i<xs.length
  ·rw [dif_pos hi,Option.map_some,List.getElem?_eq_getElem hi]
  ·rw [dif_neg hi,Option.map_none,List.getElem?_eq_none (by omega)]
 have hfl:∀q:List α',(q.map (fun p=>p.1.1)).flatten=q.map enc:=fun q=>by
  induction q with
  | nil=>rfl
  | cons p q ih=>rw [List.map_cons,List.flatten_cons,ih,hsing p];rfl
 have hflat:∀(q:Array α') (j:Nat),j<q.size→(q.toList.map (fun p=>p.1.1)).flatten[j]?=some (enc q[j]!):=by
  intro q j hj;rw [hfl,List.getElem?_map,Array.getElem?_toList,Array.getElem?_eq_getElem hj,getElem!_pos q j hj];rfl
 have hH:Holds enc s.w b 0 d:=by
  intro j hj;have hf:=hflat d j hj;rw [hdl] at hf;have hcj:cur[j]?=some (enc d[j]!):=by
   rw [← htk,List.getElem?_take] at hf;split at hf
   ·simpa using hf
   ·cases hf
  refine ⟨?_, ?_⟩
  ·rw [Nat.zero_add,cell_of_row s.w b j cur te (0,0) hgb];exact hcj
  ·unfold World.frozen?;simp [hgb]
 have hO':SWO (Go.Proofs.ltOf fun p q:α'=>cf p.1.2 q.1.2):=⟨fun x=>hO.irrefl x.1.2,fun x y z=>hO.trans x.1.2 y.1.2 z.1.2,fun x y z=>hO.ntrans x.1.2 y.1.2 z.1.2⟩;have hcmp:Go.Proofs.CmpLays1 P g #[] enc (fun p q:α'=>cf p.1.2 q.1.2) b 0 d.size s.w:=by
  intro m os dk hdk x y;have hsz:s.w.heap.size≤(sortWorld enc s.w b 0 m dk os).heap.size:=size1 enc s.w b m dk os;have hoth:∀c,c<s.w.heap.size→c≠b→(sortWorld enc s.w b 0 m dk os).heap[c]?=s.w.heap[c]?:=fun c hc hne=>zp0 enc m os hc hne
  let sd:VD.St:=⟨sortWorld enc s.w b 0 m dk os,fun c=>c=b,fun c hc=>by subst hc;omega⟩
  have hgd:VD.Gl sd:=by
   have key:∀c o,¬ s.X c→s.w.heap[c]?=some o→c≠b∧sd.w.heap[c]?=some o:=fun c o k1 k2=>by
    have hpb:c≠b:=fun e=>k1 (e ▸ hXb);exact ⟨hpb,(hoth c (Array.getElem?_eq_some_iff.1 k2).1 hpb).trans k2⟩
   refine ⟨fun p hp=>?_,fun p hp=>?_⟩
   ·obtain ⟨k1,t,fr,k2⟩:=hgl.1 p hp;obtain ⟨k3,k4⟩:=key _ _ k1 k2;exact ⟨k3,t,fr,k4⟩
   ·obtain ⟨k1,m',t,fr,es,clock,ys,k2,k3,k4,k5,k6⟩:=hgl.2 p hp;obtain ⟨j1,j2⟩:=key _ _ k1 k2;obtain ⟨j3,j4⟩:=key _ _ k3 k4;exact ⟨j1,m',t,fr,es,clock,ys,j2,j3,j4,k5,k6⟩
  have hfoot:∀c,zfu s c→zfu sd c:=fun c hc=>⟨Nat.lt_of_lt_of_le hc.1 hsz,fun e=>hc.2 (e ▸ hXb)⟩;have conv:∀z:α',E'.R sd.w (zfu sd) z.1.1 z.1.2:=fun z=>E'.mono hfoot (E'.move (fun c hc=>hoth c hc.1 (fun e=>hc.2 (e ▸ hXb))) (hR z.2.1))
  have:=cmp_grow (hc _ x.2.2 _ y.2.2) sd hgd (conv x) (conv y);have hval:∀z:α',E'.val z.1.1=enc z:=fun z=>by unfold En.val;rw [hA'];rfl
  rw [hval,hval] at this;exact this
 have hmain:=Go.Proofs.Any.slices_SortFunc L enc hone (fun p q:α'=>cf p.1.2 q.1.2) hO' g #[] b 0 cap d s.w eg hcmp hH hblt (by rw [hdn];omega);rw [hdn] at hmain;refine hmain.mono fun e w' ⟨he,d',m,os,hP,hS,hw⟩=>?_;subst he;subst hw;have hd'n:d'.size=xs.length:=hP.1.trans hdn;have hsz:s.w.heap.size≤(sortWorld enc s.w b 0 m d' os).heap.size:=size1 enc s.w b m d' os
 let s':St:=⟨sortWorld enc s.w b 0 m d' os,s.X,fun c hc=>Nat.lt_of_lt_of_le (s.lt c hc) hsz⟩
 have hmv:Mv (fun c=>(Value.slice (some ⟨b,0,none⟩) xs.length cap).ownBlock=some c) s s':=
  ⟨trivial,rfl,rfl,rfl,hsz,fun c hc hne=>zp0 enc m os hc (fun e=>hne (by rw [e];rfl)),fun c hc=>hX c hc,fun c hc=>.inl hc⟩
 refine ⟨_,s',rfl,rfl,⟨hmv,fun c hc=>hc⟩,d'.toList.map (fun p=>p.1.2), ?_, ?_,rfl,rfl,fun c hc=>h2 c hc,by simp [hd'n];exact h3,d'.toList.map (fun p=>p.1.1),⟨by simp,fun i cs x hi hx=>?_⟩, ?_⟩
 ·have hp:=(hP.2.2).map (fun p:α'=>p.1.2);have e1:(d'.extract 0 xs.length).toList=d'.toList:=by rw [← hd'n];simp
  have e2:(d.extract 0 xs.length).toList=d.toList:=by rw [← hdn];simp
  rw [e1,e2,hdx] at hp;exact hp
 ·rw [List.pairwise_iff_getElem];intro i j hi hj hij;simp only [List.length_map,Array.length_toList] at hi hj;have:=hS i j (Nat.zero_le _) hij (by omega);unfold Go.Proofs.ltOf at this;rw [getElem!_pos d' i hi,getElem!_pos d' j hj] at this;simpa using this
 ·simp only [List.getElem?_map,Array.getElem?_toList] at hi hx;cases hq:d'[i]? with
  | none=>rw [hq] at hi;cases hi
  | some q=>
   rw [hq] at hi hx;simp only [Option.map_some,Option.some.injEq] at hi hx;subst hi;subst hx;exact E.go hmv q.2.1
 ·have hfll:(d'.toList.map (fun p=>p.1.1)).flatten.length=d'.size:=by rw [hfl];simp
  have hle:d'.size≤cur.size:=by rw [hcs,hd'n,hsz1];omega
  refine ⟨by rw [hfll,hsz1];simp,.inr ⟨b,cap,_,by simp [hd'n],Nat.zero_le _,put_block1 enc m os hgb,by simp [hd'n];exact hnc,hcm,by simp [putCells];exact hcs, ?_⟩⟩;apply List.ext_getElem?;intro j;rw [List.getElem?_take];simp only [List.length_map,Array.length_toList];split
  ·rename_i hj
   have hj':j<d'.size:=by rw [hsz1] at hj;omega
   rw [hflat d' j hj',Array.getElem?_toList];unfold putCells;rw [Array.getElem?_mapIdx,Array.getElem?_eq_getElem (by omega)];simp only [Option.map_some];rw [if_pos ⟨Nat.zero_le _,by omega⟩,Nat.sub_zero]
  ·rename_i hj
   rw [List.getElem?_eq_none (by rw [hfll];rw [hsz1] at hj;omega)]
theorem swo_state:SWO (Go.Proofs.ltOf fun x y:List SItem=>ze0 x y):=swo_cmp (fun x=>zjl _) (fun x y=>zf9 _ _) fun x y z h1 h2=>cmpS_le h1 h2
theorem zoz:∀{y r:List (List SItem)},y.Perm r→y.Pairwise (fun a b=>¬ ze0 b a<0)→r.Pairwise (fun a b=>ze0 a b<0)→y=r:=fun {y r} hp hs hr=>by
 have hn:r.Nodup:=hr.imp fun {a b} h e=>by subst e;exact zhb h
 have hny:y.Nodup:=hp.nodup_iff.2 hn;have hy:y.Pairwise (fun a b=>ze0 a b<0):=(hs.and hny).imp fun {a b} h=>by
  have h3:=zf9 b a;have h4:ze0 a b≠0:=fun e=>h.2 (zd9.1 e);omega
 have:=zk0 (B:=y.map fun t=>((t,0):SBranch)) (C:=r.map fun t=>((t,0):SBranch)) (List.pairwise_map.2 hy) (List.pairwise_map.2 hr) fun x=>by
  simp only [List.mem_map];constructor
  ·rintro ⟨t,ht,rfl⟩;exact ⟨t,hp.mem_iff.1 ht,rfl⟩
  ·rintro ⟨t,ht,rfl⟩;exact ⟨t,hp.mem_iff.2 ht,rfl⟩
 have h2:=congrArg (List.map (·.1)) this;simpa [List.map_map,Function.comp_def] using h2
theorem zj6 (v0:Value) {x r:List (List SItem)} (h:zfl x r):Fm Tryz.prog 60 (fun b=>v0.ownBlock=some b) [Pd.prow (En.slice En.SItem) 59 v0 x,Pd.is (.func (.func 61) #[] #[])] (fun _ s' _=>(Pd.prow (En.slice En.SItem) 59 v0 r).p s' v0):=by
 have h0:=fm_sort1 slsortT slsortS (E:=En.slice En.SItem) (E':=En.slice En.SItem) (te:=59) (g:=61) (cf:=fun a b:List SItem=>ze0 a b) ty59 rfl rfl (fun h=>h) (zfh Tryz.func60 rfl (by rfl)) (zfh Tryz.func61 rfl (by rfl)) swo_state h.2.1 (fun a ha b hb=>@zgw true dLe _ _ _ (zgx (h.1 a ha))) v0;refine ⟨h0.call,fun s vs hg hM hv=>(h0.run s vs hg hM hv).mono fun e w' ⟨v,s',he,hw,hfr,ys,hp,hs,hrow⟩=>⟨v,s',he,hw,hfr, ?_⟩⟩;rw [← zoz (hp.trans h.2.2.1.symm) hs h.2.2.2];exact hrow
end Go.Proofs.YtbojklnokglbhaaGreatDoor.V
namespace Go.Proofs.YtbojklnokglbhaaGreatDoor.V
open Go
set_option linter.unusedVariables false
def zb3.j1 (r_:(List Cl)) (out2:(List Cl)):Prop:=r_=out2
def zb3.l1 (d_:SDesc) (l_:(List (List SItem))) (X1:(List Cl)→Prop):Nat→(List Cl)→Int→Prop
 | 0,_,_=>False
 | k_0+1,out5,v7=>((decide (v7<(l_.length:Int)))=true→∃e13:(List SItem),at? l_ v7=some e13∧∃r15:(List Cl),zbm d_ e13 r15∧((out5.length+r15.length)*32≤140737488355328)∧(InR .i64 (v7+1))∧zb3.l1 d_ l_ X1 k_0 (out5++r15) (v7+1))∧((decide (v7<(l_.length:Int)))=false→X1 out5)
def zb3 (d_:SDesc) (l_:(List (List SItem))) (r_:(List Cl)):Prop:=∃k8,zb3.l1 d_ l_ (zb3.j1 r_) k8 ([]:(List Cl)) 0
def zdb.j1 (r_:(List Cl)) (out3:(List Cl)):Prop:=r_=out3
def zdb.l1 (l_:(List Cl)) (X1:(List Cl)→Prop):Nat→(List (Cl × Bool))→(List Cl)→Int→Prop
 | 0,_,_,_=>False
 | k_0+1,met6,out8,v10=>((decide (v10<(l_.length:Int)))=true→∃e17:Cl,at? l_ v10=some e17∧(((!(zel met6 e17 false)))=true→(out8.length+[e17].length≤2147483648)∧(InR .i64 (v10+1))∧zdb.l1 l_ X1 k_0 (zf5 met6 e17 true) (out8++[e17]) (v10+1))∧(((!(zel met6 e17 false)))=false→(InR .i64 (v10+1))∧zdb.l1 l_ X1 k_0 (zf5 met6 e17 true) out8 (v10+1)))∧((decide (v10<(l_.length:Int)))=false→X1 out8)
def zdb (l_:(List Cl)) (r_:(List Cl)):Prop:=∃k11,zdb.l1 l_ (zdb.j1 r_) k11 ([]:(List (Cl × Bool))) ([]:(List Cl)) 0
def zco.j1 (r_:(List (List SItem))) (found3:(List (Str × (List SItem)))):Prop:=sets_On_t found3 r_
def zco.j2 (L1_:(List (Str × (List SItem)))→Int→Prop) (v10:Int) (found20:(List (Str × (List SItem)))):Prop:=(InR .i64 (v10+1))∧L1_ found20 (v10+1)
def zco.l2 (r18:(List SBranch)) (X2:(List (Str × (List SItem)))→Prop):Nat→(List (Str × (List SItem)))→Int→Prop
 | 0,_,_=>False
 | k_0+1,found24,v26=>((decide (v26<(r18.length:Int)))=true→∃e32:SBranch,at? r18 v26=some e32∧∃r36:Str,zln e32.1 r36∧(InR .i64 (v26+1))∧zco.l2 r18 X2 k_0 (zf5 found24 r36 e32.1) (v26+1))∧((decide (v26<(r18.length:Int)))=false→X2 found24)
def zco.l1 (d_:SDesc) (l_:(List (List SItem))) (cv_:Int) (X1:(List (Str × (List SItem)))→Prop):Nat→(List (Str × (List SItem)))→Int→Prop
 | 0,_,_=>False
 | k_0+1,found8,v10=>((decide (v10<(l_.length:Int)))=true→∃e16:(List SItem),at? l_ v10=some e16∧∃r18:(List SBranch),zbw d_ e16 cv_ r18∧∃k27,zco.l2 r18 (zco.j2 (zco.l1 d_ l_ cv_ X1 k_0) v10) k27 found8 0)∧((decide (v10<(l_.length:Int)))=false→X1 found8)
def zco (d_:SDesc) (l_:(List (List SItem))) (cv_:Int) (r_:(List (List SItem))):Prop:=∃k11,zco.l1 d_ l_ cv_ (zco.j1 r_) k11 ([]:(List (Str × (List SItem)))) 0
def zie (s_:(List SItem)) (cap0_:SDesc) (r_:Bool):Prop:=∃r1:Int,zc7 cap0_ s_ r1∧r_=decide (0<r1)
def zhw (d_:SDesc) (l_:(List (List SItem))) (r_:Bool):Prop:=∃r1:Bool,zbs l_ (fun q_=>zie q_.1 d_ q_.2) r1∧r_=r1
def zhv (d_:SDesc) (r_:(List (List SItem))):Prop:=∃r1:(List SItem),zj2 d_ r1∧r_=[r1]
def zfn (d_:SDesc) (r_:(List (List SItem))):Prop:=(InR .i64 ((d_.length:Int)-1))∧r_=[[(1,(d_.length:Int)-1,0,0)]]
def zbi.j1 (r_:(List (List SItem))) (out5:(List (List SItem))):Prop:=r_=out5
def zbi.l1 (m2:(List SBranch)) (X1:(List (List SItem))→Prop):Nat→(List (List SItem))→Int→Prop
 | 0,_,_=>False
 | k_0+1,out8,i10=>((decide (i10<(m2.length:Int)))=true→∃e16:SBranch,at? m2 i10=some e16∧(out8.length+[e16.1].length≤2147483648)∧(InR .i64 (i10+1))∧zbi.l1 m2 X1 k_0 (out8++[e16.1]) (i10+1))∧((decide (i10<(m2.length:Int)))=false→X1 out8)
def zbi.j2 (r_:(List (List SItem))) (m2:(List SBranch)):Prop:=∃k11,zbi.l1 m2 (zbi.j1 r_) k11 ([]:(List (List SItem))) 0
def zbi.j3 (L2_:(List SBranch)→Int→Prop) (i22:Int) (m32:(List SBranch)):Prop:=(InR .i64 (i22+1))∧L2_ m32 (i22+1)
def zbi.l3 (r30:(List SBranch)) (X3:(List SBranch)→Prop):Nat→(List SBranch)→Int→Prop
 | 0,_,_=>False
 | k_0+1,m35,k36=>((decide (k36<(r30.length:Int)))=true→∃e42:SBranch,at? r30 k36=some e42∧∃r44:(List SBranch),zby m35 e42.1 1 r44∧(InR .i64 (k36+1))∧zbi.l3 r30 X3 k_0 r44 (k36+1))∧((decide (k36<(r30.length:Int)))=false→X3 m35)
def zbi.l2 (d_:SDesc) (l_:(List (List SItem))) (cv_:Int) (X2:(List SBranch)→Prop):Nat→(List SBranch)→Int→Prop
 | 0,_,_=>False
 | k_0+1,m21,i22=>((decide (i22<(l_.length:Int)))=true→∃e28:(List SItem),at? l_ i22=some e28∧∃r30:(List SBranch),zc9 d_ e28 cv_ r30∧∃k37,zbi.l3 r30 (zbi.j3 (zbi.l2 d_ l_ cv_ X2 k_0) i22) k37 m21 0)∧((decide (i22<(l_.length:Int)))=false→X2 m21)
def zbi (d_:SDesc) (l_:(List (List SItem))) (cv_:Int) (r_:(List (List SItem))):Prop:=∃k23,zbi.l2 d_ l_ cv_ (zbi.j2 r_) k23 ([]:(List SBranch)) 0
def zcf.j1 (r_:(List (List SItem))) (l5:(List (List SItem))):Prop:=r_=l5
def zcf.l1 (d_:SDesc) (w_:(List Int)) (X1:(List (List SItem))→Prop):Nat→(List (List SItem))→Int→Prop
 | 0,_,_=>False
 | k_0+1,l8,i10=>((decide (i10<(w_.length:Int)))=true→∃e16:Int,at? w_ i10=some e16∧∃r18:(List (List SItem)),zbi d_ l8 e16 r18∧(InR .i64 (i10+1))∧zcf.l1 d_ w_ X1 k_0 r18 (i10+1))∧((decide (i10<(w_.length:Int)))=false→X1 l8)
def zcf (d_:SDesc) (w_:(List Int)) (r_:(List (List SItem))):Prop:=∃r1:(List (List SItem)),zfn d_ r1∧∃k11,zcf.l1 d_ w_ (zcf.j1 r_) k11 r1 0
def zbu.j1 (r_:(List Cl)) (list2:(List Cl)):Prop:=r_=list2
def zbu.l1 (d_:SDesc) (l_:(List (List SItem))) (X1:(List Cl)→Prop):Nat→(List Cl)→Int→Prop
 | 0,_,_=>False
 | k_0+1,list5,i7=>((decide (i7<(l_.length:Int)))=true→∃e13:(List SItem),at? l_ i7=some e13∧∃r15:(List Cl),zx d_ e13 r15∧((list5.length+r15.length)*32≤140737488355328)∧(InR .i64 (i7+1))∧zbu.l1 d_ l_ X1 k_0 (list5++r15) (i7+1))∧((decide (i7<(l_.length:Int)))=false→X1 list5)
def zbu (d_:SDesc) (l_:(List (List SItem))) (r_:(List Cl)):Prop:=∃k8,zbu.l1 d_ l_ (zbu.j1 r_) k8 ([]:(List Cl)) 0
def zbf.j1 (r_:(List Cl)) (out2:(List Cl)):Prop:=r_=out2
def zbf.j2 (L1_:(List Cl)→Int→Prop) (l_:(List Cl)) (out5:(List Cl)) (i7:Int) (met14:Bool):Prop:=(((!met14))=true→∃e16:Cl,at? l_ i7=some e16∧(out5.length+[e16].length≤2147483648)∧(InR .i64 (i7+1))∧L1_ (out5++[e16]) (i7+1))∧(((!met14))=false→(InR .i64 (i7+1))∧L1_ out5 (i7+1))
def zbf.l2 (l_:(List Cl)) (out5:(List Cl)) (i7:Int) (X2:Bool→Prop):Nat→Bool→Int→Prop
 | 0,_,_=>False
 | k_0+1,met22,k23=>((((decide (k23<(out5.length:Int)))&&(!met22)))=true→∃e29:Cl,at? out5 k23=some e29∧∃e31:Cl,at? l_ i7=some e31∧(InR .i64 (k23+1))∧zbf.l2 l_ out5 i7 X2 k_0 (e29==e31) (k23+1))∧((((decide (k23<(out5.length:Int)))&&(!met22)))=false→X2 met22)
def zbf.l1 (l_:(List Cl)) (X1:(List Cl)→Prop):Nat→(List Cl)→Int→Prop
 | 0,_,_=>False
 | k_0+1,out5,i7=>((decide (i7<(l_.length:Int)))=true→∃k24,zbf.l2 l_ out5 i7 (zbf.j2 (zbf.l1 l_ X1 k_0) l_ out5 i7) k24 false 0)∧((decide (i7<(l_.length:Int)))=false→X1 out5)
def zbf (l_:(List Cl)) (r_:(List Cl)):Prop:=∃k8,zbf.l1 l_ (zbf.j1 r_) k8 ([]:(List Cl)) 0
def zcv.j1 (r_:Bool):Prop:=r_=true
def zcv.l1 (a_:(List (List SItem))) (b_:(List (List SItem))) (r_:Bool) (X1:Prop):Nat→Int→Prop
 | 0,_=>False
 | k_0+1,i4=>((decide (i4<(a_.length:Int)))=true→∃e10:(List SItem),at? a_ i4=some e10∧∃e12:(List SItem),at? b_ i4=some e12∧∃r14:Bool,zjv e10 e12 r14∧(((!r14))=true→r_=false)∧(((!r14))=false→(InR .i64 (i4+1))∧zcv.l1 a_ b_ r_ X1 k_0 (i4+1)))∧((decide (i4<(a_.length:Int)))=false→X1)
def zcv (a_:(List (List SItem))) (b_:(List (List SItem))) (r_:Bool):Prop:=((((a_.length:Int) != (b_.length:Int)))=true→r_=false)∧((((a_.length:Int) != (b_.length:Int)))=false→∃k5,zcv.l1 a_ b_ r_ (zcv.j1 r_) k5 0)
def zck.j1 (r_:Bool):Prop:=r_=false
def zck.l1 (d_:SDesc) (l_:(List (List SItem))) (r_:Bool) (X1:Prop):Nat→Int→Prop
 | 0,_=>False
 | k_0+1,i3=>((decide (i3<(l_.length:Int)))=true→∃e9:(List SItem),at? l_ i3=some e9∧∃r11:Int,zcp d_ e9 r11∧((decide (0<r11))=true→r_=true)∧((decide (0<r11))=false→(InR .i64 (i3+1))∧zck.l1 d_ l_ r_ X1 k_0 (i3+1)))∧((decide (i3<(l_.length:Int)))=false→X1)
def zck (d_:SDesc) (l_:(List (List SItem))) (r_:Bool):Prop:=∃k4,zck.l1 d_ l_ r_ (zck.j1 r_) k4 0
set_option maxRecDepth 100000
set_option maxHeartbeats 2000000
set_option synthInstance.maxSize 100000
set_option synthInstance.maxHeartbeats 200000
theorem zi5 {d_:SDesc} {l_:(List (List SItem))} {r_:(List Cl)} (h:zb3 d_ l_ r_):Fn Tryz.prog 44 [(Pd.rep En.SDesc d_),(Pd.rep (En.slice (En.slice En.SItem)) l_)] (Ro En.cls 51 r_):=by
 unfold zb3 at h;refine zbk Tryz.func44 J Tryz.ntmps44 (by rfl) (by simp) fun s0 a L=>?_;refine rs (sA 1 L fun a s L=>?_);refine sno En.cls 51 L fun a s L=>?_;refine es (rs ?_);refine sno En.cls 51 L fun a s L=>?_;refine es (wp_seq_k fun K1 H1=>?_);refine rA 3 L fun a s L=>?_;refine wp_block ?_;have J4:∀(out2:(List Cl)) (og3:Option Nat) (a:Act) (s:St),Has N0 21 s0 a s [(5,(Pd.row En.cls s0.w.heap.size 51 og3 out2))]→((zb3.j1 r_) out2)→K1 a s.w:=by
  intro out2 og3 a s L h;unfold zb3.j1 at h;show K1 a s.w;refine H1 _ _ (rA 2 L fun a s L=>?_);subst h;exact wp_ret (zfj J L J)
 obtain ⟨k8,h⟩:=h;refine lpn (fun k9 a s=>∃(out5:(List Cl)) (v7:Int) (og6:Option Nat),Has N0 21 s0 a s [(2,(Pd.ptr En.SDesc d_)),(5,(Pd.row En.cls s0.w.heap.size 51 og6 out5)),(8,(Pd.rep (En.slice (En.slice En.SItem)) l_)),(9,(Pi (l_.length:Int))),(10,(Pi v7))]∧zb3.l1 d_ l_ (zb3.j1 r_) k9 out5 v7) k8 ⟨([]:(List Cl)),0,none,L.kk,h⟩ ?_;rintro k9 a s ⟨out5,v7,og6,L,h⟩ KL10 hKL10;unfold zb3.l1 at h;refine rA 1 L fun a s L=>?_;refine wp_seq_k fun K11 H11=>cn L h (fun h=>?_) fun h=>?_
 ·refine wp_skip (H11 _ _ ?_);refine wp_seq_k fun K12 H12=>wp_block ?_;obtain ⟨e13,h14,h⟩:=h;refine ra 3 (p1 h14) L fun a s L=>?_;obtain ⟨r15,h16,h17,h⟩:=h;refine rg (sl 4 (p1 ((zn9 h16).frz)) L fun a s L=>?_);refine zqr 18 32 L op op Ud.h Tq.h (by decide) ⟨_,J,by decide⟩ h17 J J J J ka fun a s og18 hg_ L=>?_;refine sA 1 L fun a s L=>?_;refine en' (H12 _ _ ?_);obtain ⟨h19,h⟩:=h;refine rg (sA 2 L fun a s L=>?_);refine en' ?_;exact hKL10 a s ⟨(out5++r15),(v7+1),og18,L.kk,h⟩
 ·refine wp_exit ?_;exact J4 out5 og6 a s (L.kk) h
theorem sets_Once_ok {l_:(List Cl)} {r_:(List Cl)} (h:zdb l_ r_):Fn Tryz.prog 42 [(Pd.rep (En.slice En.cls) l_)] (Ro En.cls 51 r_):=by
 unfold zdb at h;refine zbk Tryz.func42 J Tryz.ntmps42 (by rfl) (by simp) fun s0 a L=>?_;refine rs (sno En.cls 51 L fun a s L=>?_);refine es (rs ?_);refine zjs 7 En.cls kvCls En.bool L J J J J fun a s g1 hg_ L=>?_;refine sA 1 L fun a s L=>?_;refine es (rs ?_);refine sno En.cls 51 L fun a s L=>?_;refine es (wp_seq_k fun K2 H2=>?_);refine rA 3 L fun a s L=>?_;refine wp_block ?_;have J5:∀(out3:(List Cl)) (og4:Option Nat) (a:Act) (s:St),Has N0 26 s0 a s [(4,(Pd.row En.cls s0.w.heap.size 51 og4 out3))]→((zdb.j1 r_) out3)→K2 a s.w:=by
  intro out3 og4 a s L h;unfold zdb.j1 at h;show K2 a s.w;refine H2 _ _ (rA 2 L fun a s L=>?_);subst h;exact wp_ret (zfj J L J)
 obtain ⟨k11,h⟩:=h;refine lpn (fun k12 a s=>∃(met6:(List (Cl × Bool))) (out8:(List Cl)) (v10:Int) (og7:Option Nat) (og9:Option Nat),Has N0 26 s0 a s [(3,(Pd.map En.cls kvCls En.bool s0.w.heap.size og7 met6)),(4,(Pd.row En.cls s0.w.heap.size 51 og9 out8)),(8,(Pd.rep (En.slice En.cls) l_)),(9,(Pi (l_.length:Int))),(10,(Pi v10))]∧Dis og7 og9∧zdb.l1 l_ (zdb.j1 r_) k12 met6 out8 v10) k11 ⟨([]:(List (Cl × Bool))),([]:(List Cl)),0,(some g1),none,L.kk,(Dis.symm Dis.none),h⟩ ?_;rintro k12 a s ⟨met6,out8,v10,og7,og9,L,d14,h⟩ KL13 hKL13;unfold zdb.l1 at h;refine rA 1 L fun a s L=>?_;refine wp_seq_k fun K15 H15=>cn L h (fun h=>?_) fun h=>?_
 ·refine wp_skip (H15 _ _ ?_);refine wp_seq_k fun K16 H16=>wp_block ?_;obtain ⟨e17,h18,h⟩:=h;refine rs (sl 2 (p1 h18) L fun a s L=>?_);have lt_d21:=L.rlt 4 rfl;have lt_d20:=L.mlt 3 rfl;refine z8 En.cls (z:=(0#256)) 6 L zky J J J J fun a s g19 hg_ L=>?_;have d20:=Dis.newg hg_ lt_d20;have d21:=Dis.newg hg_ lt_d21;refine sB 6 L fun s L=>?_;refine es (wp_seq_k fun K22 H22=>?_);refine rs (sA 2 L fun a s L=>?_);refine sv (zpr op op Ud.h zrz tyv4 J J) L fun a s L=>?_;refine sA 1 L fun a s L=>?_;refine es (cn L h (fun h=>?_) fun h=>?_)
  ·obtain ⟨h23,h⟩:=h;refine rg (sA 3 L fun a s L=>?_);have lt_og24_0:=L.mlt 3 rfl;have lt_og24_1:=L.blt 6 rfl;refine zb1 21 L op op Ud.h Tq.h h23 J J J J ka fun a s og24 hg_ L=>?_;have d25:=Dis.app hg_ (Dis.symm d14) lt_og24_0;have d26:=Dis.app hg_ (Dis.symm d21) lt_og24_1;refine sA 1 L fun a s L=>?_;refine en' (H22 _ _ ?_);refine rg (sA 2 L fun a s L=>?_);refine zg4 L op op o_b Ud.h zrz (.inl J) J J kw fun s L=>?_;refine en' (H16 _ _ ?_);obtain ⟨h27,h⟩:=h;refine rg (sA 2 L fun a s L=>?_);refine en' ?_;exact hKL13 a s ⟨(zf5 met6 e17 true),(out8++[e17]),(v10+1),og7,og24,L.kk,(Dis.symm d25),h⟩
  ·refine wp_skip (H22 _ _ ?_);refine rg (sA 2 L fun a s L=>?_);refine zg4 L op op o_b Ud.h zrz (.inl J) J J kw fun s L=>?_;refine en' (H16 _ _ ?_);obtain ⟨h28,h⟩:=h;refine rg (sA 2 L fun a s L=>?_);refine en' ?_;exact hKL13 a s ⟨(zf5 met6 e17 true),out8,(v10+1),og7,og9,L.kk,d14,h⟩
 ·refine wp_exit ?_;exact J5 out8 og9 a s (L.kk) h
theorem zpw {d_:SDesc} {l_:(List (List SItem))} {cv_:Int} {r_:(List (List SItem))} (h:zco d_ l_ cv_ r_):Fn Tryz.prog 33 [(Pd.rep En.SDesc d_),(Pd.rep (En.slice (En.slice En.SItem)) l_),(Pd.rep (En.int .u8) cv_)] (Ro (En.slice En.SItem) 59 r_):=by
 unfold zco at h;refine zbk Tryz.func33 J Tryz.ntmps33 (by rfl) (by simp) fun s0 a L=>?_;refine rs (sA 1 L fun a s L=>?_);refine sno (En.slice En.SItem) 59 L fun a s L=>?_;refine es (rs ?_);refine zjs 15 En.str kvStr (En.slice En.SItem) L J J J J fun a s g1 hg_ L=>?_;refine sA 1 L fun a s L=>?_;refine es (wp_seq_k fun K2 H2=>?_);refine rA 3 L fun a s L=>?_;refine wp_block ?_;have J5:∀(found3:(List (Str × (List SItem)))) (og4:Option Nat) (a:Act) (s:St),Has N0 52 s0 a s [(7,(Pd.map En.str kvStr (En.slice En.SItem) s0.w.heap.size og4 found3))]→((zco.j1 r_) found3)→K2 a s.w:=by
  intro found3 og4 a s L h;unfold zco.j1 at h;show K2 a s.w;refine H2 _ _ (rs ?_);refine sno (En.slice En.SItem) 59 L fun a s L=>?_;refine es (wp_seq_k fun K6 H6=>?_);refine wp_seq_k fun K7 H7=>?_;obtain ⟨q1,q2,q3,q4⟩:=h;refine rg ?_;obtain ⟨s2,hw,L⟩:=L.freezem (L':=[(12,Pd.row (En.slice En.SItem) s0.w.heap.size 59 none [])]) 7 rfl (.cons (t:=12) rfl no_own .nil);rw [← hw];clear hw;generalize s2=s at *;refine sw 39 (zq (O 7 J) J J) L fun a s L=>?_;refine zqq 40 L (O 39 J) U99 J J J J fun a s r hr L=>?_;refine en' ?_;show K7 a s.w;refine H7 _ _ ?_;refine wp_block ?_;have JJ:∀(a:Act) (s:St) (og:Option Nat) (out:List (List SItem)),Has N0 52 s0 a s [(12,Pd.row (En.slice En.SItem) s0.w.heap.size 59 og out)]→out.Perm (found3.map (·.2))→K6 a s.w:=by
   intro a s og out L hp;have hsrt:zfl out r_:=⟨fun b hb=>q1 b (hp.mem_iff.1 hb),by rw [hp.length_eq];exact q2,q3.trans hp.symm,q4⟩;refine H6 _ _ (wp_seq_k fun K7 H7=>?_);refine rg (sw 49 (zq (O 12 J) J J) L fun a s L=>?_);refine zkz (L':=[(12,Pd.row (En.slice En.SItem) s0.w.heap.size 59 og r_)]) 50 (fun v0=>zj6 v0 hsrt) L (O 49 J) (zs:=[.func 61]) (.cons o_isf .nil) J J J J (.turn (t:=12) J .nil) fun a s L=>?_;refine en' ?_;show K7 a s.w;refine H7 _ _ ?_;refine wp_seq_k fun K8 H8=>rg (sw 51 (zq (O 12 J) J J) L fun a s L=>?_);refine sw 6 (zbn (O 51 J) J J) L fun a s L=>?_;refine en' ?_;show K8 a s.w;refine H8 _ _ ?_;exact wp_ret (zfj J L J)
  have hmlen:found3.length≤2147483648:=by simpa using q2
  refine lpg (fun k a s=>∃(rem:List (Str × List SItem)) (cur:Option (Str × List SItem)) (og:Option Nat) (out:List (List SItem)),rem.length+1=k∧Has N0 52 s0 a s [(12,Pd.row (En.slice En.SItem) s0.w.heap.size 59 og out),(40,Pd.iter En.str kvStr (En.slice En.SItem) s0.w.heap.size r rem cur)]∧(∀b,og=some b→¬ some r=some b)∧(out++rem.map (·.2)).Perm (found3.map (·.2)))
   (found3.length+1) ⟨found3,none,none,[],rfl,L.keep (.cons (t:=12) rfl (fun _ _ h_=>h_) (.cons (t:=40) rfl (fun _ _ h_=>h_) .nil)),(fun b hb=>by cases hb),by simp⟩ ?_
  rintro k a s ⟨rem,cur,og,out,hrk,L,hdis,hperm⟩ KL hKL;refine wp_seq_k fun K5 H5=>rg (st_next (L':=[(12,Pd.row (En.slice En.SItem) s0.w.heap.size 59 og out)]) 41 L (x:=40) J J J J J (by decide) (.cons (t:=12) J hdis .nil) (fun a hrem L=>?_) (fun a s p rem' hp L=>?_))
  ·subst hrem;refine sw 42 (t_nx (O 41 J) J J) L fun a s L=>?_;refine en' ?_;show K5 a s.w;refine H5 _ _ ?_;refine wp_seq_k fun K6 H6=>cnd L J (fun hb3_=>by cases hb3_) (fun _=>?_);refine wp_exit ?_;exact JJ a s og out (L.keep (.cons (t:=12) J (fun _ _ h_=>h_) .nil)) (by simpa using hperm)
  refine sw 42 (t_nx (O 41 J) J J) L fun a s L=>?_;refine en' ?_;show K5 a s.w;refine H5 _ _ ?_;refine wp_seq_k fun K6 H6=>cnd L J (fun _=>?_) (fun hb3_=>by cases hb3_);refine wp_skip ?_;show K6 a s.w;refine H6 _ _ ?_;refine wp_block (wp_seq_k fun K9 H9=>?_);refine rg (sw 43 (t_entry (O 40 J) (zem U9) J J) L fun a s L=>?_);refine sw 44 (znm (O 43 J) J J) L fun a s L=>?_;refine sw 14 (zbn (O 44 J) J J) L fun a s L=>?_;refine en' ?_;show K9 a s.w;refine H9 _ _ ?_;refine rg ?_;have hpl:=hp.length_eq;simp only [List.length_cons] at hpl;have hol:out.length+(rem.length:Nat)=found3.length:=by
   have:=hperm.length_eq;simpa using this
  refine sw 45 (zq (O 12 J) J J) L fun a s L=>?_;refine sw 46 (zq (O 14 J) J J) L fun a s L=>?_;refine sw 47 (t_lit (xs:=[.tmp 46]) (.cons (O 46 J) .nil) U29 ty59 J J (by decide) J J) L fun a s L=>?_;have lr:=L.ilt 40 rfl r rfl;refine zb1 (L':=[(40,Pd.iter En.str kvStr (En.slice En.SItem) s0.w.heap.size r rem' (some p))]) 48 L (O 45 J) (O 47 J) U29 ty59 (by simp;omega) J J J J (.cons (t:=40) J (fun b hb e=>hdis b e hb) .nil) fun a s og' hg' L=>?_;refine sw 12 (zbn (O 48 J) J J) L fun a s L=>?_;refine en' ?_;refine hKL (k-1) a s (by omega) ⟨rem',some p,og',out++[p.2],by omega,L.keep (.cons (t:=12) J (fun _ _ h_=>h_) (.cons (t:=40) J (fun _ _ h_=>h_) .nil)),fun b hb e=>?_, ?_⟩
  ·rcases hg' b hb with h3 | h3
   ·exact hdis b h3 e
   ·cases e;omega
  ·refine List.Perm.trans ?_ hperm;have h5:=hp.map (·.2);rw [List.map_cons] at h5;rw [List.append_assoc,List.singleton_append];exact (h5.symm.append_left out)
 obtain ⟨k11,h⟩:=h;refine lpn (fun k12 a s=>∃(found8:(List (Str × (List SItem)))) (v10:Int) (og9:Option Nat),Has N0 52 s0 a s [(2,(Pd.rep (En.int .u8) cv_)),(3,(Pd.ptr En.SDesc d_)),(7,(Pd.map En.str kvStr (En.slice En.SItem) s0.w.heap.size og9 found8)),(16,(Pd.rep (En.slice (En.slice En.SItem)) l_)),(17,(Pi (l_.length:Int))),(18,(Pi v10))]∧zco.l1 d_ l_ cv_ (zco.j1 r_) k12 found8 v10) k11 ⟨([]:(List (Str × (List SItem)))),0,(some g1),L.kk,h⟩ ?_;rintro k12 a s ⟨found8,v10,og9,L,h⟩ KL13 hKL13;unfold zco.l1 at h;refine rA 1 L fun a s L=>?_;refine wp_seq_k fun K14 H14=>cn L h (fun h=>?_) fun h=>?_
 ·refine wp_skip (H14 _ _ ?_);refine wp_seq_k fun K15 H15=>wp_block ?_;obtain ⟨e16,h17,h⟩:=h;refine ra 3 (p1 h17) L fun a s L=>?_;obtain ⟨r18,h19,h⟩:=h;refine ra 6 (p1 ((next_On_ok h19).frz)) L fun a s L=>?_;refine wp_block ?_;have J22:∀(found20:(List (Str × (List SItem)))) (og21:Option Nat) (a:Act) (s:St),Has N0 52 s0 a s [(2,(Pd.rep (En.int .u8) cv_)),(3,(Pd.ptr En.SDesc d_)),(7,(Pd.map En.str kvStr (En.slice En.SItem) s0.w.heap.size og21 found20)),(16,(Pd.rep (En.slice (En.slice En.SItem)) l_)),(17,(Pi (l_.length:Int))),(18,(Pi v10))]→((zco.j2 (zco.l1 d_ l_ cv_ (zco.j1 r_) k12) v10) found20)→K15 a s.w:=by
   intro found20 og21 a s L h;unfold zco.j2 at h;show K15 a s.w;refine H15 _ _ ?_;obtain ⟨h23,h⟩:=h;refine rg (sA 2 L fun a s L=>?_);refine en' ?_;exact hKL13 a s ⟨found20,(v10+1),og21,L.kk,h⟩
  obtain ⟨k27,h⟩:=h;refine lpn (fun k28 a s=>∃(found24:(List (Str × (List SItem)))) (v26:Int) (og25:Option Nat),Has N0 52 s0 a s [(2,(Pd.rep (En.int .u8) cv_)),(3,(Pd.ptr En.SDesc d_)),(7,(Pd.map En.str kvStr (En.slice En.SItem) s0.w.heap.size og25 found24)),(16,(Pd.rep (En.slice (En.slice En.SItem)) l_)),(17,(Pi (l_.length:Int))),(18,(Pi v10)),(25,(Pd.rep (En.slice En.SBranch) r18)),(26,(Pi (r18.length:Int))),(27,(Pi v26))]∧zco.l2 r18 (zco.j2 (zco.l1 d_ l_ cv_ (zco.j1 r_) k12) v10) k28 found24 v26) k27 ⟨found8,0,og9,L.kk,h⟩ ?_;rintro k28 a s ⟨found24,v26,og25,L,h⟩ KL29 hKL29;unfold zco.l2 at h;refine rA 1 L fun a s L=>?_;refine wp_seq_k fun K30 H30=>cn L h (fun h=>?_) fun h=>?_
  ·refine wp_skip (H30 _ _ ?_);refine wp_seq_k fun K31 H31=>wp_block ?_;obtain ⟨e32,h33,h⟩:=h;refine rs (sl 2 (p1 h33) L fun a s L=>?_);have lt_d35:=L.mlt 7 rfl;refine z8 En.SBranch (z:=([],0)) 11 L zl8 J J J J fun a s g34 hg_ L=>?_;have d35:=Dis.newg hg_ lt_d35;refine sB 11 L fun s L=>?_;refine es ?_;obtain ⟨r36,h37,h⟩:=h;refine rdx 6 (p1 (zik h37)) L fun a s L=>?_;refine zg4 L op op op Ud.h (zem Ud.h) (.inl J) J J kw fun s L=>?_;refine en' (H31 _ _ ?_);obtain ⟨h38,h⟩:=h;refine rg (sA 2 L fun a s L=>?_);refine en' ?_;exact hKL29 a s ⟨(zf5 found24 r36 e32.1),(v26+1),og25,L.kk,h⟩
  ·refine wp_exit ?_;exact J22 found24 og25 a s (L.kk) h
 ·refine wp_exit ?_;exact J5 found8 og9 a s (L.kk) h
theorem zo4 {s_:(List SItem)} {cap0_:SDesc} {r_:Bool} (h:zie s_ cap0_ r_):Fn Tryz.prog 63 [(Pd.rep (En.slice En.SItem) s_),(Pd.ptr En.SDesc cap0_)] (Rq (Pd.rep En.bool r_)):=by
 unfold zie at h;refine zbk Tryz.func63 J Tryz.ntmps63 (by rfl) (by simp) fun s0 a L=>?_;refine rA 1 L fun a s L=>?_;obtain ⟨r1,h2,h⟩:=h;refine ra 5 (p1 (next_Ends_ok h2)) L fun a s L=>?_;subst h;exact wp_ret (zdp J L J)
theorem zi3 {d_:SDesc} {l_:(List (List SItem))} {r_:Bool} (h:zhw d_ l_ r_):Fn Tryz.prog 35 [(Pd.rep En.SDesc d_),(Pd.rep (En.slice (En.slice En.SItem)) l_)] (Rq (Pd.rep En.bool r_)):=by
 unfold zhw at h;refine zbk Tryz.func35 J Tryz.ntmps35 (by rfl) (by simp) fun s0 a L=>?_;refine rA 2 L fun a s L=>?_;obtain ⟨r1,h2,h⟩:=h;refine rs (sA 1 L fun a s L=>?_);refine sv (t_q (Pd.rep EnF105 (fun q_=>zie q_.1 d_ q_.2)) (zqj (cs:=[.tmp 2]) (.cons op .nil) (zfh Tryz.func63 J (by rfl)) (zj4 zmo zsb) (fun q_ h_=>zo4 h_) J J)) L fun a s L=>?_;refine sl 2 (p1 (zd8 h2)) L fun a s L=>?_;refine es ?_;subst h;exact wp_ret (zdp J L J)
theorem zk4 {d_:SDesc} {r_:(List (List SItem))} (h:zhv d_ r_):Fn Tryz.prog 36 [(Pd.rep En.SDesc d_)] (Ro (En.slice En.SItem) 59 r_):=by
 unfold zhv at h;refine zbk Tryz.func36 J Tryz.ntmps36 (by rfl) (by simp) fun s0 a L=>?_;refine rs (sA 1 L fun a s L=>?_);refine sno (En.slice En.SItem) 59 L fun a s L=>?_;refine es ?_;obtain ⟨r1,h2,h⟩:=h;refine rs (sl 2 (p1 ((zr4 h2).frz)) L fun a s L=>?_);refine zdy (xs:=[.tmp 4]) 5 L (.cons op .nil) Ud.h Tq.h J J (by decide) J J J J fun a s g3 hg_ L=>?_;refine sA 1 L fun a s L=>?_;refine es ?_;subst h;exact wp_ret (zfj J L J)
theorem zhe {d_:SDesc} {r_:(List (List SItem))} (h:zfn d_ r_):Fn Tryz.prog 30 [(Pd.rep En.SDesc d_)] (Ro (En.slice En.SItem) 59 r_):=by
 unfold zfn at h;refine zbk Tryz.func30 J Tryz.ntmps30 (by rfl) (by simp) fun s0 a L=>?_;refine rs (sA 1 L fun a s L=>?_);refine sno (En.slice En.SItem) 59 L fun a s L=>?_;refine es ?_;obtain ⟨h1,h⟩:=h;refine rs (sA 4 L fun a s L=>?_);refine sv (zbj (x:=(1,(d_.length:Int)-1,0,0)) (ps:=[(0,.const (.int .i64 1)),(1,.tmp 6)]) zej J zhu (.cons (i:=0) op J (zu (zk _ _ _)) (.cons (i:=1) op J (zi (zu (zk _ _ _)) J) .nil)) J J) L fun a s L=>?_;refine sA 1 L fun a s L=>?_;refine zdy (xs:=[.tmp 8]) 9 L (.cons op .nil) Ud.h Tq.h J J (by decide) J J J J fun a s g2 hg_ L=>?_;refine sA 1 L fun a s L=>?_;refine es ?_;subst h;exact wp_ret (zfj J L J)
theorem zkj {d_:SDesc} {l_:(List (List SItem))} {cv_:Int} {r_:(List (List SItem))} (h:zbi d_ l_ cv_ r_):Fn Tryz.prog 31 [(Pd.rep En.SDesc d_),(Pd.rep (En.slice (En.slice En.SItem)) l_),(Pd.rep (En.int .u8) cv_)] (Ro (En.slice En.SItem) 59 r_):=by
 unfold zbi at h;refine zbk Tryz.func31 J Tryz.ntmps31 (by rfl) (by simp) fun s0 a L=>?_;refine rs (sA 1 L fun a s L=>?_);refine sno (En.slice En.SItem) 59 L fun a s L=>?_;refine es (rs ?_);refine snr En.SBranch L fun a s L=>?_;refine es (wp_seq_k fun K1 H1=>?_);refine rA 1 L fun a s L=>?_;refine wp_block ?_;have J3:∀(m2:(List SBranch)) (a:Act) (s:St),Has N0 54 s0 a s [(7,(Pd.rep (En.slice En.SBranch) m2))]→((zbi.j2 r_) m2)→K1 a s.w:=by
  intro m2 a s L h;unfold zbi.j2 at h;show K1 a s.w;refine H1 _ _ (rs ?_);refine sno (En.slice En.SItem) 59 L fun a s L=>?_;refine es (wp_seq_k fun K4 H4=>?_);refine rA 1 L fun a s L=>?_;refine wp_block ?_;have J7:∀(out5:(List (List SItem))) (og6:Option Nat) (a:Act) (s:St),Has N0 54 s0 a s [(11,(Pd.row (En.slice En.SItem) s0.w.heap.size 59 og6 out5))]→((zbi.j1 r_) out5)→K4 a s.w:=by
   intro out5 og6 a s L h;unfold zbi.j1 at h;show K4 a s.w;refine H4 _ _ (rA 2 L fun a s L=>?_);subst h;exact wp_ret (zfj J L J)
  obtain ⟨k11,h⟩:=h;refine lpn (fun k12 a s=>∃(out8:(List (List SItem))) (i10:Int) (og9:Option Nat),Has N0 54 s0 a s [(7,(Pd.rep (En.slice En.SBranch) m2)),(11,(Pd.row (En.slice En.SItem) s0.w.heap.size 59 og9 out8)),(12,(Pi i10))]∧zbi.l1 m2 (zbi.j1 r_) k12 out8 i10) k11 ⟨([]:(List (List SItem))),0,none,L.kk,h⟩ ?_;rintro k12 a s ⟨out8,i10,og9,L,h⟩ KL13 hKL13;unfold zbi.l1 at h;refine wp_seq_k fun K14 H14=>rA 4 L fun a s L=>?_;refine cn L h (fun h=>?_) fun h=>?_
  ·refine wp_skip (H14 _ _ ?_);refine wp_seq_k fun K15 H15=>wp_block ?_;obtain ⟨e16,h17,h18,h⟩:=h;refine rg (sl 7 (p1 h17) L fun a s L=>?_);refine zb1 52 L op op Ud.h Tq.h h18 J J J J ka fun a s og19 hg_ L=>?_;refine sA 1 L fun a s L=>?_;refine en' (H15 _ _ ?_);obtain ⟨h20,h⟩:=h;refine rg (sA 3 L fun a s L=>?_);refine en' ?_;exact hKL13 a s ⟨(out8++[e16.1]),(i10+1),og19,L.kk,h⟩
  ·refine wp_exit ?_;exact J7 out8 og9 a s (L.kk) h
 obtain ⟨k23,h⟩:=h;refine lpn (fun k24 a s=>∃(m21:(List SBranch)) (i22:Int),Has N0 54 s0 a s [(1,(Pd.rep (En.slice (En.slice En.SItem)) l_)),(2,(Pd.rep (En.int .u8) cv_)),(3,(Pd.ptr En.SDesc d_)),(7,(Pd.rep (En.slice En.SBranch) m21)),(8,(Pi i22))]∧zbi.l2 d_ l_ cv_ (zbi.j2 r_) k24 m21 i22) k23 ⟨([]:(List SBranch)),0,L.kk,h⟩ ?_;rintro k24 a s ⟨m21,i22,L,h⟩ KL25 hKL25;unfold zbi.l2 at h;refine wp_seq_k fun K26 H26=>rA 4 L fun a s L=>?_;refine cn L h (fun h=>?_) fun h=>?_
 ·refine wp_skip (H26 _ _ ?_);refine wp_seq_k fun K27 H27=>wp_block ?_;obtain ⟨e28,h29,r30,h31,h⟩:=h;refine wp_seq (rdx 7 (pp h29 (p1 ((ref15_On_ok h31).frz))) L fun a s L=>?_);refine sA 1 L fun a s L=>?_;refine es (rA 1 L fun a s L=>?_);refine wp_block ?_;have J33:∀(m32:(List SBranch)) (a:Act) (s:St),Has N0 54 s0 a s [(1,(Pd.rep (En.slice (En.slice En.SItem)) l_)),(2,(Pd.rep (En.int .u8) cv_)),(3,(Pd.ptr En.SDesc d_)),(7,(Pd.rep (En.slice En.SBranch) m32)),(8,(Pi i22))]→((zbi.j3 (zbi.l2 d_ l_ cv_ (zbi.j2 r_) k24) i22) m32)→K27 a s.w:=by
   intro m32 a s L h;unfold zbi.j3 at h;show K27 a s.w;refine H27 _ _ ?_;obtain ⟨h34,h⟩:=h;refine rg (sA 3 L fun a s L=>?_);refine en' ?_;exact hKL25 a s ⟨m32,(i22+1),L.kk,h⟩
  obtain ⟨k37,h⟩:=h;refine lpn (fun k38 a s=>∃(m35:(List SBranch)) (k36:Int),Has N0 54 s0 a s [(1,(Pd.rep (En.slice (En.slice En.SItem)) l_)),(2,(Pd.rep (En.int .u8) cv_)),(3,(Pd.ptr En.SDesc d_)),(7,(Pd.rep (En.slice En.SBranch) m35)),(8,(Pi i22)),(9,(Pd.rep (En.slice En.SBranch) r30)),(10,(Pi k36))]∧zbi.l3 r30 (zbi.j3 (zbi.l2 d_ l_ cv_ (zbi.j2 r_) k24) i22) k38 m35 k36) k37 ⟨m21,0,L.kk,h⟩ ?_;rintro k38 a s ⟨m35,k36,L,h⟩ KL39 hKL39;unfold zbi.l3 at h;refine wp_seq_k fun K40 H40=>rA 4 L fun a s L=>?_;refine cn L h (fun h=>?_) fun h=>?_
  ·refine wp_skip (H40 _ _ ?_);refine wp_seq_k fun K41 H41=>wp_block ?_;obtain ⟨e42,h43,r44,h45,h⟩:=h;refine rg (sl 8 (pp h43 (p1 ((zi8 h45).frz))) L fun a s L=>?_);refine en' (H41 _ _ ?_);obtain ⟨h46,h⟩:=h;refine rg (sA 3 L fun a s L=>?_);refine en' ?_;exact hKL39 a s ⟨r44,(k36+1),L.kk,h⟩
  ·refine wp_exit ?_;exact J33 m35 a s (L.kk) h
 ·refine wp_exit ?_;exact J3 m21 a s (L.kk) h
theorem zkb {d_:SDesc} {w_:(List Int)} {r_:(List (List SItem))} (h:zcf d_ w_ r_):Fn Tryz.prog 11 [(Pd.rep En.SDesc d_),(Pd.rep (En.slice (En.int .u8)) w_)] (Ro (En.slice En.SItem) 59 r_):=by
 unfold zcf at h;refine zbk Tryz.func11 J Tryz.ntmps11 (by rfl) (by simp) fun s0 a L=>?_;refine rs (sA 1 L fun a s L=>?_);refine sno (En.slice En.SItem) 59 L fun a s L=>?_;refine es ?_;obtain ⟨r1,h2,h⟩:=h;refine rs (sA 1 L fun a s L=>?_);refine zen 8 L (zhe h2) opz J J J J fun a s og3 hg_ L=>?_;refine sA 1 L fun a s L=>?_;refine es (wp_seq_k fun K4 H4=>?_);refine rA 1 L fun a s L=>?_;refine wp_block ?_;have J7:∀(l5:(List (List SItem))) (og6:Option Nat) (a:Act) (s:St),Has N0 23 s0 a s [(5,(Pd.row (En.slice En.SItem) s0.w.heap.size 59 og6 l5))]→((zcf.j1 r_) l5)→K4 a s.w:=by
  intro l5 og6 a s L h;unfold zcf.j1 at h;show K4 a s.w;refine H4 _ _ (rA 2 L fun a s L=>?_);subst h;exact wp_ret (zfj J L J)
 obtain ⟨k11,h⟩:=h;refine lpn (fun k12 a s=>∃(l8:(List (List SItem))) (i10:Int) (og9:Option Nat),Has N0 23 s0 a s [(1,(Pd.rep (En.slice (En.int .u8)) w_)),(2,(Pd.ptr En.SDesc d_)),(5,(Pd.row (En.slice En.SItem) s0.w.heap.size 59 og9 l8)),(6,(Pi i10))]∧zcf.l1 d_ w_ (zcf.j1 r_) k12 l8 i10) k11 ⟨r1,0,og3,L.kk,h⟩ ?_;rintro k12 a s ⟨l8,i10,og9,L,h⟩ KL13 hKL13;unfold zcf.l1 at h;refine wp_seq_k fun K14 H14=>rA 4 L fun a s L=>?_;refine cn L h (fun h=>?_) fun h=>?_
 ·refine wp_skip (H14 _ _ ?_);refine wp_seq_k fun K15 H15=>wp_block (fzc 5 L fun s L=>?_);obtain ⟨e16,h17,r18,h19,h⟩:=h;refine rdx 6 (p1 h17) L fun a s L=>?_;refine zen 21 L (zkj h19) opz J J J J fun a s og20 hg_ L=>?_;refine sA 1 L fun a s L=>?_;refine en' (H15 _ _ ?_);obtain ⟨h21,h⟩:=h;refine rg (sA 3 L fun a s L=>?_);refine en' ?_;exact hKL13 a s ⟨r18,(i10+1),og20,L.kk,h⟩
 ·refine wp_exit ?_;exact J7 l8 og9 a s (L.kk) h
theorem zis {d_:SDesc} {l_:(List (List SItem))} {r_:(List Cl)} (h:zbu d_ l_ r_):Fn Tryz.prog 45 [(Pd.rep En.SDesc d_),(Pd.rep (En.slice (En.slice En.SItem)) l_)] (Ro En.cls 51 r_):=by
 unfold zbu at h;refine zbk Tryz.func45 J Tryz.ntmps45 (by rfl) (by simp) fun s0 a L=>?_;refine rs (sA 1 L fun a s L=>?_);refine sno En.cls 51 L fun a s L=>?_;refine es (rs ?_);refine sno En.cls 51 L fun a s L=>?_;refine es (wp_seq_k fun K1 H1=>?_);refine rA 1 L fun a s L=>?_;refine wp_block ?_;have J4:∀(list2:(List Cl)) (og3:Option Nat) (a:Act) (s:St),Has N0 22 s0 a s [(5,(Pd.row En.cls s0.w.heap.size 51 og3 list2))]→((zbu.j1 r_) list2)→K1 a s.w:=by
  intro list2 og3 a s L h;unfold zbu.j1 at h;show K1 a s.w;refine H1 _ _ (rA 2 L fun a s L=>?_);subst h;exact wp_ret (zfj J L J)
 obtain ⟨k8,h⟩:=h;refine lpn (fun k9 a s=>∃(list5:(List Cl)) (i7:Int) (og6:Option Nat),Has N0 22 s0 a s [(1,(Pd.rep (En.slice (En.slice En.SItem)) l_)),(2,(Pd.ptr En.SDesc d_)),(5,(Pd.row En.cls s0.w.heap.size 51 og6 list5)),(6,(Pi i7))]∧zbu.l1 d_ l_ (zbu.j1 r_) k9 list5 i7) k8 ⟨([]:(List Cl)),0,none,L.kk,h⟩ ?_;rintro k9 a s ⟨list5,i7,og6,L,h⟩ KL10 hKL10;unfold zbu.l1 at h;refine wp_seq_k fun K11 H11=>rA 4 L fun a s L=>?_;refine cn L h (fun h=>?_) fun h=>?_
 ·refine wp_skip (H11 _ _ ?_);refine wp_seq_k fun K12 H12=>wp_block ?_;obtain ⟨e13,h14,r15,h16,h17,h⟩:=h;refine rdx 7 (pp h14 (p1 ((zm3 h16).frz))) L fun a s L=>?_;refine zqr 20 32 L op op Ud.h Tq.h (by decide) ⟨_,J,by decide⟩ h17 J J J J ka fun a s og18 hg_ L=>?_;refine sA 1 L fun a s L=>?_;refine en' (H12 _ _ ?_);obtain ⟨h19,h⟩:=h;refine rg (sA 3 L fun a s L=>?_);refine en' ?_;exact hKL10 a s ⟨(list5++r15),(i7+1),og18,L.kk,h⟩
 ·refine wp_exit ?_;exact J4 list5 og6 a s (L.kk) h
theorem zq0 {l_:(List Cl)} {r_:(List Cl)} (h:zbf l_ r_):Fn Tryz.prog 47 [(Pd.rep (En.slice En.cls) l_)] (Ro En.cls 51 r_):=by
 unfold zbf at h;refine zbk Tryz.func47 J Tryz.ntmps47 (by rfl) (by simp) fun s0 a L=>?_;refine rs (sno En.cls 51 L fun a s L=>?_);refine es (rs ?_);refine sno En.cls 51 L fun a s L=>?_;refine es (wp_seq_k fun K1 H1=>?_);refine rA 1 L fun a s L=>?_;refine wp_block ?_;have J4:∀(out2:(List Cl)) (og3:Option Nat) (a:Act) (s:St),Has N0 42 s0 a s [(3,(Pd.row En.cls s0.w.heap.size 51 og3 out2))]→((zbf.j1 r_) out2)→K1 a s.w:=by
  intro out2 og3 a s L h;unfold zbf.j1 at h;show K1 a s.w;refine H1 _ _ (rA 2 L fun a s L=>?_);subst h;exact wp_ret (zfj J L J)
 obtain ⟨k8,h⟩:=h;refine lpn (fun k9 a s=>∃(out5:(List Cl)) (i7:Int) (og6:Option Nat),Has N0 42 s0 a s [(0,(Pd.rep (En.slice En.cls) l_)),(3,(Pd.row En.cls s0.w.heap.size 51 og6 out5)),(4,(Pi i7))]∧zbf.l1 l_ (zbf.j1 r_) k9 out5 i7) k8 ⟨([]:(List Cl)),0,none,L.kk,h⟩ ?_;rintro k9 a s ⟨out5,i7,og6,L,h⟩ KL10 hKL10;unfold zbf.l1 at h;refine wp_seq_k fun K11 H11=>rA 4 L fun a s L=>?_;refine cn L h (fun h=>?_) fun h=>?_
 ·refine wp_skip (H11 _ _ ?_);refine wp_seq_k fun K12 H12=>wp_block (rA 1 L fun a s L=>?_);refine wp_seq_k fun K13 H13=>rA 1 L fun a s L=>?_;refine wp_block ?_;have J15:∀(met14:Bool) (a:Act) (s:St),Has N0 42 s0 a s [(0,(Pd.rep (En.slice En.cls) l_)),(3,(Pd.row En.cls s0.w.heap.size 51 og6 out5)),(4,(Pi i7)),(5,(Pd.rep En.bool met14))]→((zbf.j2 (zbf.l1 l_ (zbf.j1 r_) k9) l_ out5 i7) met14)→K13 a s.w:=by
   intro met14 a s L h;unfold zbf.j2 at h;show K13 a s.w;refine H13 _ _ (rA 2 L fun a s L=>?_);refine cn L h (fun h=>?_) fun h=>?_
   ·obtain ⟨e16,h17,h18,h⟩:=h;refine rg (sl 6 (p1 h17) L fun a s L=>?_);refine zb1 40 L op op Ud.h Tq.h h18 J J J J ka fun a s og19 hg_ L=>?_;refine sA 1 L fun a s L=>?_;refine en' (H12 _ _ ?_);obtain ⟨h20,h⟩:=h;refine rg (sA 3 L fun a s L=>?_);refine en' ?_;exact hKL10 a s ⟨(out5++[e16]),(i7+1),og19,L.kk,h⟩
   ·refine wp_skip (H12 _ _ ?_);obtain ⟨h21,h⟩:=h;refine rg (sA 3 L fun a s L=>?_);refine en' ?_;exact hKL10 a s ⟨out5,(i7+1),og6,L.kk,h⟩
  obtain ⟨k24,h⟩:=h;refine lpn (fun k25 a s=>∃(met22:Bool) (k23:Int),Has N0 42 s0 a s [(0,(Pd.rep (En.slice En.cls) l_)),(3,(Pd.row En.cls s0.w.heap.size 51 og6 out5)),(4,(Pi i7)),(5,(Pd.rep En.bool met22)),(6,(Pi k23))]∧zbf.l2 l_ out5 i7 (zbf.j2 (zbf.l1 l_ (zbf.j1 r_) k9) l_ out5 i7) k25 met22 k23) k24 ⟨false,0,L.kk,h⟩ ?_;rintro k25 a s ⟨met22,k23,L,h⟩ KL26 hKL26;unfold zbf.l2 at h;refine wp_seq_k fun K27 H27=>rA 8 L fun a s L=>?_;refine cn L h (fun h=>?_) fun h=>?_
  ·refine wp_skip (H27 _ _ ?_);refine wp_seq_k fun K28 H28=>wp_block ?_;obtain ⟨e29,h30,e31,h32,h⟩:=h;refine rda zc3 9 [(Pd.row En.cls s0.w.heap.size 51 og6 out5),(Pi k23),(Pd.optr En.cls s0.w.heap.size og6 ((k23:Int).toNat*En.cls.sz) e29),(Pd.rep En.cls e29),(Pd.rep (En.slice En.cls) l_),(Pi i7),(Pd.ptr En.cls e31),(Pd.rep En.cls e31),(Pd.rep En.bool (e29==e31))] L (by kernel_rfl) J J ?_ ?_
   ·refine zbe.cons (zq (O 3 J) J J) ?_;refine zbe.cons (zq (O 6 J) J J) ?_;refine zbe.cons (zd3 (O 23 J) (O 24 J) h30 U81 zfw J J) ?_;refine zbe.cons (zcq zfw (O 25 J) J J) ?_;refine zbe.cons (zq (O 0 J) J J) ?_;refine zbe.cons (zq (O 4 J) J J) ?_;refine zbe.cons (zql (O 27 J) (O 28 J) h32 U81 zfw J J) ?_;refine zbe.cons (zcj zfw (O 29 J) J J) ?_;refine zbe.cons (t_eqv eq51 (O 26 J) (O 30 J) J J) ?_;exact zbe.nil
   intro a s _ L;replace L:=L.kk (L':=[(0,(Pd.rep (En.slice En.cls) l_)),(3,(Pd.row En.cls s0.w.heap.size 51 og6 out5)),(4,(Pi i7)),(5,(Pd.rep En.bool met22)),(6,(Pi k23)),(31,(Pd.rep En.bool (e29==e31)))]);refine dp ?_;refine sA 1 L fun a s L=>?_;refine en' (H28 _ _ ?_);obtain ⟨h33,h⟩:=h;refine rg (sA 3 L fun a s L=>?_);refine en' ?_;exact hKL26 a s ⟨(e29==e31),(k23+1),L.kk,h⟩
  ·refine wp_exit ?_;exact J15 met22 a s (L.kk) h
 ·refine wp_exit ?_;exact J4 out5 og6 a s (L.kk) h
theorem zla {a_:(List (List SItem))} {b_:(List (List SItem))} {r_:Bool} (h:zcv a_ b_ r_):Fn Tryz.prog 68 [(Pd.rep (En.slice (En.slice En.SItem)) a_),(Pd.rep (En.slice (En.slice En.SItem)) b_)] (Rq (Pd.rep En.bool r_)):=by
 unfold zcv at h;refine zbk Tryz.func68 J Tryz.ntmps68 (by rfl) (by simp) fun s0 a L=>?_;refine rA 1 L fun a s L=>?_;refine wp_seq_k fun K1 H1=>rA 5 L fun a s L=>?_;refine cn L h (fun h=>?_) fun h=>?_
 ·refine rA 1 L fun a s L=>?_;subst h;exact wp_ret (zdp J L J)
 ·refine wp_skip (H1 _ _ ?_);refine wp_seq_k fun K2 H2=>rA 1 L fun a s L=>?_;refine wp_block ?_;have J3:∀(a:Act) (s:St),Has N0 27 s0 a s []→((zcv.j1 r_))→K2 a s.w:=by
   intro a s L h;unfold zcv.j1 at h;show K2 a s.w;refine H2 _ _ (rA 1 L fun a s L=>?_);subst h;exact wp_ret (zdp J L J)
  obtain ⟨k5,h⟩:=h;refine lpn (fun k6 a s=>∃(i4:Int),Has N0 27 s0 a s [(0,(Pd.rep (En.slice (En.slice En.SItem)) a_)),(1,(Pd.rep (En.slice (En.slice En.SItem)) b_)),(5,(Pi i4))]∧zcv.l1 a_ b_ r_ (zcv.j1 r_) k6 i4) k5 ⟨0,L.kk,h⟩ ?_;rintro k6 a s ⟨i4,L,h⟩ KL7 hKL7;unfold zcv.l1 at h;refine wp_seq_k fun K8 H8=>rA 4 L fun a s L=>?_;refine cn L h (fun h=>?_) fun h=>?_
  ·refine wp_skip (H8 _ _ ?_);refine wp_seq_k fun K9 H9=>wp_block ?_;obtain ⟨e10,h11,e12,h13,r14,h15,h⟩:=h;refine wp_seq (rdx 10 (pp h11 (pp h13 (p1 (zq8 h15)))) L fun a s L=>?_);refine es (cn L h (fun h=>?_) fun h=>?_)
   ·refine rA 1 L fun a s L=>?_;subst h;exact wp_ret (zdp J L J)
   ·refine wp_skip (H9 _ _ ?_);obtain ⟨h16,h⟩:=h;refine rg (sA 3 L fun a s L=>?_);refine en' ?_;exact hKL7 a s ⟨(i4+1),L.kk,h⟩
  ·refine wp_exit ?_;exact J3 a s (L.kk) h
theorem zlc {d_:SDesc} {l_:(List (List SItem))} {r_:Bool} (h:zck d_ l_ r_):Fn Tryz.prog 40 [(Pd.rep En.SDesc d_),(Pd.rep (En.slice (En.slice En.SItem)) l_)] (Rq (Pd.rep En.bool r_)):=by
 unfold zck at h;refine zbk Tryz.func40 J Tryz.ntmps40 (by rfl) (by simp) fun s0 a L=>?_;refine rA 2 L fun a s L=>?_;refine wp_seq_k fun K1 H1=>rA 1 L fun a s L=>?_;refine wp_block ?_;have J2:∀(a:Act) (s:St),Has N0 19 s0 a s []→((zck.j1 r_))→K1 a s.w:=by
  intro a s L h;unfold zck.j1 at h;show K1 a s.w;refine H1 _ _ (rA 1 L fun a s L=>?_);subst h;exact wp_ret (zdp J L J)
 obtain ⟨k4,h⟩:=h;refine lpn (fun k5 a s=>∃(i3:Int),Has N0 19 s0 a s [(1,(Pd.rep (En.slice (En.slice En.SItem)) l_)),(2,(Pd.ptr En.SDesc d_)),(5,(Pi i3))]∧zck.l1 d_ l_ r_ (zck.j1 r_) k5 i3) k4 ⟨0,L.kk,h⟩ ?_;rintro k5 a s ⟨i3,L,h⟩ KL6 hKL6;unfold zck.l1 at h;refine wp_seq_k fun K7 H7=>rA 4 L fun a s L=>?_;refine cn L h (fun h=>?_) fun h=>?_
 ·refine wp_skip (H7 _ _ ?_);refine wp_seq_k fun K8 H8=>wp_block ?_;obtain ⟨e9,h10,r11,h12,h⟩:=h;refine wp_seq (rdx 7 (pp h10 (p1 (zq4 h12))) L fun a s L=>?_);refine es (cn L h (fun h=>?_) fun h=>?_)
  ·refine rA 1 L fun a s L=>?_;subst h;exact wp_ret (zdp J L J)
  ·refine wp_skip (H8 _ _ ?_);obtain ⟨h13,h⟩:=h;refine rg (sA 3 L fun a s L=>?_);refine en' ?_;exact hKL6 a s ⟨(i3+1),L.kk,h⟩
 ·refine wp_exit ?_;exact J2 a s (L.kk) h
def z6.j1 (r_:(List Int)) (out2:(List Int)):Prop:=∃r5:(List Int),zy out2 r5∧r_=r5
def z6.l1 (l_:(List Smade_scantling_equiv_pair_search)) (X1:(List Int)→Prop):Nat→Int→(List Int)→Prop
 | 0,_,_=>False
 | k_0+1,i7,out8=>∃e14:Smade_scantling_equiv_pair_search,at? l_ i7=some e14∧((decide (0≤e14.2.1))=true→∃e17:Smade_scantling_equiv_pair_search,at? l_ i7=some e17∧(out8.length+[e17.2.2].length≤2147483648)∧∃e21:Smade_scantling_equiv_pair_search,at? l_ i7=some e21∧z6.l1 l_ X1 k_0 e21.2.1 (out8++[e17.2.2]))∧((decide (0≤e14.2.1))=false→X1 out8)
def z6 (l_:(List Smade_scantling_equiv_pair_search)) (i_:Int) (r_:(List Int)):Prop:=∃k10,z6.l1 l_ (z6.j1 r_) k10 i_ ([]:(List Int))
def ze.j1 (r_:SFound_scantling_equiv_pair_search) (v10:SFound_scantling_equiv_pair_search) (list11:(List Smade_scantling_equiv_pair_search)):Prop:=r_=((1,[],[],0,0,0,(list11.length:Int)),([],[]))
def ze.j2 (L1_:SFound_scantling_equiv_pair_search→(List Smade_scantling_equiv_pair_search)→(List (Str × Bool))→Int→Prop) (v15:SFound_scantling_equiv_pair_search) (i20:Int) (list44:(List Smade_scantling_equiv_pair_search)) (seen46:(List (Str × Bool))):Prop:=(InR .i64 (i20+1))∧L1_ v15 list44 seen46 (i20+1)
def ze.l2 (s_:SSpace_scantling_equiv_pair_search) (i20:Int) (r42:(List SOn_scantling_equiv_pair_search)) (X2:(List Smade_scantling_equiv_pair_search)→(List (Str × Bool))→Prop):Nat→(List Smade_scantling_equiv_pair_search)→(List (Str × Bool))→Int→Prop
 | 0,_,_,_=>False
 | k_0+1,list53,seen55,v57=>((decide (v57<(r42.length:Int)))=true→∃e66:SOn_scantling_equiv_pair_search,at? r42 v57=some e66∧∃r72:Str,s_.2.1 (e66.2,r72)∧(((!(zel seen55 r72 false)))=true→(list53.length+[(e66.2,i20,e66.1)].length≤2147483648)∧(InR .i64 (v57+1))∧ze.l2 s_ i20 r42 X2 k_0 (list53++[(e66.2,i20,e66.1)]) (zf5 seen55 r72 true) (v57+1))∧(((!(zel seen55 r72 false)))=false→(InR .i64 (v57+1))∧ze.l2 s_ i20 r42 X2 k_0 list53 seen55 (v57+1)))∧((decide (v57<(r42.length:Int)))=false→X2 list53 seen55)
def ze.l1 (s_:SSpace_scantling_equiv_pair_search) (budget_:Int) (r_:SFound_scantling_equiv_pair_search) (X1:SFound_scantling_equiv_pair_search→(List Smade_scantling_equiv_pair_search)→Prop):Nat→SFound_scantling_equiv_pair_search→(List Smade_scantling_equiv_pair_search)→(List (Str × Bool))→Int→Prop
 | 0,_,_,_,_=>False
 | k_0+1,v15,list16,seen18,i20=>((decide (i20<(list16.length:Int)))=true→((decide (budget_≤i20))=true→r_=((3,[],[],0,0,0,(max budget_ 0)),([],[])))∧((decide (budget_≤i20))=false→∃e30:Smade_scantling_equiv_pair_search,at? list16 i20=some e30∧∃r37:Bool,s_.2.2.2 (e30.1,r37)∧((r37)=true→∃r39:(List Int),z6 list16 i20 r39∧(InR .i64 (i20+1))∧r_=((2,r39,[],0,0,0,i20+1),e30.1))∧((r37)=false→∃r42:(List SOn_scantling_equiv_pair_search),s_.2.2.1 (e30.1,r42)∧∃k58,ze.l2 s_ i20 r42 (ze.j2 (ze.l1 s_ budget_ r_ X1 k_0) v15 i20) k58 list16 seen18 0)))∧((decide (i20<(list16.length:Int)))=false→X1 v15 list16)
def ze (s_:SSpace_scantling_equiv_pair_search) (budget_:Int) (r_:SFound_scantling_equiv_pair_search):Prop:=∃r7:Str,s_.2.1 (s_.1,r7)∧∃k21,ze.l1 s_ budget_ r_ (ze.j1 r_) k21 ((0,[],[],0,0,0,0),([],[])) [(s_.1,(-1),0)] (zf5 ([]:(List (Str × Bool))) r7 true) 0
def zhy (a_:SVerdict) (b_:SVerdict) (r_:Bool):Prop:=∃r1:Bool,((((a_.1==b_.1))=true)→zbz a_.2.1 b_.2.1 r1)∧∃r3:Bool,(((((a_.1==b_.1)&&r1))=true)→zbz a_.2.2.1 b_.2.2.1 r3)∧∃b5:Bool,b5=((((a_.1==b_.1)&&r1)&&r3)&&(a_.2.2.2.1==b_.2.2.2.1))∧∃b7:Bool,b7=((b5&&(a_.2.2.2.2.1==b_.2.2.2.2.1))&&(a_.2.2.2.2.2.1==b_.2.2.2.2.2.1))∧r_=(b7&&(a_.2.2.2.2.2.2==b_.2.2.2.2.2.2))
set_option maxRecDepth 100000
set_option maxHeartbeats 2000000
set_option synthInstance.maxSize 100000
set_option synthInstance.maxHeartbeats 200000
theorem zhd {l_:(List Smade_scantling_equiv_pair_search)} {i_:Int} {r_:(List Int)} (h:z6 l_ i_ r_):Fn Tryz.prog 67 [(Pd.rep (En.slice En.Smade_scantling_equiv_pair_search) l_),(Pi i_)] (Ro (En.int .u8) 5 r_):=by
 unfold z6 at h;refine zbk Tryz.func67 J Tryz.ntmps67 (by rfl) (by simp) fun s0 a L=>?_;refine rs (sno (En.int .u8) 5 L fun a s L=>?_);refine es (rs ?_);refine sno (En.int .u8) 5 L fun a s L=>?_;refine es (wp_seq_k fun K1 H1=>?_);refine wp_block ?_;have J4:∀(out2:(List Int)) (og3:Option Nat) (a:Act) (s:St),Has N0 28 s0 a s [(5,(Pd.row (En.int .u8) s0.w.heap.size 5 og3 out2))]→((z6.j1 r_) out2)→K1 a s.w:=by
  intro out2 og3 a s L h;unfold z6.j1 at h;show K1 a s.w;refine H1 _ _ ?_;obtain ⟨r5,h6,h⟩:=h;refine rs (sA 1 L fun a s L=>?_);refine zkz 26 (fun v0=>zgp v0 h6) L op opz J J J J kw fun a s L=>?_;refine es (rA 2 L fun a s L=>?_);subst h;exact wp_ret (zfj J L J)
 obtain ⟨k10,h⟩:=h;refine lpn (fun k11 a s=>∃(i7:Int) (out8:(List Int)) (og9:Option Nat),Has N0 28 s0 a s [(0,(Pd.rep (En.slice En.Smade_scantling_equiv_pair_search) l_)),(1,(Pi i7)),(5,(Pd.row (En.int .u8) s0.w.heap.size 5 og9 out8))]∧z6.l1 l_ (z6.j1 r_) k11 i7 out8) k10 ⟨i_,([]:(List Int)),none,L.kk,h⟩ ?_;rintro k11 a s ⟨i7,out8,og9,L,h⟩ KL12 hKL12;unfold z6.l1 at h;refine wp_seq_k fun K13 H13=>?_;obtain ⟨e14,h15,h⟩:=h;refine ra 6 (p1 h15) L fun a s L=>?_;refine cn L h (fun h=>?_) fun h=>?_
 ·refine wp_skip (H13 _ _ ?_);refine wp_seq_k fun K16 H16=>wp_block ?_;obtain ⟨e17,h18,h19,h⟩:=h;refine rg (sl 7 (p1 h18) L fun a s L=>?_);refine zb1 24 L op op Ud.h Tq.h h19 J J J J ka fun a s og20 hg_ L=>?_;refine sA 1 L fun a s L=>?_;refine en' (H16 _ _ ?_);obtain ⟨e21,h22,h⟩:=h;refine rg (sl 6 (p1 h22) L fun a s L=>?_);refine en' ?_;exact hKL12 a s ⟨e21.2.1,(out8++[e17.2.2]),og20,L.kk,h⟩
 ·refine wp_exit ?_;exact J4 out8 og9 a s (L.kk) h
theorem zfm {s_:SSpace_scantling_equiv_pair_search} {budget_:Int} {r_:SFound_scantling_equiv_pair_search} (h:ze s_ budget_ r_):Fn Tryz.prog 38 [(Pd.rep En.SSpace_scantling_equiv_pair_search s_),(Pi budget_)] (Rq (Pd.rep En.SFound_scantling_equiv_pair_search r_)):=by
 unfold ze at h;refine zbk Tryz.func38 J Tryz.ntmps38 (by rfl) (by simp) fun s0 a L=>?_;refine rs (sA 1 L fun a s L=>?_);refine z8 En.SFound_scantling_equiv_pair_search (z:=((0,[],[],0,0,0,0),([],[]))) 4 L tyz71 J J J J fun a s g1 hg_ L=>?_;refine es (rs ?_);refine sA 2 L fun a s L=>?_;refine sv (zbj (x:=(s_.1,(-1),0)) (ps:=[(0,.tmp 13),(1,.const (.int .i64 (-1))),(2,.const (.int .u8 0))]) tyz109 J stt109 (.cons (i:=0) op J (zu (zk _ _ _)) (.cons (i:=1) op J (zi (zu (zk _ _ _)) J) (.cons (i:=2) op J (zi (zi (zk _ _ _) J) J) .nil))) J J) L fun a s L=>?_;have lt_d3:=L.blt 4 rfl;refine zdy (xs:=[.tmp 14]) 15 L (.cons op .nil) Ud.h Tq.h J J (by decide) J J J J fun a s g2 hg_ L=>?_;have d3:=Dis.newg hg_ lt_d3;refine sA 1 L fun a s L=>?_;refine es ?_;obtain ⟨r7,h8,h⟩:=h;refine rs ?_;have lt_d6:=L.rlt 15 rfl;have lt_d5:=L.blt 4 rfl;refine zjs 16 En.str kvStr En.bool L J J J J fun a s g4 hg_ L=>?_;have d5:=Dis.newg hg_ lt_d5;have d6:=Dis.newg hg_ lt_d6;refine sA 4 L fun a s L=>?_;refine sv (zgc (q:=(s_.1,r7)) op h8 opz (fun _ _ _ h_=>h_) J J) L fun a s L=>?_;refine zg4 L op op o_b Ud.h (zem Ud.h) (.inr J) J J kw fun s L=>?_;refine sA 2 L fun a s L=>?_;refine es (wp_seq_k fun K9 H9=>?_);refine rA 1 L fun a s L=>?_;refine wp_block ?_;have J13:∀(v10:SFound_scantling_equiv_pair_search) (list11:(List Smade_scantling_equiv_pair_search)) (og12:Option Nat) (a:Act) (s:St),Has N0 87 s0 a s [(4,(Pd.box En.SFound_scantling_equiv_pair_search s0.w.heap.size g1 v10)),(5,(Pd.row En.Smade_scantling_equiv_pair_search s0.w.heap.size 109 og12 list11))]→Dis (some g1) og12→((ze.j1 r_) v10 list11)→K9 a s.w:=by
  intro v10 list11 og12 a s L d14 h;unfold ze.j1 at h;show K9 a s.w;refine H9 _ _ (rs ?_);refine sA 2 L fun a s L=>?_;refine sv (zbj (x:=(1,[],[],0,0,0,(list11.length:Int))) (ps:=[(0,.const (.int .i64 1)),(6,.tmp 84)]) zl9 J stt34 (.cons (i:=0) op J (zu (zk _ _ _)) (.cons (i:=6) op J (zi (zi (zi (zi (zi (zi (zk _ _ _) J) J) J) J) J) J) .nil)) J J) L fun a s L=>?_;refine sv (zbj (x:=((1,[],[],0,0,0,(list11.length:Int)),([],[]))) (ps:=[(0,.tmp 85)]) tyz71 J stt71 (.cons (i:=0) op J (zu (zk _ _ _)) .nil) J J) L fun a s L=>?_;refine sB 4 L fun s L=>?_;refine es ?_;subst h;exact wp_ret (zqw J ty71 L J)
 obtain ⟨k21,h⟩:=h;refine lpn (fun k22 a s=>∃(v15:SFound_scantling_equiv_pair_search) (list16:(List Smade_scantling_equiv_pair_search)) (seen18:(List (Str × Bool))) (i20:Int) (og17:Option Nat) (og19:Option Nat),Has N0 87 s0 a s [(1,(Pi budget_)),(2,(Pd.ptr En.SSpace_scantling_equiv_pair_search s_)),(4,(Pd.box En.SFound_scantling_equiv_pair_search s0.w.heap.size g1 v15)),(5,(Pd.row En.Smade_scantling_equiv_pair_search s0.w.heap.size 109 og17 list16)),(6,(Pd.map En.str kvStr En.bool s0.w.heap.size og19 seen18)),(7,(Pi i20))]∧Dis (some g1) og17∧Dis (some g1) og19∧Dis og17 og19∧ze.l1 s_ budget_ r_ (ze.j1 r_) k22 v15 list16 seen18 i20) k21 ⟨((0,[],[],0,0,0,0),([],[])),[(s_.1,(-1),0)],(zf5 ([]:(List (Str × Bool))) r7 true),0,(some g2),(some g4),L.kk,(Dis.symm d3),(Dis.symm d5),(Dis.symm d6),h⟩ ?_;rintro k22 a s ⟨v15,list16,seen18,i20,og17,og19,L,d24,d25,d26,h⟩ KL23 hKL23;unfold ze.l1 at h;refine wp_seq_k fun K27 H27=>rA 4 L fun a s L=>?_;refine cn L h (fun h=>?_) fun h=>?_
 ·refine wp_skip (H27 _ _ ?_);refine wp_seq_k fun K28 H28=>wp_block (wp_seq_k fun K29 H29=>?_);refine rA 3 L fun a s L=>?_;refine cn L h (fun h=>?_) fun h=>?_
  ·refine rs ?_;refine sA 2 L fun a s L=>?_;refine sv (zbj (x:=(3,[],[],0,0,0,(max budget_ 0))) (ps:=[(0,.const (.int .i64 3)),(6,.tmp 33)]) zl9 J stt34 (.cons (i:=0) op J (zu (zk _ _ _)) (.cons (i:=6) op J (zi (zi (zi (zi (zi (zi (zk _ _ _) J) J) J) J) J) J) .nil)) J J) L fun a s L=>?_;refine sv (zbj (x:=((3,[],[],0,0,0,(max budget_ 0)),([],[]))) (ps:=[(0,.tmp 34)]) tyz71 J stt71 (.cons (i:=0) op J (zu (zk _ _ _)) .nil) J J) L fun a s L=>?_;refine sB 4 L fun s L=>?_;refine es ?_;subst h;exact wp_ret (zqw J ty71 L J)
  ·refine wp_skip (H29 _ _ ?_);obtain ⟨e30,h31,h⟩:=h;refine rs (sl 5 (p1 h31) L fun a s L=>?_);have lt_d35:=L.mlt 6 rfl;have lt_d34:=L.rlt 5 rfl;have lt_d33:=L.blt 4 rfl;refine z8 En.Spair_equiv (z:=([],[])) 8 L tyz63 J J J J fun a s g32 hg_ L=>?_;have d33:=Dis.newg hg_ lt_d33;have d34:=Dis.newg hg_ lt_d34;have d35:=Dis.newg hg_ lt_d35;refine sB 8 L fun s L=>?_;refine es (wp_seq_k fun K36 H36=>?_);obtain ⟨r37,h38,h⟩:=h;refine rs (sA 3 L fun a s L=>?_);refine sv (zgc (q:=(e30.1,r37)) op h38 opz (fun _ _ _ h_=>h_) J J) L fun a s L=>?_;refine es (cn L h (fun h=>?_) fun h=>?_)
   ·refine fzc 5 L fun s L=>?_;obtain ⟨r39,h40,h41,h⟩:=h;refine wp_seq (rda zc3 8 [(Pd.rep (En.slice En.Smade_scantling_equiv_pair_search) list16),(Pi i20),(Pd.rep (En.slice (En.int .u8)) r39),(Pi i20),(Pi (i20+1)),(Pd.rep En.SVerdict (2,r39,[],0,0,0,i20+1)),(Pd.rep En.Spair_equiv e30.1),(Pd.rep En.SFound_scantling_equiv_pair_search ((2,r39,[],0,0,0,i20+1),e30.1))] L (by kernel_rfl) J J ?_ ?_)
    ·refine zbe.cons (zq (O 5 J) J J) ?_;refine zbe.cons (zq (O 7 J) J J) ?_;refine zbe.cons (ze3 ((zhd h40).frz) (xs:=[.tmp 45,.tmp 46]) (.cons (O 45 J) (.cons (O 46 J) .nil)) J J) ?_;refine zbe.cons (zq (O 7 J) J J) ?_;refine zbe.cons (t_add (O 48 J) oI h41 J J) ?_;refine zbe.cons (zbj (x:=(2,r39,[],0,0,0,i20+1)) (ps:=[(0,.const (.int .i64 2)),(1,.tmp 47),(6,.tmp 49)]) zl9 J stt34 (.cons (i:=0) oI J (zu (zk _ _ _)) (.cons (i:=1) (O 47 J) J (zi (zu (zk _ _ _)) J) (.cons (i:=6) (O 49 J) J (zi (zi (zi (zi (zi (zi (zk _ _ _) J) J) J) J) J) J) .nil))) J J) ?_;refine zbe.cons (zqk ty63 (O 8 J) J J) ?_;refine zbe.cons (zbj (x:=((2,r39,[],0,0,0,i20+1),e30.1)) (ps:=[(0,.tmp 50),(1,.tmp 51)]) tyz71 J stt71 (.cons (i:=0) (O 50 J) J (zu (zk _ _ _)) (.cons (i:=1) (O 51 J) J (zi (zk _ _ _) J) .nil)) J J) ?_;exact zbe.nil
    intro a s _ L;replace L:=L.kk (L':=[(4,(Pd.box En.SFound_scantling_equiv_pair_search s0.w.heap.size g1 v15)),(52,(Pd.rep En.SFound_scantling_equiv_pair_search ((2,r39,[],0,0,0,i20+1),e30.1)))]);refine dp ?_;refine sB 4 L fun s L=>?_;refine es ?_;subst h;exact wp_ret (zqw J ty71 L J)
   ·refine wp_skip (H36 _ _ ?_);obtain ⟨r42,h43,h⟩:=h;refine rs (sA 3 L fun a s L=>?_);refine sv (zgc (q:=(e30.1,r42)) op h43 opz (fun _ _ _ h_=>h_) J J) L fun a s L=>?_;refine sA 2 L fun a s L=>?_;refine es (wp_block ?_);have J48:∀(list44:(List Smade_scantling_equiv_pair_search)) (seen46:(List (Str × Bool))) (og45:Option Nat) (og47:Option Nat) (a:Act) (s:St),Has N0 87 s0 a s [(1,(Pi budget_)),(2,(Pd.ptr En.SSpace_scantling_equiv_pair_search s_)),(4,(Pd.box En.SFound_scantling_equiv_pair_search s0.w.heap.size g1 v15)),(5,(Pd.row En.Smade_scantling_equiv_pair_search s0.w.heap.size 109 og45 list44)),(6,(Pd.map En.str kvStr En.bool s0.w.heap.size og47 seen46)),(7,(Pi i20))]→Dis (some g1) og45→Dis (some g1) og47→Dis og45 og47→((ze.j2 (ze.l1 s_ budget_ r_ (ze.j1 r_) k22) v15 i20) list44 seen46)→K28 a s.w:=by
     intro list44 seen46 og45 og47 a s L d49 d50 d51 h;unfold ze.j2 at h;show K28 a s.w;refine H28 _ _ ?_;obtain ⟨h52,h⟩:=h;refine rg (sA 3 L fun a s L=>?_);refine en' ?_;exact hKL23 a s ⟨v15,list44,seen46,(i20+1),og45,og47,L.kk,d49,d50,d51,h⟩
    obtain ⟨k58,h⟩:=h;refine lpn (fun k59 a s=>∃(list53:(List Smade_scantling_equiv_pair_search)) (seen55:(List (Str × Bool))) (v57:Int) (og54:Option Nat) (og56:Option Nat),Has N0 87 s0 a s [(1,(Pi budget_)),(2,(Pd.ptr En.SSpace_scantling_equiv_pair_search s_)),(4,(Pd.box En.SFound_scantling_equiv_pair_search s0.w.heap.size g1 v15)),(5,(Pd.row En.Smade_scantling_equiv_pair_search s0.w.heap.size 109 og54 list53)),(6,(Pd.map En.str kvStr En.bool s0.w.heap.size og56 seen55)),(7,(Pi i20)),(56,(Pd.rep (En.slice En.SOn_scantling_equiv_pair_search) r42)),(57,(Pi (r42.length:Int))),(58,(Pi v57))]∧Dis (some g1) og54∧Dis (some g1) og56∧Dis og54 og56∧ze.l2 s_ i20 r42 (ze.j2 (ze.l1 s_ budget_ r_ (ze.j1 r_) k22) v15 i20) k59 list53 seen55 v57) k58 ⟨list16,seen18,0,og17,og19,L.kk,d24,d25,d26,h⟩ ?_;rintro k59 a s ⟨list53,seen55,v57,og54,og56,L,d61,d62,d63,h⟩ KL60 hKL60;unfold ze.l2 at h;refine rA 1 L fun a s L=>?_;refine wp_seq_k fun K64 H64=>cn L h (fun h=>?_) fun h=>?_
    ·refine wp_skip (H64 _ _ ?_);refine wp_seq_k fun K65 H65=>wp_block ?_;obtain ⟨e66,h67,h⟩:=h;refine rs (sl 2 (p1 h67) L fun a s L=>?_);have lt_d71:=L.mlt 6 rfl;have lt_d70:=L.rlt 5 rfl;have lt_d69:=L.blt 4 rfl;refine z8 En.SOn_scantling_equiv_pair_search (z:=(0,([],[]))) 10 L tyz66 J J J J fun a s g68 hg_ L=>?_;have d69:=Dis.newg hg_ lt_d69;have d70:=Dis.newg hg_ lt_d70;have d71:=Dis.newg hg_ lt_d71;refine sB 10 L fun s L=>?_;refine es ?_;obtain ⟨r72,h73,h⟩:=h;refine rs (sA 4 L fun a s L=>?_);refine sv (zgc (q:=(e66.2,r72)) op h73 opz (fun _ _ _ h_=>h_) J J) L fun a s L=>?_;refine sA 1 L fun a s L=>?_;refine es (rs ?_);refine sA 2 L fun a s L=>?_;refine sv (zpr op op Ud.h (zem Ud.h) tyv4 J J) L fun a s L=>?_;refine sA 1 L fun a s L=>?_;refine es (cn L h (fun h=>?_) fun h=>?_)
     ·refine rs ?_;refine sA 2 L fun a s L=>?_;refine zg4 L op op o_b Ud.h (zem Ud.h) (.inl J) J J kw fun s L=>?_;refine es ?_;obtain ⟨h74,h⟩:=h;refine rg (sA 6 L fun a s L=>?_);refine sv (zbj (x:=(e66.2,i20,e66.1)) (ps:=[(0,.tmp 75),(1,.tmp 76),(2,.tmp 78)]) tyz109 J stt109 (.cons (i:=0) op J (zu (zk _ _ _)) (.cons (i:=1) op J (zi (zu (zk _ _ _)) J) (.cons (i:=2) op J (zi (zi (zk _ _ _) J) J) .nil))) J J) L fun a s L=>?_;refine sA 1 L fun a s L=>?_;have lt_og75_0:=L.blt 4 rfl;have lt_og75_1:=L.mlt 6 rfl;refine zb1 81 L op op Ud.h Tq.h h74 J J J J ka fun a s og75 hg_ L=>?_;have d76:=Dis.app hg_ (Dis.symm d61) lt_og75_0;have d77:=Dis.app hg_ d63 lt_og75_1;refine sA 1 L fun a s L=>?_;refine en' (H65 _ _ ?_);obtain ⟨h78,h⟩:=h;refine rg (sA 2 L fun a s L=>?_);refine en' ?_;exact hKL60 a s ⟨(list53++[(e66.2,i20,e66.1)]),(zf5 seen55 r72 true),(v57+1),og75,og56,L.kk,(Dis.symm d76),d62,d77,h⟩
     ·refine wp_skip (H65 _ _ ?_);obtain ⟨h79,h⟩:=h;refine rg (sA 2 L fun a s L=>?_);refine en' ?_;exact hKL60 a s ⟨list53,seen55,(v57+1),og54,og56,L.kk,d61,d62,d63,h⟩
    ·refine wp_exit ?_;exact J48 list53 seen55 og54 og56 a s (L.kk) d61 d62 d63 h
 ·refine wp_exit ?_;exact J13 v15 list16 og17 a s (L.kk) d24 h
theorem zqz {a_:SVerdict} {b_:SVerdict} {r_:Bool} (h:zhy a_ b_ r_):Fn Tryz.prog 12 [(Pd.rep En.SVerdict a_),(Pd.rep En.SVerdict b_)] (Rq (Pd.rep En.bool r_)):=by
 unfold zhy at h;refine zbk Tryz.func12 J Tryz.ntmps12 (by rfl) (by simp) fun s0 a L=>?_;refine rA 3 L fun a s L=>?_;obtain ⟨r1,h2,r3,h4,b5,h6,b7,h8,h⟩:=h;refine ra 48 (pp (fun hc_=>(zex (h2 hc_))) (pp (fun hc_=>(zex (h4 hc_))) (pp h6 (p1 h8)))) L fun a s L=>?_;subst h;exact wp_ret (zdp J L J)
def ze2 (d_:SDesc) (ev_:SDesc) (a_:(List (List SItem))) (b_:(List (List SItem))) (r_:(List Int)):Prop:=∃r1:(List Cl),zb3 d_ a_ r1∧∃r3:(List Cl),zb3 ev_ b_ r3∧∃r5:(List Cl),zh [r1,r3] r5∧∃r7:(List Cl),zdb r5 r7∧∃r9:(List Int),zcn r7 r9∧r_=r9
def zbl.j1 (r_:(List SOn_scantling_equiv_pair_search)) (out4:(List SOn_scantling_equiv_pair_search)):Prop:=r_=out4
def zbl.l1 (p_:Spair_equiv) (cap0_:SDesc) (cap1_:SDesc) (r2:(List Int)) (X1:(List SOn_scantling_equiv_pair_search)→Prop):Nat→(List SOn_scantling_equiv_pair_search)→Int→Prop
 | 0,_,_=>False
 | k_0+1,out7,v9=>((decide (v9<(r2.length:Int)))=true→∃e15:Int,at? r2 v9=some e15∧∃r17:(List (List SItem)),zco cap0_ p_.1 e15 r17∧∃r19:(List (List SItem)),zco cap1_ p_.2 e15 r19∧(out7.length+[(e15,(r17,r19))].length≤2147483648)∧(InR .i64 (v9+1))∧zbl.l1 p_ cap0_ cap1_ r2 X1 k_0 (out7++[(e15,(r17,r19))]) (v9+1))∧((decide (v9<(r2.length:Int)))=false→X1 out7)
def zbl (p_:Spair_equiv) (cap0_:SDesc) (cap1_:SDesc) (r_:(List SOn_scantling_equiv_pair_search)):Prop:=∃r2:(List Int),ze2 cap0_ cap1_ p_.1 p_.2 r2∧∃k10,zbl.l1 p_ cap0_ cap1_ r2 (zbl.j1 r_) k10 ([]:(List SOn_scantling_equiv_pair_search)) 0
def zds (p_:Spair_equiv) (cap0_:SDesc) (cap1_:SDesc) (r_:Bool):Prop:=∃r1:Bool,zhw cap0_ p_.1 r1∧∃r3:Bool,zhw cap1_ p_.2 r3∧r_=(r1 != r3)
def zfg (p_:Spair_equiv) (r_:Str):Prop:=∃r1:Str,zna p_.1 r1∧(r1.length+([124]:Str).length≤9223372036854775807)∧∃r4:Str,zna p_.2 r4∧((r1++([124]:Str)).length+r4.length≤9223372036854775807)∧r_=(r1++([124]:Str))++r4
def zcu (d_:SDesc) (ev_:SDesc) (budget_:Int) (r_:SVerdict):Prop:=∃r4:(List (List SItem)),zhv d_ r4∧∃r6:(List (List SItem)),zhv ev_ r6∧∃r8:SFound_scantling_equiv_pair_search,ze ((r4,r6),(fun q_=>zfg q_.1 q_.2),(fun q_=>zbl q_.1 d_ ev_ q_.2),(fun q_=>zds q_.1 d_ ev_ q_.2)) budget_ r8∧(((r8.1.1 != 2))=true→r_=r8.1)∧(((r8.1.1 != 2))=false→∃r17:Bool,zhw d_ r8.2.1 r17∧((r17)=true→r_=(r8.1.1,r8.1.2.1,r8.1.2.2.1,r8.1.2.2.2.1,1,r8.1.2.2.2.2.2.1,r8.1.2.2.2.2.2.2))∧((r17)=false→r_=(r8.1.1,r8.1.2.1,r8.1.2.2.1,r8.1.2.2.2.1,2,r8.1.2.2.2.2.2.1,r8.1.2.2.2.2.2.2)))
def zgv  (r_:Bool):Prop:=∃r1:Cl,zc6 0 255 r1∧∃r4:SDesc,zjw 4 [(2,0,0,0,0,r1,([]:Str))] [(2,0,0,0,0,r1,([]:Str))] r4∧∃r8:SDesc,zhz 6 0 0 [(2,0,0,0,0,r1,([]:Str))] r8∧∃r13:SDesc,zhz 6 0 0 r4 r13∧∃r19:SVerdict,zcu r8 r13 9 r19∧∃r26:SVerdict,zcu r13 r8 9 r26∧∃r34:SVerdict,zcu r8 r8 9 r34∧∃r43:Bool,((((r19.1==2))=true)→zbz r19.2.1 [0] r43)∧∃b45:Bool,b45=((((r19.1==2)&&r43)&&(r19.2.2.2.2.1==1))&&(r26.2.2.2.2.1==2))∧∃b47:Bool,b47=(((b45&&(r26.1==2))&&(r34.1==1))&&(r34.2.2.2.2.2.2==1))∧∃r49:SVerdict,(((b47)=true)→zcu r8 r13 1 r49)∧∃r51:SVerdict,((((b47&&(r49.1==3)))=true)→zcu r8 r13 (-1) r51)∧∃r53:(List Int),(((((b47&&(r49.1==3))&&(r51.2.2.2.2.2.2==0)))=true)→ze2 [(2,0,0,0,0,r1,([]:Str))] r4 [[(1,0,0,0)]] ([]:(List (List SItem))) r53)∧∃r55:Bool,(((((b47&&(r49.1==3))&&(r51.2.2.2.2.2.2==0)))=true)→zbz r53 [0] r55)∧∃b57:Bool,b57=(((b47&&(r49.1==3))&&(r51.2.2.2.2.2.2==0))&&r55)∧r_=b57
def zgu (d_:SDesc) (r_:Bool):Prop:=∃r1:Bool,zdc d_ r1∧∃r3:Int,((((r1&&(decide ((d_.length:Int)≤16))))=true)→zm d_ r3)∧∃b5:Bool,b5=((r1&&(decide ((d_.length:Int)≤16)))&&(decide (r3≤60)))∧∃r7:Bool,(((b5)=true)→zgs d_ r7)∧r_=(b5&&r7)
def zgr (d_:SDesc) (ev_:SDesc) (a_:(List (List SItem))) (b_:(List (List SItem))) (r_:(List Int)):Prop:=∃r2:(List Cl),zbu d_ a_ r2∧∃r4:(List Cl),zbu ev_ b_ r4∧((r2.length+r4.length)*32≤140737488355328)∧∃r9:(List Cl),zbf (r2++r4) r9∧∃r11:(List Int),zbc r9 r11∧r_=r11
def zt.j1 (r_:(List SThing_ref19)) (out7:(List SThing_ref19)):Prop:=r_=out7
def zt.j2 (L1_:(List SThing_ref19)→Int→Prop) (i12:Int) (out26:(List SThing_ref19)):Prop:=(InR .i64 (i12+1))∧L1_ out26 (i12+1)
def zt.j3 (L2_:(List SThing_ref19)→Int→Prop) (i12:Int) (r24:(List Int)) (out30:(List SThing_ref19)) (k32:Int) (r42:(List (List SItem))) (r48:(List (List SItem))) (there51:Bool):Prop:=(((!there51))=true→∃e55:SThing_ref19,at? out30 i12=some e55∧(e55.2.2.length≤2147483648)∧∃e58:Int,at? r24 k32=some e58∧(e55.2.2.length+[e58].length≤2147483648)∧(out30.length+[(r42,r48,e55.2.2++[e58])].length≤2147483648)∧(InR .i64 (k32+1))∧L2_ (out30++[(r42,r48,e55.2.2++[e58])]) (k32+1))∧(((!there51))=false→(InR .i64 (k32+1))∧L2_ out30 (k32+1))
def zt.l3 (out30:(List SThing_ref19)) (r42:(List (List SItem))) (r48:(List (List SItem))) (X3:Bool→Prop):Nat→Bool→Int→Prop
 | 0,_,_=>False
 | k_0+1,there67,m68=>∃b73:Bool,b73=((decide (m68<(out30.length:Int)))&&(!there67))∧((b73)=true→∃e76:SThing_ref19,at? out30 m68=some e76∧∃r78:Bool,zcv e76.1 r42 r78∧∃e80:SThing_ref19,(((r78)=true)→at? out30 m68=some e80)∧∃r82:Bool,(((r78)=true)→zcv e80.2.1 r48 r82)∧(InR .i64 (m68+1))∧zt.l3 out30 r42 r48 X3 k_0 (r78&&r82) (m68+1))∧((b73)=false→X3 there67)
def zt.l2 (d_:SDesc) (ev_:SDesc) (i12:Int) (r24:(List Int)) (X2:(List SThing_ref19)→Prop):Nat→(List SThing_ref19)→Int→Prop
 | 0,_,_=>False
 | k_0+1,out30,k32=>((decide (k32<(r24.length:Int)))=true→∃e38:SThing_ref19,at? out30 i12=some e38∧∃e40:Int,at? r24 k32=some e40∧∃r42:(List (List SItem)),zbi d_ e38.1 e40 r42∧∃e44:SThing_ref19,at? out30 i12=some e44∧∃e46:Int,at? r24 k32=some e46∧∃r48:(List (List SItem)),zbi ev_ e44.2.1 e46 r48∧∃k69,zt.l3 out30 r42 r48 (zt.j3 (zt.l2 d_ ev_ i12 r24 X2 k_0) i12 r24 out30 k32 r42 r48) k69 false 0)∧((decide (k32<(r24.length:Int)))=false→X2 out30)
def zt.l1 (d_:SDesc) (ev_:SDesc) (most_:Int) (X1:(List SThing_ref19)→Prop):Nat→(List SThing_ref19)→Int→Prop
 | 0,_,_=>False
 | k_0+1,out10,i12=>∃b17:Bool,b17=((decide (i12<(out10.length:Int)))&&(decide ((out10.length:Int)≤most_)))∧((b17)=true→∃e20:SThing_ref19,at? out10 i12=some e20∧∃e22:SThing_ref19,at? out10 i12=some e22∧∃r24:(List Int),zgr d_ ev_ e20.1 e22.2.1 r24∧∃k33,zt.l2 d_ ev_ i12 r24 (zt.j2 (zt.l1 d_ ev_ most_ X1 k_0) i12) k33 out10 0)∧((b17)=false→X1 out10)
def zt (d_:SDesc) (ev_:SDesc) (most_:Int) (r_:(List SThing_ref19)):Prop:=∃r1:(List (List SItem)),zfn d_ r1∧∃r3:(List (List SItem)),zfn ev_ r3∧∃k13,zt.l1 d_ ev_ most_ (zt.j1 r_) k13 [(r1,r3,[])] 0
def zb5.j1 (budget_:Int) (r_:SVerdict) (r2:(List SThing_ref19)) (v5:SVerdict):Prop:=((decide ((r2.length:Int)≤(max 0 budget_)))=true→r_=(1,[],[],0,0,0,(r2.length:Int)))∧((decide ((r2.length:Int)≤(max 0 budget_)))=false→r_=(3,[],[],0,0,0,(max 0 budget_)))
def zb5.l1 (d_:SDesc) (ev_:SDesc) (budget_:Int) (r2:(List SThing_ref19)) (r_:SVerdict) (X1:SVerdict→Prop):Nat→SVerdict→Int→Prop
 | 0,_,_=>False
 | k_0+1,v8,i9=>∃b14:Bool,b14=((decide (i9<(r2.length:Int)))&&(decide (i9<(max 0 budget_))))∧((b14)=true→∃e17:SThing_ref19,at? r2 i9=some e17∧∃r19:Bool,zck d_ e17.1 r19∧∃e21:SThing_ref19,at? r2 i9=some e21∧∃r23:Bool,zck ev_ e21.2.1 r23∧(((r19&&(!r23)))=true→∃e26:SThing_ref19,at? r2 i9=some e26∧(InR .i64 (i9+1))∧r_=(2,e26.2.2,[],0,1,0,i9+1))∧(((r19&&(!r23)))=false→(((r23&&(!r19)))=true→∃e29:SThing_ref19,at? r2 i9=some e29∧(InR .i64 (i9+1))∧r_=(2,e29.2.2,[],0,2,0,i9+1))∧(((r23&&(!r19)))=false→(InR .i64 (i9+1))∧zb5.l1 d_ ev_ budget_ r2 r_ X1 k_0 v8 (i9+1))))∧((b14)=false→X1 v8)
def zb5 (d_:SDesc) (ev_:SDesc) (budget_:Int) (r_:SVerdict):Prop:=∃r2:(List SThing_ref19),zt d_ ev_ (max 0 budget_) r2∧∃k10,zb5.l1 d_ ev_ budget_ r2 r_ (zb5.j1 budget_ r_ r2) k10 (0,[],[],0,0,0,0) 0
def zfr (d_:SDesc) (ev_:SDesc) (budget_:Int) (a_:(List Int)) (b_:(List Int)) (r_:Bool):Prop:=∃r2:Bool,zgv  r2∧∃r4:Bool,((((!r2))=false)→zgu d_ r4)∧∃r6:Bool,(((((!r2)||(!r4)))=false)→zgu ev_ r6)∧∃b8:Bool,b8=((((!r2)||(!r4))||(!r6))||(decide (30<budget_)))∧∃b10:Bool,b10=((b8||(decide (8<(a_.length:Int))))||(decide (8<(b_.length:Int))))∧∃r12:Bool,(((b10)=false)→zgt d_ ev_ budget_ r12)∧(((b10||(!r12)))=true→∃r14:Bool,zgv  r14∧r_=r14)∧(((b10||(!r12)))=false→∃r16:(List (List SItem)),zcf d_ a_ r16∧∃r18:(List (List SItem)),zcf ev_ b_ r18∧∃r20:SVerdict,zcu d_ ev_ budget_ r20∧∃r22:SVerdict,zb5 d_ ev_ budget_ r22∧∃r24:Bool,zhy r20 r22 r24∧∃r26:(List Int),(((r24)=true)→ze2 d_ ev_ r16 r18 r26)∧∃r28:(List Int),(((r24)=true)→zgr d_ ev_ r16 r18 r28)∧∃r30:Bool,(((r24)=true)→zbz r26 r28 r30)∧r_=(r24&&r30))
set_option maxRecDepth 100000
set_option maxHeartbeats 2000000
set_option synthInstance.maxSize 100000
set_option synthInstance.maxHeartbeats 200000
theorem zho {d_:SDesc} {ev_:SDesc} {a_:(List (List SItem))} {b_:(List (List SItem))} {r_:(List Int)} (h:ze2 d_ ev_ a_ b_ r_):Fn Tryz.prog 16 [(Pd.rep En.SDesc d_),(Pd.rep En.SDesc ev_),(Pd.rep (En.slice (En.slice En.SItem)) a_),(Pd.rep (En.slice (En.slice En.SItem)) b_)] (Ro (En.int .u8) 5 r_):=by
 unfold ze2 at h;refine zbk Tryz.func16 J Tryz.ntmps16 (by rfl) (by simp) fun s0 a L=>?_;refine rs (sA 2 L fun a s L=>?_);refine sno (En.int .u8) 5 L fun a s L=>?_;refine es ?_;obtain ⟨r1,h2,r3,h4,r5,h6,r7,h8,r9,h10,h⟩:=h;refine wp_seq (rdx 9 (pp ((zi5 h2).frz) (pp ((zi5 h4).frz) (pp ((zew h6).frz) (p1 ((sets_Once_ok h8).frz))))) L fun a s L=>?_);refine zen 18 L (zo2 h10) opz J J J J fun a s og11 hg_ L=>?_;refine sA 1 L fun a s L=>?_;refine es ?_;subst h;exact wp_ret (zfj J L J)
theorem zm6 {p_:Spair_equiv} {cap0_:SDesc} {cap1_:SDesc} {r_:(List SOn_scantling_equiv_pair_search)} (h:zbl p_ cap0_ cap1_ r_):Fn Tryz.prog 32 [(Pd.rep En.Spair_equiv p_),(Pd.ptr En.SDesc cap0_),(Pd.ptr En.SDesc cap1_)] (Ro En.SOn_scantling_equiv_pair_search 66 r_):=by
 unfold zbl at h;refine zbk Tryz.func32 J Tryz.ntmps32 (by rfl) (by simp) fun s0 a L=>?_;refine rs (sA 1 L fun a s L=>?_);refine sno En.SOn_scantling_equiv_pair_search 66 L fun a s L=>?_;refine es (rs ?_);refine sno En.SOn_scantling_equiv_pair_search 66 L fun a s L=>?_;refine es (wp_seq_k fun K1 H1=>?_);obtain ⟨r2,h3,h⟩:=h;refine ra 9 (p1 ((zho h3).frz)) L fun a s L=>?_;refine wp_block ?_;have J6:∀(out4:(List SOn_scantling_equiv_pair_search)) (og5:Option Nat) (a:Act) (s:St),Has N0 38 s0 a s [(5,(Pd.row En.SOn_scantling_equiv_pair_search s0.w.heap.size 66 og5 out4))]→((zbl.j1 r_) out4)→K1 a s.w:=by
  intro out4 og5 a s L h;unfold zbl.j1 at h;show K1 a s.w;refine H1 _ _ (rA 2 L fun a s L=>?_);subst h;exact wp_ret (zfj J L J)
 obtain ⟨k10,h⟩:=h;refine lpn (fun k11 a s=>∃(out7:(List SOn_scantling_equiv_pair_search)) (v9:Int) (og8:Option Nat),Has N0 38 s0 a s [(1,(Pd.ptr En.SDesc cap0_)),(2,(Pd.ptr En.SDesc cap1_)),(3,(Pd.ptr En.Spair_equiv p_)),(5,(Pd.row En.SOn_scantling_equiv_pair_search s0.w.heap.size 66 og8 out7)),(14,(Pd.rep (En.slice (En.int .u8)) r2)),(15,(Pi (r2.length:Int))),(16,(Pi v9))]∧zbl.l1 p_ cap0_ cap1_ r2 (zbl.j1 r_) k11 out7 v9) k10 ⟨([]:(List SOn_scantling_equiv_pair_search)),0,none,L.kk,h⟩ ?_;rintro k11 a s ⟨out7,v9,og8,L,h⟩ KL12 hKL12;unfold zbl.l1 at h;refine rA 1 L fun a s L=>?_;refine wp_seq_k fun K13 H13=>cn L h (fun h=>?_) fun h=>?_
 ·refine wp_skip (H13 _ _ ?_);refine wp_seq_k fun K14 H14=>wp_block ?_;obtain ⟨e15,h16,h⟩:=h;refine ra 3 (p1 h16) L fun a s L=>?_;obtain ⟨r17,h18,r19,h20,h21,h⟩:=h;refine rda zc3 15 [(Pd.row En.SOn_scantling_equiv_pair_search s0.w.heap.size 66 og8 out7),(Pd.rep (En.int .u8) e15),(Pd.rep En.SDesc cap0_),(Pd.ptr (En.slice (En.slice En.SItem)) p_.1),(Pd.rep (En.slice (En.slice En.SItem)) p_.1),(Pd.rep (En.int .u8) e15),(Pd.rep (En.slice (En.slice En.SItem)) r17),(Pd.rep En.SDesc cap1_),(Pd.ptr (En.slice (En.slice En.SItem)) p_.2),(Pd.rep (En.slice (En.slice En.SItem)) p_.2),(Pd.rep (En.int .u8) e15),(Pd.rep (En.slice (En.slice En.SItem)) r19),(Pd.rep En.Spair_equiv (r17,r19)),(Pd.rep En.SOn_scantling_equiv_pair_search (e15,(r17,r19))),(Pd.rep (En.slice En.SOn_scantling_equiv_pair_search) [(e15,(r17,r19))])] L (by kernel_rfl) J J ?_ ?_
  ·refine zbe.cons (zq (O 5 J) J J) ?_;refine zbe.cons (zq (O 7 J) J J) ?_;refine zbe.cons (zcj ty24 (O 1 J) J J) ?_;refine zbe.cons (zl4 (off:=0) (O 3 J) U63 J (zbr (z7 _ _)) J ty29 J J) ?_;refine zbe.cons (zcj ty29 (O 23 J) J J) ?_;refine zbe.cons (zq (O 7 J) J J) ?_;refine zbe.cons (ze3 ((zpw h18).frz) (xs:=[.tmp 22,.tmp 24,.tmp 25]) (.cons (O 22 J) (.cons (O 24 J) (.cons (O 25 J) .nil))) J J) ?_;refine zbe.cons (zcj ty24 (O 2 J) J J) ?_;refine zbe.cons (zl4 (off:=1) (O 3 J) U63 J (zw (z7 _ _) J) J ty29 J J) ?_;refine zbe.cons (zcj ty29 (O 28 J) J J) ?_;refine zbe.cons (zq (O 7 J) J J) ?_;refine zbe.cons (ze3 ((zpw h20).frz) (xs:=[.tmp 27,.tmp 29,.tmp 30]) (.cons (O 27 J) (.cons (O 29 J) (.cons (O 30 J) .nil))) J J) ?_;refine zbe.cons (zbj (x:=(r17,r19)) (ps:=[(0,.tmp 26),(1,.tmp 31)]) tyz63 J stt63 (.cons (i:=0) (O 26 J) J (zu (zk _ _ _)) (.cons (i:=1) (O 31 J) J (zi (zk _ _ _) J) .nil)) J J) ?_;refine zbe.cons (zbj (x:=(e15,(r17,r19))) (ps:=[(0,.tmp 21),(1,.tmp 32)]) tyz66 J stt66 (.cons (i:=0) (O 21 J) J (zu (zk _ _ _)) (.cons (i:=1) (O 32 J) J (zi (zk _ _ _) J) .nil)) J J) ?_;refine zbe.cons (t_lit (xs:=[.tmp 33]) (.cons (O 33 J) .nil) U64 ty66 J J (by decide) J J) ?_;exact zbe.nil
  intro a s _ L;replace L:=L.kk (L':=[(1,(Pd.ptr En.SDesc cap0_)),(2,(Pd.ptr En.SDesc cap1_)),(3,(Pd.ptr En.Spair_equiv p_)),(5,(Pd.row En.SOn_scantling_equiv_pair_search s0.w.heap.size 66 og8 out7)),(14,(Pd.rep (En.slice (En.int .u8)) r2)),(15,(Pi (r2.length:Int))),(16,(Pi v9)),(20,(Pd.row En.SOn_scantling_equiv_pair_search s0.w.heap.size 66 og8 out7)),(34,(Pd.rep (En.slice En.SOn_scantling_equiv_pair_search) [(e15,(r17,r19))]))]);refine dp ?_;refine zb1 35 L op op Ud.h Tq.h h21 J J J J ka fun a s og22 hg_ L=>?_;refine sA 1 L fun a s L=>?_;refine en' (H14 _ _ ?_);obtain ⟨h23,h⟩:=h;refine rg (sA 2 L fun a s L=>?_);refine en' ?_;exact hKL12 a s ⟨(out7++[(e15,(r17,r19))]),(v9+1),og22,L.kk,h⟩
 ·refine wp_exit ?_;exact J6 out7 og8 a s (L.kk) h
theorem zm5 {p_:Spair_equiv} {cap0_:SDesc} {cap1_:SDesc} {r_:Bool} (h:zds p_ cap0_ cap1_ r_):Fn Tryz.prog 34 [(Pd.rep En.Spair_equiv p_),(Pd.ptr En.SDesc cap0_),(Pd.ptr En.SDesc cap1_)] (Rq (Pd.rep En.bool r_)):=by
 unfold zds at h;refine zbk Tryz.func34 J Tryz.ntmps34 (by rfl) (by simp) fun s0 a L=>?_;refine rA 2 L fun a s L=>?_;obtain ⟨r1,h2,r3,h4,h⟩:=h;refine wp_seq (rdx 9 (pp (zi3 h2) (p1 (zi3 h4))) L fun a s L=>?_);refine sA 1 L fun a s L=>?_;refine es ?_;subst h;exact wp_ret (zdp J L J)
theorem equiv_key_ok {p_:Spair_equiv} {r_:Str} (h:zfg p_ r_):Fn Tryz.prog 37 [(Pd.rep En.Spair_equiv p_)] (Rq (Pd.rep En.str r_)):=by
 unfold zfg at h;refine zbk Tryz.func37 J Tryz.ntmps37 (by rfl) (by simp) fun s0 a L=>?_;refine rs (sA 1 L fun a s L=>?_);refine sv (zbn (o_s (by decide)) J J) L fun a s L=>?_;refine es ?_;obtain ⟨r1,h2,h3,r4,h5,h6,h⟩:=h;refine wp_seq (rda zc3 8 [(Pd.ptr (En.slice (En.slice En.SItem)) p_.1),(Pd.rep (En.slice (En.slice En.SItem)) p_.1),(Pd.rep En.str r1),(Pd.rep En.str (r1++([124]:Str))),(Pd.ptr (En.slice (En.slice En.SItem)) p_.2),(Pd.rep (En.slice (En.slice En.SItem)) p_.2),(Pd.rep En.str r4),(Pd.rep En.str ((r1++([124]:Str))++r4))] L (by kernel_rfl) J J ?_ ?_)
 ·refine zbe.cons (zl4 (off:=0) (O 1 J) U63 J (zbr (z7 _ _)) J ty29 J J) ?_;refine zbe.cons (zcj ty29 (O 3 J) J J) ?_;refine zbe.cons (ze3 (znw h2) (xs:=[.tmp 4]) (.cons (O 4 J) .nil) J J) ?_;refine zbe.cons (t_stradd (O 5 J) (o_s (by decide)) h3 J J) ?_;refine zbe.cons (zl4 (off:=1) (O 1 J) U63 J (zw (z7 _ _) J) J ty29 J J) ?_;refine zbe.cons (zcj ty29 (O 7 J) J J) ?_;refine zbe.cons (ze3 (znw h5) (xs:=[.tmp 8]) (.cons (O 8 J) .nil) J J) ?_;refine zbe.cons (t_stradd (O 6 J) (O 9 J) h6 J J) ?_;exact zbe.nil
 intro a s _ L;replace L:=L.kk (L':=[(2,(Pd.rep En.str ([]:Str))),(10,(Pd.rep En.str ((r1++([124]:Str))++r4)))]);refine dp ?_;refine sA 1 L fun a s L=>?_;refine es ?_;subst h;exact wp_ret (zdp J L J)
theorem zeb {d_:SDesc} {ev_:SDesc} {budget_:Int} {r_:SVerdict} (h:zcu d_ ev_ budget_ r_):Fn Tryz.prog 13 [(Pd.rep En.SDesc d_),(Pd.rep En.SDesc ev_),(Pi budget_)] (Rq (Pd.rep En.SVerdict r_)):=by
 unfold zcu at h;refine zbk Tryz.func13 J Tryz.ntmps13 (by rfl) (by simp) fun s0 a L=>?_;refine rs (sA 2 L fun a s L=>?_);refine z8 En.SVerdict (z:=(0,[],[],0,0,0,0)) 6 L zl9 J J J J fun a s g1 hg_ L=>?_;refine es (rs ?_);refine sv (t_q (Pd.rep EnF67 (fun q_=>zbl q_.1 d_ ev_ q_.2)) (zqj (cs:=[.tmp 3,.tmp 4]) (.cons op (.cons op .nil)) (zfh Tryz.func32 J (by rfl)) (zj4 zmo (zj4 zmo zsb)) (fun q_ h_=>(zm6 h_).frz) J J)) L fun a s L=>?_;refine sA 1 L fun a s L=>?_;refine es (rs ?_);refine sv (t_q (Pd.rep EnF69 (fun q_=>zds q_.1 d_ ev_ q_.2)) (zqj (cs:=[.tmp 3,.tmp 4]) (.cons op (.cons op .nil)) (zfh Tryz.func34 J (by rfl)) (zj4 zmo (zj4 zmo zsb)) (fun q_ h_=>zm5 h_) J J)) L fun a s L=>?_;refine sA 1 L fun a s L=>?_;refine es ?_;obtain ⟨r4,h5,r6,h7,r8,h9,h⟩:=h;refine wp_seq ?_;obtain ⟨K2,H2,nK2,L⟩:=L.mark 999983;have lt3:∀k,(some g1)=some k→k<K2:=by rw [H2];exact L.blt 6 rfl
 refine rda zc3 11 [(Pd.rep En.SDesc d_),(Pd.rep (En.slice (En.slice En.SItem)) r4),(Pd.rep En.SDesc ev_),(Pd.rep (En.slice (En.slice En.SItem)) r6),(Pd.rep En.Spair_equiv (r4,r6)),(Pd.rep EnF67 (fun q_=>zbl q_.1 d_ ev_ q_.2)),(Pd.rep EnF69 (fun q_=>zds q_.1 d_ ev_ q_.2)),(Pd.rep En.SSpace_scantling_equiv_pair_search ((r4,r6),(fun q_=>zfg q_.1 q_.2),(fun q_=>zbl q_.1 d_ ev_ q_.2),(fun q_=>zds q_.1 d_ ev_ q_.2))),(Pi budget_),(Pd.rep En.SFound_scantling_equiv_pair_search r8),(Pd.ebox En.SFound_scantling_equiv_pair_search s0.w.heap.size K2 ((0,[],[],0,0,0,0),([],[])))] L (by kernel_rfl) J J ?_ ?_
 ·refine zbe.cons (zcj ty24 (O 3 J) J J) ?_;refine zbe.cons (ze3 ((zk4 h5).frz) (xs:=[.tmp 13]) (.cons (O 13 J) .nil) J J) ?_;refine zbe.cons (zcj ty24 (O 4 J) J J) ?_;refine zbe.cons (ze3 ((zk4 h7).frz) (xs:=[.tmp 15]) (.cons (O 15 J) .nil) J J) ?_;refine zbe.cons (zbj (x:=(r4,r6)) (ps:=[(0,.tmp 14),(1,.tmp 16)]) tyz63 J stt63 (.cons (i:=0) (O 14 J) J (zu (zk _ _ _)) (.cons (i:=1) (O 16 J) J (zi (zk _ _ _) J) .nil)) J J) ?_;refine zbe.cons (zq (O 7 J) J J) ?_;refine zbe.cons (zq (O 8 J) J J) ?_;refine zbe.cons (zbj (x:=((r4,r6),(fun q_=>zfg q_.1 q_.2),(fun q_=>zbl q_.1 d_ ev_ q_.2),(fun q_=>zds q_.1 d_ ev_ q_.2))) (ps:=[(0,.tmp 17),(1,.func 37),(2,.tmp 18),(3,.tmp 19)]) tyz74 J stt74 (.cons (i:=0) (O 17 J) J (zu (zk _ _ _)) (.cons (i:=1) (o_q (Pd.rep EnF72 (fun q_=>zfg q_.1 q_.2)) (o_fun (zfh Tryz.func37 J (by rfl)) (fun q_ h_=>equiv_key_ok h_))) J (zi (zu (zk _ _ _)) J) (.cons (i:=2) (O 18 J) J (zi (zi (zu (zk _ _ _)) J) J) (.cons (i:=3) (O 19 J) J (zi (zi (zi (zk _ _ _) J) J) J) .nil)))) J J) ?_;refine zbe.cons (zq (O 2 J) J J) ?_;refine zbe.cons (ze3 (zfm h9) (xs:=[.tmp 20,.tmp 21]) (.cons (O 20 J) (.cons (O 21 J) .nil)) J J) ?_;refine zbe.cons (t_allocx En.SFound_scantling_equiv_pair_search (z:=((0,[],[],0,0,0,0),([],[]))) (K:=K2) (m:=999983) J nK2 tyz71 J J) ?_;exact zbe.nil
 intro a s _ L;obtain ⟨g10,hg_,L⟩:=L.openb 9 rfl;have d11:=Dis.newg hg_ lt3;replace L:=L.kk (L':=[(3,(Pd.ptr En.SDesc d_)),(6,(Pd.box En.SVerdict s0.w.heap.size g1 (0,[],[],0,0,0,0))),(9,(Pd.box En.SFound_scantling_equiv_pair_search s0.w.heap.size g10 ((0,[],[],0,0,0,0),([],[])))),(22,(Pd.rep En.SFound_scantling_equiv_pair_search r8))]);refine dp ?_;refine sB 9 L fun s L=>?_;refine es (rs ?_);refine sA 2 L fun a s L=>?_;have lt_d14:=L.blt 9 rfl;have lt_d13:=L.blt 6 rfl;refine z8 En.SVerdict (z:=(0,[],[],0,0,0,0)) 10 L zl9 J J J J fun a s g12 hg_ L=>?_;have d13:=Dis.newg hg_ lt_d13;have d14:=Dis.newg hg_ lt_d14;refine sB 10 L fun s L=>?_;refine es (wp_seq_k fun K15 H15=>?_);refine rA 3 L fun a s L=>?_;refine cn L h (fun h=>?_) fun h=>?_
 ·refine rs ?_;refine sA 1 L fun a s L=>?_;refine sB 6 L fun s L=>?_;refine es ?_;subst h;exact wp_ret (zqw J ty34 L J)
 ·refine wp_skip (H15 _ _ ?_);refine rs (sA 1 L fun a s L=>?_);refine zee 10 L J op op (zi (zi (zi (zi (zu (zk _ _ _)) J) J) J) J) Tq.h J J J ka fun s L=>?_;refine es (wp_seq_k fun K16 H16=>?_);obtain ⟨r17,h18,h⟩:=h;refine ra 5 (p1 (zi3 h18)) L fun a s L=>?_;refine cn L h (fun h=>?_) fun h=>?_
  ·refine rg ?_;refine sA 1 L fun a s L=>?_;refine zee 10 L J op op (zi (zi (zi (zi (zu (zk _ _ _)) J) J) J) J) Tq.h J J J ka fun s L=>?_;refine en' (H16 _ _ ?_);refine rs (sA 1 L fun a s L=>?_);replace L:=L.dr (some g10);refine sB 6 L fun s L=>?_;refine es ?_;subst h;exact wp_ret (zqw J ty34 L J)
  ·refine wp_skip (H16 _ _ ?_);refine rs (sA 1 L fun a s L=>?_);refine sB 6 L fun s L=>?_;refine es ?_;subst h;exact wp_ret (zqw J ty34 L J)
theorem zkf  {r_:Bool} (h:zgv  r_):Fn Tryz.prog 8 [] (Rq (Pd.rep En.bool r_)):=by
 unfold zgv at h;refine zbk Tryz.func8 J Tryz.ntmps8 (by rfl) (by simp) fun s0 a L=>?_;refine rA 1 L fun a s L=>?_;obtain ⟨r1,h2,h⟩:=h;refine rs (sl 1 (p1 (zja h2)) L fun a s L=>?_);refine sv (zbj (x:=(2,0,0,0,0,r1,([]:Str))) (ps:=[(0,.const (.int .i64 2)),(5,.tmp 8)]) zkx J stt54 (.cons (i:=0) op J (zu (zk _ _ _)) (.cons (i:=5) op J (zi (zi (zi (zi (zi (zu (zk _ _ _)) J) J) J) J) J) .nil)) J J) L fun a s L=>?_;refine sA 1 L fun a s L=>?_;refine sv (zbj (x:=[(2,0,0,0,0,r1,([]:Str))]) (ps:=[(0,.tmp 10)]) zqi J stt24 (.cons (i:=0) op J (zqo (zk _ _ _)) .nil) J J) L fun a s L=>?_;refine z8 En.SDesc (z:=[]) 1 L zqi J J J J fun a s g3 hg_ L=>?_;refine sB 1 L fun s L=>?_;refine es ?_;obtain ⟨r4,h5,h⟩:=h;refine rs (sl 3 (p1 (zrd h5)) L fun a s L=>?_);have lt_d7:=L.blt 1 rfl;refine z8 En.SDesc (z:=[]) 2 L zqi J J J J fun a s g6 hg_ L=>?_;have d7:=Dis.newg hg_ lt_d7;refine sB 2 L fun s L=>?_;refine es ?_;obtain ⟨r8,h9,h⟩:=h;refine rs (sl 2 (p1 (zle h9)) L fun a s L=>?_);have lt_d12:=L.blt 2 rfl;have lt_d11:=L.blt 1 rfl;refine z8 En.SDesc (z:=[]) 3 L zqi J J J J fun a s g10 hg_ L=>?_;have d11:=Dis.newg hg_ lt_d11;have d12:=Dis.newg hg_ lt_d12;refine sB 3 L fun s L=>?_;refine es ?_;obtain ⟨r13,h14,h⟩:=h;refine rs (sl 2 (p1 (zle h14)) L fun a s L=>?_);have lt_d18:=L.blt 3 rfl;have lt_d17:=L.blt 2 rfl;have lt_d16:=L.blt 1 rfl;refine z8 En.SDesc (z:=[]) 4 L zqi J J J J fun a s g15 hg_ L=>?_;have d16:=Dis.newg hg_ lt_d16;have d17:=Dis.newg hg_ lt_d17;have d18:=Dis.newg hg_ lt_d18;refine sB 4 L fun s L=>?_
 refine es ?_;obtain ⟨r19,h20,h⟩:=h;refine rs (sl 3 (p1 (zeb h20)) L fun a s L=>?_);have lt_d25:=L.blt 4 rfl;have lt_d24:=L.blt 3 rfl;have lt_d23:=L.blt 2 rfl;have lt_d22:=L.blt 1 rfl;refine z8 En.SVerdict (z:=(0,[],[],0,0,0,0)) 5 L zl9 J J J J fun a s g21 hg_ L=>?_;have d22:=Dis.newg hg_ lt_d22;have d23:=Dis.newg hg_ lt_d23;have d24:=Dis.newg hg_ lt_d24;have d25:=Dis.newg hg_ lt_d25;refine sB 5 L fun s L=>?_;refine es ?_;obtain ⟨r26,h27,h⟩:=h;refine rs (sl 3 (p1 (zeb h27)) L fun a s L=>?_);have lt_d33:=L.blt 5 rfl;have lt_d32:=L.blt 4 rfl;have lt_d31:=L.blt 3 rfl;have lt_d30:=L.blt 2 rfl;have lt_d29:=L.blt 1 rfl;refine z8 En.SVerdict (z:=(0,[],[],0,0,0,0)) 6 L zl9 J J J J fun a s g28 hg_ L=>?_;have d29:=Dis.newg hg_ lt_d29;have d30:=Dis.newg hg_ lt_d30;have d31:=Dis.newg hg_ lt_d31;have d32:=Dis.newg hg_ lt_d32;have d33:=Dis.newg hg_ lt_d33;refine sB 6 L fun s L=>?_;refine es ?_;obtain ⟨r34,h35,h⟩:=h;refine rs (sl 3 (p1 (zeb h35)) L fun a s L=>?_);have lt_d42:=L.blt 6 rfl;have lt_d41:=L.blt 5 rfl;have lt_d40:=L.blt 4 rfl;have lt_d39:=L.blt 3 rfl;have lt_d38:=L.blt 2 rfl;have lt_d37:=L.blt 1 rfl;refine z8 En.SVerdict (z:=(0,[],[],0,0,0,0)) 7 L zl9 J J J J fun a s g36 hg_ L=>?_;have d37:=Dis.newg hg_ lt_d37;have d38:=Dis.newg hg_ lt_d38;have d39:=Dis.newg hg_ lt_d39;have d40:=Dis.newg hg_ lt_d40;have d41:=Dis.newg hg_ lt_d41;have d42:=Dis.newg hg_ lt_d42;refine sB 7 L fun s L=>?_;refine es ?_;obtain ⟨r43,h44,b45,h46,b47,h48,r49,h50,r51,h52,r53,h54,r55,h56,b57,h58,h⟩:=h;refine rs (sl 51 (pp (fun hc_=>(zex (h44 hc_))) (pp h46 (pp h48 (pp (fun hc_=>(zeb (h50 hc_))) (pp (fun hc_=>(zeb (h52 hc_))) trivial))))) L fun a s L=>?_)
 refine sv (t_g1 J J J (fun hc_=>zbj (x:=(1,0,0,0)) (ps:=[(0,.const (.int .i64 1))]) zej J zhu (.cons (i:=0) op J (zu (zk _ _ _)) .nil) J J)) L fun a s L=>?_;refine sl 7 (pp (fun hc_=>((zho (h54 hc_)).frz)) (pp (fun hc_=>(zex (h56 hc_))) (p1 h58))) L fun a s L=>?_;refine es ?_;subst h;exact wp_ret (zdp J L J)
theorem zmw {d_:SDesc} {r_:Bool} (h:zgu d_ r_):Fn Tryz.prog 9 [(Pd.rep En.SDesc d_)] (Rq (Pd.rep En.bool r_)):=by
 unfold zgu at h;refine zbk Tryz.func9 J Tryz.ntmps9 (by rfl) (by simp) fun s0 a L=>?_;refine rA 2 L fun a s L=>?_;obtain ⟨r1,h2,r3,h4,b5,h6,r7,h8,h⟩:=h;refine ra 18 (pp (ref04_Few_ok h2) (pp (fun hc_=>(zn0 (h4 hc_))) (pp h6 (pp (fun hc_=>(zpb (h8 hc_))) trivial)))) L fun a s L=>?_;subst h;exact wp_ret (zdp J L J)
theorem zka {d_:SDesc} {ev_:SDesc} {a_:(List (List SItem))} {b_:(List (List SItem))} {r_:(List Int)} (h:zgr d_ ev_ a_ b_ r_):Fn Tryz.prog 17 [(Pd.rep En.SDesc d_),(Pd.rep En.SDesc ev_),(Pd.rep (En.slice (En.slice En.SItem)) a_),(Pd.rep (En.slice (En.slice En.SItem)) b_)] (Ro (En.int .u8) 5 r_):=by
 unfold zgr at h;refine zbk Tryz.func17 J Tryz.ntmps17 (by rfl) (by simp) fun s0 a L=>?_;refine rs (sA 2 L fun a s L=>?_);refine sno (En.int .u8) 5 L fun a s L=>?_;refine es ?_;obtain ⟨r2,h3,r4,h5,h7,h⟩:=h;refine wp_seq ?_;obtain ⟨K1,H1,nK1,L⟩:=L.mark 999983;refine rda zc3 6 [(Pd.rep En.SDesc d_),(Pd.rep (En.slice (En.slice En.SItem)) a_),(Pd.erow En.cls s0.w.heap.size K1 51 r2),(Pd.rep En.SDesc ev_),(Pd.rep (En.slice (En.slice En.SItem)) b_),(Pd.rep (En.slice En.cls) r4)] L (by kernel_rfl) J J ?_ ?_
 ·refine zbe.cons (zcj ty24 (O 4 J) J J) ?_;refine zbe.cons (zq (O 2 J) J J) ?_;refine zbe.cons (zqn (K:=K1) (m:=999983) J nK1 (zis h3) (xs:=[.tmp 10,.tmp 11]) (.cons (O 10 J) (.cons (O 11 J) .nil)) J J) ?_;refine zbe.cons (zcj ty24 (O 5 J) J J) ?_;refine zbe.cons (zq (O 3 J) J J) ?_;refine zbe.cons (ze3 ((zis h5).frz) (xs:=[.tmp 13,.tmp 14]) (.cons (O 13 J) (.cons (O 14 J) .nil)) J J) ?_;exact zbe.nil
 intro a s _ L;obtain ⟨og6,hg_,L⟩:=L.openr 12 rfl;replace L:=L.kk (L':=[(12,(Pd.row En.cls s0.w.heap.size 51 og6 r2)),(15,(Pd.rep (En.slice En.cls) r4))]);refine dp ?_;refine zqr 16 32 L op op Ud.h Tq.h (by decide) ⟨_,J,by decide⟩ h7 J J J J ka fun a s og8 hg_ L=>?_;refine sA 1 L fun a s L=>?_;refine es (fzc 9 L fun s L=>?_);obtain ⟨r9,h10,r11,h12,h⟩:=h;refine rs (sl 2 (p1 ((zq0 h10).frz)) L fun a s L=>?_);refine zen 19 L (zpf h12) opz J J J J fun a s og13 hg_ L=>?_;refine sA 1 L fun a s L=>?_;refine es ?_;subst h;exact wp_ret (zfj J L J)
theorem zny {d_:SDesc} {ev_:SDesc} {most_:Int} {r_:(List SThing_ref19)} (h:zt d_ ev_ most_ r_):Fn Tryz.prog 39 [(Pd.rep En.SDesc d_),(Pd.rep En.SDesc ev_),(Pi most_)] (Ro En.SThing_ref19 79 r_):=by
 unfold zt at h;refine zbk Tryz.func39 J Tryz.ntmps39 (by rfl) (by simp) fun s0 a L=>?_;refine rs (sA 2 L fun a s L=>?_);refine sno En.SThing_ref19 79 L fun a s L=>?_;refine es ?_;obtain ⟨r1,h2,r3,h4,h⟩:=h;refine wp_seq (rda zc3 5 [(Pd.rep En.SDesc d_),(Pd.rep (En.slice (En.slice En.SItem)) r1),(Pd.rep En.SDesc ev_),(Pd.rep (En.slice (En.slice En.SItem)) r3),(Pd.rep En.SThing_ref19 (r1,r3,[]))] L (by kernel_rfl) J J ?_ ?_)
 ·refine zbe.cons (zcj ty24 (O 3 J) J J) ?_;refine zbe.cons (ze3 ((zhe h2).frz) (xs:=[.tmp 15]) (.cons (O 15 J) .nil) J J) ?_;refine zbe.cons (zcj ty24 (O 4 J) J J) ?_;refine zbe.cons (ze3 ((zhe h4).frz) (xs:=[.tmp 17]) (.cons (O 17 J) .nil) J J) ?_;refine zbe.cons (zbj (x:=(r1,r3,[])) (ps:=[(0,.tmp 16),(1,.tmp 18)]) tyz79 J stt79 (.cons (i:=0) (O 16 J) J (zu (zk _ _ _)) (.cons (i:=1) (O 18 J) J (zi (zu (zk _ _ _)) J) .nil)) J J) ?_;exact zbe.nil
 intro a s _ L;replace L:=L.kk (L':=[(2,(Pi most_)),(3,(Pd.ptr En.SDesc d_)),(4,(Pd.ptr En.SDesc ev_)),(19,(Pd.rep En.SThing_ref19 (r1,r3,[])))]);refine dp ?_;refine zdy (xs:=[.tmp 19]) 20 L (.cons op .nil) Ud.h Tq.h J J (by decide) J J J J fun a s g5 hg_ L=>?_;refine sA 1 L fun a s L=>?_;refine es (wp_seq_k fun K6 H6=>?_);refine rA 1 L fun a s L=>?_;refine wp_block ?_;have J9:∀(out7:(List SThing_ref19)) (og8:Option Nat) (a:Act) (s:St),Has N0 122 s0 a s [(7,(Pd.row En.SThing_ref19 s0.w.heap.size 79 og8 out7))]→((zt.j1 r_) out7)→K6 a s.w:=by
  intro out7 og8 a s L h;unfold zt.j1 at h;show K6 a s.w;refine H6 _ _ (rA 2 L fun a s L=>?_);subst h;exact wp_ret (zfj J L J)
 obtain ⟨k13,h⟩:=h;refine lpn (fun k14 a s=>∃(out10:(List SThing_ref19)) (i12:Int) (og11:Option Nat),Has N0 122 s0 a s [(2,(Pi most_)),(3,(Pd.ptr En.SDesc d_)),(4,(Pd.ptr En.SDesc ev_)),(7,(Pd.row En.SThing_ref19 s0.w.heap.size 79 og11 out10)),(8,(Pi i12))]∧zt.l1 d_ ev_ most_ (zt.j1 r_) k14 out10 i12) k13 ⟨[(r1,r3,[])],0,(some g5),L.kk,h⟩ ?_;rintro k14 a s ⟨out10,i12,og11,L,h⟩ KL15 hKL15;unfold zt.l1 at h;refine wp_seq_k fun K16 H16=>?_;obtain ⟨b17,h18,h⟩:=h;refine ra 10 (p1 h18) L fun a s L=>?_;refine cn L h (fun h=>?_) fun h=>?_
 ·refine wp_skip (H16 _ _ ?_);refine wp_seq_k fun K19 H19=>wp_block ?_;obtain ⟨e20,h21,e22,h23,r24,h25,h⟩:=h;refine wp_seq (rdx 13 (pp h21 (pp h23 (p1 ((zka h25).frz)))) L fun a s L=>?_);refine sA 1 L fun a s L=>?_;refine es (rA 1 L fun a s L=>?_);refine wp_block ?_;have J28:∀(out26:(List SThing_ref19)) (og27:Option Nat) (a:Act) (s:St),Has N0 122 s0 a s [(2,(Pi most_)),(3,(Pd.ptr En.SDesc d_)),(4,(Pd.ptr En.SDesc ev_)),(7,(Pd.row En.SThing_ref19 s0.w.heap.size 79 og27 out26)),(8,(Pi i12))]→((zt.j2 (zt.l1 d_ ev_ most_ (zt.j1 r_) k14) i12) out26)→K19 a s.w:=by
   intro out26 og27 a s L h;unfold zt.j2 at h;show K19 a s.w;refine H19 _ _ ?_;obtain ⟨h29,h⟩:=h;refine rg (sA 3 L fun a s L=>?_);refine en' ?_;exact hKL15 a s ⟨out26,(i12+1),og27,L.kk,h⟩
  obtain ⟨k33,h⟩:=h;refine lpn (fun k34 a s=>∃(out30:(List SThing_ref19)) (k32:Int) (og31:Option Nat),Has N0 122 s0 a s [(2,(Pi most_)),(3,(Pd.ptr En.SDesc d_)),(4,(Pd.ptr En.SDesc ev_)),(7,(Pd.row En.SThing_ref19 s0.w.heap.size 79 og31 out30)),(8,(Pi i12)),(9,(Pd.rep (En.slice (En.int .u8)) r24)),(10,(Pi k32))]∧zt.l2 d_ ev_ i12 r24 (zt.j2 (zt.l1 d_ ev_ most_ (zt.j1 r_) k14) i12) k34 out30 k32) k33 ⟨out10,0,og11,L.kk,h⟩ ?_;rintro k34 a s ⟨out30,k32,og31,L,h⟩ KL35 hKL35;unfold zt.l2 at h;refine wp_seq_k fun K36 H36=>rA 4 L fun a s L=>?_;refine cn L h (fun h=>?_) fun h=>?_
  ·refine wp_skip (H36 _ _ ?_);refine wp_seq_k fun K37 H37=>wp_block ?_;obtain ⟨e38,h39,e40,h41,r42,h43,h⟩:=h;refine wp_seq (rdx 11 (pp h39 (pp h41 (p1 ((zkj h43).frz)))) L fun a s L=>?_);refine sA 1 L fun a s L=>?_;refine es ?_;obtain ⟨e44,h45,e46,h47,r48,h49,h⟩:=h;refine wp_seq (rdx 11 (pp h45 (pp h47 (p1 ((zkj h49).frz)))) L fun a s L=>?_);refine sA 1 L fun a s L=>?_;refine es (rA 1 L fun a s L=>?_);refine wp_seq_k fun K50 H50=>rA 1 L fun a s L=>?_;refine wp_block ?_;have J52:∀(there51:Bool) (a:Act) (s:St),Has N0 122 s0 a s [(2,(Pi most_)),(3,(Pd.ptr En.SDesc d_)),(4,(Pd.ptr En.SDesc ev_)),(7,(Pd.row En.SThing_ref19 s0.w.heap.size 79 og31 out30)),(8,(Pi i12)),(9,(Pd.rep (En.slice (En.int .u8)) r24)),(10,(Pi k32)),(11,(Pd.rep (En.slice (En.slice En.SItem)) r42)),(12,(Pd.rep (En.slice (En.slice En.SItem)) r48)),(13,(Pd.rep En.bool there51))]→((zt.j3 (zt.l2 d_ ev_ i12 r24 (zt.j2 (zt.l1 d_ ev_ most_ (zt.j1 r_) k14) i12) k34) i12 r24 out30 k32 r42 r48) there51)→K50 a s.w:=by
    intro there51 a s L h;unfold zt.j3 at h;show K50 a s.w;refine H50 _ _ (rA 2 L fun a s L=>?_);refine cn L h (fun h=>?_) fun h=>?_
    ·obtain ⟨e55,h56,h57,e58,h59,h60,h63,h⟩:=h;replace L:=L.kk (L':=[(2,(Pi most_)),(3,(Pd.ptr En.SDesc d_)),(4,(Pd.ptr En.SDesc ev_)),(7,(Pd.row En.SThing_ref19 s0.w.heap.size 79 og31 out30)),(8,(Pi i12)),(9,(Pd.rep (En.slice (En.int .u8)) r24)),(10,(Pi k32)),(11,(Pd.rep (En.slice (En.slice En.SItem)) r42)),(12,(Pd.rep (En.slice (En.slice En.SItem)) r48))]);obtain ⟨K53,H53,nK53,L⟩:=L.mark 999983;have lt54:∀k,og31=some k→k<K53:=by rw [H53];exact L.rlt 7 rfl
     refine rdf 20 zc3 L (by kernel_rfl) fun s _ L=>?_;refine zef 0 102 L (by rfl) (by kernel_rfl) (by kernel_rfl) (by kernel_rfl) (fun _ _ _ _ h=>h) (q:=(Pd.row En.SThing_ref19 s0.w.heap.size 79 og31 out30)) (zhs (O 7 J) J J) J J fun a L=>?_;refine rc_go 16 [(Pd.row En.SThing_ref19 s0.w.heap.size 79 og31 out30),(Pd.rep (En.slice (En.slice En.SItem)) r42),(Pd.rep (En.slice (En.slice En.SItem)) r48),(Pd.erow0 s0.w.heap.size K53 5),(Pd.row En.SThing_ref19 s0.w.heap.size 79 og31 out30),(Pi i12),(Pd.optr En.SThing_ref19 s0.w.heap.size og31 ((i12:Int).toNat*En.SThing_ref19.sz) e55),(Pd.optr (En.slice (En.int .u8)) s0.w.heap.size og31 ((i12:Int).toNat*En.SThing_ref19.sz+2) e55.2.2),(Pd.rep (En.slice (En.int .u8)) e55.2.2),(Pd.erow (En.int .u8) s0.w.heap.size K53 5 e55.2.2),(Pd.rep (En.slice (En.int .u8)) r24),(Pi k32),(Pd.ptr (En.int .u8) e58),(Pd.rep (En.int .u8) e58),(Pd.rep (En.slice (En.int .u8)) [e58]),(Pd.erow (En.int .u8) s0.w.heap.size K53 5 (e55.2.2++[e58]))] [0] K53 [3,9,15] nK53 L (.cons (t:=102) J (fun b_ h_=>Nat.not_le.2 (lt54 b_ h_)) (.k 999983 (.k 2 (.k 3 (.k 4 (.cons (t:=7) J (fun b_ h_=>Nat.not_le.2 (lt54 b_ h_)) (.k 8 (.k 9 (.k 10 (.k 11 (.k 12 .nil))))))))))) (by kernel_rfl) (by kernel_rfl) (by kernel_rfl) (by kernel_rfl) (.cons (i:=0) J J J J .nil) J J ?_ ?_
     ·refine zg1.skip J (fun b_ h_=>Nat.not_le.2 (lt54 b_ h_)) ?_;refine zg1.t (zq (O 11 J) J J) nE ?_;refine zg1.t (zq (O 12 J) J J) nE ?_;refine zg1.c (t_newx (En.int .u8) (K:=K53) (m:=999983) J nK53 U25 ty5 J J) J ?_;refine zg1.t (zq (O 7 J) J J) (fun b_ h_=>Nat.not_le.2 (lt54 b_ h_)) ?_;refine zg1.t (zq (O 8 J) J J) nE ?_;refine zg1.t (zd3 (O 106 J) (O 107 J) h56 U76 ty79 J J) (fun b_ h_=>Nat.not_le.2 (lt54 b_ h_)) ?_;refine zg1.t (t_fao (off:=2) (O 108 J) U79 J (zw (zw (z7 _ _) J) J) J ty25 J J) (fun b_ h_=>Nat.not_le.2 (lt54 b_ h_)) ?_;refine zg1.t (zcq ty25 (O 109 J) J J) nE ?_;refine zg1.c (t_app0 (O 105 J) (O 110 J) U25 ty5 h57 (m:=999983) J J J) J ?_;refine zg1.t (zq (O 9 J) J J) nE ?_;refine zg1.t (zq (O 10 J) J J) nE ?_;refine zg1.t (zql (O 112 J) (O 113 J) h59 U25 ty5 J J) nE ?_;refine zg1.t (zcj ty5 (O 114 J) J J) nE ?_;refine zg1.t (t_lit (xs:=[.tmp 115]) (.cons (O 115 J) .nil) U25 ty5 J J (by decide) J J) nE ?_;refine zg1.x (t_appx (O 111 J) (O 116 J) U25 ty5 nK53 h60 (m:=999983) J J J) J ?_;exact zg1.nil
     intro a s _ L;obtain ⟨og61,hg_,L⟩:=L.openr 117 rfl;have d62:=Dis.new hg_ lt54;replace L:=L.kk (L':=[(2,(Pi most_)),(3,(Pd.ptr En.SDesc d_)),(4,(Pd.ptr En.SDesc ev_)),(7,(Pd.row En.SThing_ref19 s0.w.heap.size 79 og31 out30)),(8,(Pi i12)),(9,(Pd.rep (En.slice (En.int .u8)) r24)),(10,(Pi k32)),(102,(Pd.row En.SThing_ref19 s0.w.heap.size 79 og31 out30)),(103,(Pd.rep (En.slice (En.slice En.SItem)) r42)),(104,(Pd.rep (En.slice (En.slice En.SItem)) r48)),(117,(Pd.row (En.int .u8) s0.w.heap.size 5 og61 (e55.2.2++[e58])))]);refine dp ?_;refine fzl 117 L fun s L=>?_;refine sv (zbj (x:=(r42,r48,e55.2.2++[e58])) (ps:=[(0,.tmp 103),(1,.tmp 104),(2,.tmp 117)]) tyz79 J stt79 (.cons (i:=0) op J (zu (zk _ _ _)) (.cons (i:=1) op J (zi (zu (zk _ _ _)) J) (.cons (i:=2) op J (zi (zi (zk _ _ _) J) J) .nil))) J J) L fun a s L=>?_;refine sA 1 L fun a s L=>?_;refine zb1 120 L op op Ud.h Tq.h h63 J J J J ka fun a s og64 hg_ L=>?_;refine sA 1 L fun a s L=>?_;refine en' (H37 _ _ ?_);obtain ⟨h65,h⟩:=h;refine rg (sA 3 L fun a s L=>?_);refine en' ?_;exact hKL35 a s ⟨(out30++[(r42,r48,e55.2.2++[e58])]),(k32+1),og64,L.kk,h⟩
    ·refine wp_skip (H37 _ _ ?_);obtain ⟨h66,h⟩:=h;refine rg (sA 3 L fun a s L=>?_);refine en' ?_;exact hKL35 a s ⟨out30,(k32+1),og31,L.kk,h⟩
   obtain ⟨k69,h⟩:=h;refine lpn (fun k70 a s=>∃(there67:Bool) (m68:Int),Has N0 122 s0 a s [(2,(Pi most_)),(3,(Pd.ptr En.SDesc d_)),(4,(Pd.ptr En.SDesc ev_)),(7,(Pd.row En.SThing_ref19 s0.w.heap.size 79 og31 out30)),(8,(Pi i12)),(9,(Pd.rep (En.slice (En.int .u8)) r24)),(10,(Pi k32)),(11,(Pd.rep (En.slice (En.slice En.SItem)) r42)),(12,(Pd.rep (En.slice (En.slice En.SItem)) r48)),(13,(Pd.rep En.bool there67)),(14,(Pi m68))]∧zt.l3 out30 r42 r48 (zt.j3 (zt.l2 d_ ev_ i12 r24 (zt.j2 (zt.l1 d_ ev_ most_ (zt.j1 r_) k14) i12) k34) i12 r24 out30 k32 r42 r48) k70 there67 m68) k69 ⟨false,0,L.kk,h⟩ ?_;rintro k70 a s ⟨there67,m68,L,h⟩ KL71 hKL71;unfold zt.l3 at h;refine wp_seq_k fun K72 H72=>?_;obtain ⟨b73,h74,h⟩:=h;refine ra 8 (p1 h74) L fun a s L=>?_;refine cn L h (fun h=>?_) fun h=>?_
   ·refine wp_skip (H72 _ _ ?_);refine wp_seq_k fun K75 H75=>wp_block ?_;obtain ⟨e76,h77,r78,h79,e80,h81,r82,h83,h⟩:=h;refine rg (sl 17 (pp h77 (pp (zla h79) (pp h81 (pp (fun hc_=>(zla (h83 hc_))) trivial)))) L fun a s L=>?_);refine en' (H75 _ _ ?_);obtain ⟨h84,h⟩:=h;refine rg (sA 3 L fun a s L=>?_);refine en' ?_;exact hKL71 a s ⟨(r78&&r82),(m68+1),L.kk,h⟩
   ·refine wp_exit ?_;exact J52 there67 a s (L.kk) h
  ·refine wp_exit ?_;exact J28 out30 og31 a s (L.kk) h
 ·refine wp_exit ?_;exact J9 out10 og11 a s (L.kk) h
theorem zo5 {d_:SDesc} {ev_:SDesc} {budget_:Int} {r_:SVerdict} (h:zb5 d_ ev_ budget_ r_):Fn Tryz.prog 14 [(Pd.rep En.SDesc d_),(Pd.rep En.SDesc ev_),(Pi budget_)] (Rq (Pd.rep En.SVerdict r_)):=by
 unfold zb5 at h;refine zbk Tryz.func14 J Tryz.ntmps14 (by rfl) (by simp) fun s0 a L=>?_;refine rs (sA 2 L fun a s L=>?_);refine z8 En.SVerdict (z:=(0,[],[],0,0,0,0)) 6 L zl9 J J J J fun a s g1 hg_ L=>?_;refine es (rA 3 L fun a s L=>?_);obtain ⟨r2,h3,h⟩:=h;refine ra 5 (p1 ((zny h3).frz)) L fun a s L=>?_;refine wp_seq_k fun K4 H4=>rA 1 L fun a s L=>?_;refine wp_block ?_;have J6:∀(v5:SVerdict) (a:Act) (s:St),Has N0 78 s0 a s [(6,(Pd.box En.SVerdict s0.w.heap.size g1 v5)),(7,(Pi (max 0 budget_))),(8,(Pd.rep (En.slice En.SThing_ref19) r2))]→((zb5.j1 budget_ r_ r2) v5)→K4 a s.w:=by
  intro v5 a s L h;unfold zb5.j1 at h;show K4 a s.w;refine H4 _ _ (wp_seq_k fun K7 H7=>?_);refine rA 4 L fun a s L=>?_;refine cn L h (fun h=>?_) fun h=>?_
  ·refine rs ?_;refine sA 2 L fun a s L=>?_;refine sv (zbj (x:=(1,[],[],0,0,0,(r2.length:Int))) (ps:=[(0,.const (.int .i64 1)),(6,.tmp 74)]) zl9 J stt34 (.cons (i:=0) op J (zu (zk _ _ _)) (.cons (i:=6) op J (zi (zi (zi (zi (zi (zi (zk _ _ _) J) J) J) J) J) J) .nil)) J J) L fun a s L=>?_;refine sB 6 L fun s L=>?_;refine es ?_;subst h;exact wp_ret (zqw J ty34 L J)
  ·refine wp_skip (H7 _ _ ?_);refine rs (sA 1 L fun a s L=>?_);refine sv (zbj (x:=(3,[],[],0,0,0,(max 0 budget_))) (ps:=[(0,.const (.int .i64 3)),(6,.tmp 76)]) zl9 J stt34 (.cons (i:=0) op J (zu (zk _ _ _)) (.cons (i:=6) op J (zi (zi (zi (zi (zi (zi (zk _ _ _) J) J) J) J) J) J) .nil)) J J) L fun a s L=>?_;refine sB 6 L fun s L=>?_;refine es ?_;subst h;exact wp_ret (zqw J ty34 L J)
 obtain ⟨k10,h⟩:=h;refine lpn (fun k11 a s=>∃(v8:SVerdict) (i9:Int),Has N0 78 s0 a s [(3,(Pd.ptr En.SDesc d_)),(4,(Pd.ptr En.SDesc ev_)),(6,(Pd.box En.SVerdict s0.w.heap.size g1 v8)),(7,(Pi (max 0 budget_))),(8,(Pd.rep (En.slice En.SThing_ref19) r2)),(9,(Pi i9))]∧zb5.l1 d_ ev_ budget_ r2 r_ (zb5.j1 budget_ r_ r2) k11 v8 i9) k10 ⟨(0,[],[],0,0,0,0),0,L.kk,h⟩ ?_;rintro k11 a s ⟨v8,i9,L,h⟩ KL12 hKL12;unfold zb5.l1 at h;refine wp_seq_k fun K13 H13=>?_;obtain ⟨b14,h15,h⟩:=h;refine ra 9 (p1 h15) L fun a s L=>?_;refine cn L h (fun h=>?_) fun h=>?_
 ·refine wp_skip (H13 _ _ ?_);refine wp_seq_k fun K16 H16=>wp_block ?_;obtain ⟨e17,h18,r19,h20,h⟩:=h;refine wp_seq (rdx 7 (pp h18 (p1 (zlc h20))) L fun a s L=>?_);refine sA 1 L fun a s L=>?_;refine es ?_;obtain ⟨e21,h22,r23,h24,h⟩:=h;refine wp_seq (rdx 7 (pp h22 (p1 (zlc h24))) L fun a s L=>?_);refine sA 1 L fun a s L=>?_;refine es (wp_seq_k fun K25 H25=>?_);refine rA 5 L fun a s L=>?_;refine cn L h (fun h=>?_) fun h=>?_
  ·obtain ⟨e26,h27,h28,h⟩:=h;refine rs (sl 7 (p1 h27) L fun a s L=>?_);refine sv (zbj (x:=(2,e26.2.2,[],0,1,0,i9+1)) (ps:=[(0,.const (.int .i64 2)),(1,.tmp 52),(4,.const (.int .i64 1)),(6,.tmp 54)]) zl9 J stt34 (.cons (i:=0) op J (zu (zk _ _ _)) (.cons (i:=1) op J (zi (zu (zk _ _ _)) J) (.cons (i:=4) op J (zi (zi (zi (zi (zu (zk _ _ _)) J) J) J) J) (.cons (i:=6) op J (zi (zi (zi (zi (zi (zi (zk _ _ _) J) J) J) J) J) J) .nil)))) J J) L fun a s L=>?_;refine sB 6 L fun s L=>?_;refine es ?_;subst h;exact wp_ret (zqw J ty34 L J)
  ·refine wp_skip (H25 _ _ ?_);refine rA 5 L fun a s L=>?_;refine cn L h (fun h=>?_) fun h=>?_
   ·obtain ⟨e29,h30,h31,h⟩:=h;refine rs (sl 7 (p1 h30) L fun a s L=>?_);refine sv (zbj (x:=(2,e29.2.2,[],0,2,0,i9+1)) (ps:=[(0,.const (.int .i64 2)),(1,.tmp 65),(4,.const (.int .i64 2)),(6,.tmp 67)]) zl9 J stt34 (.cons (i:=0) op J (zu (zk _ _ _)) (.cons (i:=1) op J (zi (zu (zk _ _ _)) J) (.cons (i:=4) op J (zi (zi (zi (zi (zu (zk _ _ _)) J) J) J) J) (.cons (i:=6) op J (zi (zi (zi (zi (zi (zi (zk _ _ _) J) J) J) J) J) J) .nil)))) J J) L fun a s L=>?_;refine sB 6 L fun s L=>?_;refine es ?_;subst h;exact wp_ret (zqw J ty34 L J)
   ·refine wp_skip (H16 _ _ ?_);obtain ⟨h32,h⟩:=h;refine rg (sA 3 L fun a s L=>?_);refine en' ?_;exact hKL12 a s ⟨v8,(i9+1),L.kk,h⟩
 ·refine wp_exit ?_;exact J6 v8 a s (L.kk) h
theorem law19_EquivChecks_ok {d_:SDesc} {ev_:SDesc} {budget_:Int} {a_:(List Int)} {b_:(List Int)} {r_:Bool} (h:zfr d_ ev_ budget_ a_ b_ r_):Fn Tryz.prog 3 [(Pd.rep En.SDesc d_),(Pd.rep En.SDesc ev_),(Pi budget_),(Pd.rep (En.slice (En.int .u8)) a_),(Pd.rep (En.slice (En.int .u8)) b_)] (Rq (Pd.rep En.bool r_)):=by
 unfold zfr at h;refine zbk Tryz.func3 J Tryz.ntmps3 (by rfl) (by simp) fun s0 a L=>?_;refine rA 3 L fun a s L=>?_;refine wp_seq_k fun K1 H1=>?_;obtain ⟨r2,h3,r4,h5,r6,h7,b8,h9,b10,h11,r12,h13,h⟩:=h;refine ra 33 (pp (zkf h3) (pp (fun hc_=>(zmw (h5 hc_))) (pp (fun hc_=>(zmw (h7 hc_))) (pp h9 (pp h11 (pp (fun hc_=>(zpd (h13 hc_))) trivial)))))) L fun a s L=>?_;refine cn L h (fun h=>?_) fun h=>?_
 ·obtain ⟨r14,h15,h⟩:=h;refine ra 2 (p1 (zkf h15)) L fun a s L=>?_;subst h;exact wp_ret (zdp J L J)
 ·refine wp_skip (H1 _ _ ?_);obtain ⟨r16,h17,h⟩:=h;refine ra 4 (p1 ((zkb h17).frz)) L fun a s L=>?_;obtain ⟨r18,h19,h⟩:=h;refine ra 4 (p1 ((zkb h19).frz)) L fun a s L=>?_;obtain ⟨r20,h21,r22,h23,r24,h25,r26,h27,r28,h29,r30,h31,h⟩:=h;refine wp_seq (rdx 22 (pp (zeb h21) (pp (zo5 h23) (pp (zqz h25) (pp (fun hc_=>((zho (h27 hc_)).frz)) (pp (fun hc_=>((zka (h29 hc_)).frz)) (pp (fun hc_=>(zex (h31 hc_))) trivial)))))) L fun a s L=>?_);refine sA 1 L fun a s L=>?_;refine es ?_;subst h;exact wp_ret (zdp J L J)
def Lv (d:List SNode) (s:List SItem) (l:List (List SItem)):Prop:=∃h,lv d h s=some l
theorem Lv.uniq {d:List SNode} {s:List SItem} {l m:List (List SItem)} (h:Lv d s l) (k:Lv d s m):l=m:=by
 obtain ⟨a,ha⟩:=h;obtain ⟨b,hb⟩:=k;have h1:=zje (Nat.le_max_left a b) ha;have h2:=zje (Nat.le_max_right a b) hb;rw [h1] at h2;exact Option.some.inj h2
theorem Lv.ready {d:List SNode} {s:List SItem} (h:rdy d s=true):Lv d s [s]:=⟨1,by simp [lv,h]⟩
theorem lv_list {d:List SNode}:∀(ss:List (List SItem)) (f:List SItem→List (List SItem)),(∀t∈ss,Lv d t (f t))→∃h,ss.mapM (lv d h)=some (ss.map f)
 | [],_,_=>⟨0,rfl⟩
 | s::ss,f,hs=>by
  obtain ⟨h1,e1⟩:=hs s (by simp);obtain ⟨h2,e2⟩:=lv_list ss f fun t ht=>hs t (by simp [ht]);refine ⟨max h1 h2, ?_⟩;rw [List.mapM_cons,zje (Nat.le_max_left h1 h2) e1,zoc (fun a b hb=>zje (Nat.le_max_right h1 h2) hb) _ _ e2];rfl
theorem Lv.open {d:List SNode} {s:List SItem} (hr:rdy d s=false) (f:List SItem→List (List SItem)) (h:∀t∈opn d s,Lv d t (f t)):Lv d s ((opn d s).map f).flatten:=by
 obtain ⟨k,e⟩:=lv_list _ f h;exact ⟨k+1,by unfold lv;rw [if_neg (by rw [hr];simp),e];rfl⟩
def PM (d:List SNode):Nat→Int→List (List SItem) × Nat
 | 0,_=>([],0)
 | k+1,i=>match at? d i with
  | none=>([],0)
  | some n=>
   if n.1=1 then ([],1)
   else if n.1=3 then ([[(3,i,0,0)]],0)
   else if n.1=4 then ((PM d k n.2.1).1.map (·++[(1,n.2.2.1,0,0)])++(List.replicate (PM d k n.2.1).2 (PM d k n.2.2.1).1).flatten,(PM d k n.2.1).2*(PM d k n.2.2.1).2)
   else if n.1=5 then ((PM d k n.2.1).1++(PM d k n.2.2.1).1,(PM d k n.2.1).2+(PM d k n.2.2.1).2)
   else if n.1=6 then ((PM d k n.2.1).1.map (·++[(1,i,0,0)]),1)
   else if n.1=7 then (if 0<n.2.2.2.2.1 then (PM d k n.2.1).1.map (·++[(2,i,max (n.2.2.2.1-1) 0,n.2.2.2.2.1-1)]) else [],if n.2.2.2.1=0 then 1 else 0)
   else ([[(1,i,0,0)]],0)
theorem zjo {d:List SNode} (hd:ROk d):∀(k k':Nat) (i:Int),i<(k:Int)→i<(k':Int)→PM d k i=PM d k' i
 | 0,k',i,h,h'=>by
  cases k' with
  | zero=>rfl
  | succ k'=>
   have:at? d i=none:=by
    unfold at?;rw [if_neg (by omega)]
   simp [PM,this]
 | k+1,0,i,h,h'=>by
  have:at? d i=none:=by
   unfold at?;rw [if_neg (by omega)]
  simp [PM,this]
 | k+1,k'+1,i,h,h'=>by
  cases hn:at? d i with
  | none=>simp only [PM,hn]
  | some n=>
   simp only [PM,hn]
   by_cases h1:n.1=1
   ·simp [h1]
   ·by_cases h3:n.1=3
    ·simp [h3]
    ·by_cases h4:n.1=4
     ·obtain ⟨⟨a,b⟩,c,e⟩:=hd.two _ n hn (.inl h4);rw [zjo hd k k' n.2.1 (by omega) (by omega),zjo hd k k' n.2.2.1 (by omega) (by omega)]
     ·by_cases h5:n.1=5
      ·obtain ⟨⟨a,b⟩,c,e⟩:=hd.two _ n hn (.inr h5);rw [zjo hd k k' n.2.1 (by omega) (by omega),zjo hd k k' n.2.2.1 (by omega) (by omega)]
      ·by_cases h6:n.1=6
       ·obtain ⟨a,b⟩:=hd.one _ n hn (.inl h6);rw [zjo hd k k' n.2.1 (by omega) (by omega)];simp [h6]
       ·by_cases h7:n.1=7
        ·obtain ⟨a,b⟩:=hd.one _ n hn (.inr (.inl h7));rw [zjo hd k k' n.2.1 (by omega) (by omega)];simp [h7]
        ·simp [h1,h3,h4,h5,h6,h7]
def pm (d:List SNode) (i:Int):List (List SItem):=(PM d d.length i).1
def nw (d:List SNode) (i:Int):Nat:=(PM d d.length i).2
theorem zpn {d:List SNode} (hd:ROk d) {i:Int} {n:SNode} (hn:at? d i=some n):PM d d.length i =
  (if n.1=1 then ([],1)
   else if n.1=3 then ([[(3,i,0,0)]],0)
   else if n.1=4 then ((pm d n.2.1).map (·++[(1,n.2.2.1,0,0)])++(List.replicate (nw d n.2.1) (pm d n.2.2.1)).flatten,nw d n.2.1*nw d n.2.2.1)
   else if n.1=5 then (pm d n.2.1++pm d n.2.2.1,nw d n.2.1+nw d n.2.2.1)
   else if n.1=6 then ((pm d n.2.1).map (·++[(1,i,0,0)]),1)
   else if n.1=7 then (if 0<n.2.2.2.2.1 then (pm d n.2.1).map (·++[(2,i,max (n.2.2.2.1-1) 0,n.2.2.2.2.1-1)]) else [],if n.2.2.2.1=0 then 1 else 0)
   else ([[(1,i,0,0)]],0)):=by
 obtain ⟨hb0,hb1⟩:=zb6 hn;rw [zjo hd d.length (d.length+1) i hb1 (by omega)];simp only [PM,hn,pm,nw]
theorem zkn {d:List SNode} (hd:ROk d):∀(k:Nat) (i:Int) (n:SNode),i<(k:Int)→at? d i=some n→(nw d i≠0↔nz d i=true)
 | 0,i,n,hi,hn=>by have:=zb6 hn;omega
 | k+1,i,n,hi,hn=>by
  have e:=zpn hd hn;have en:nw d i=(PM d d.length i).2:=rfl;rw [en,e,nz_at hd hn]
  by_cases h1:n.1=1
  ·simp [h1]
  ·by_cases h3:n.1=3
   ·simp [h3]
   ·by_cases h4:n.1=4
    ·obtain ⟨⟨a,b⟩,c,e⟩:=hd.two _ n hn (.inl h4);obtain ⟨m1,hm1⟩:=zet hn a b;obtain ⟨m2,hm2⟩:=zet hn c e;have i1:=zkn hd k _ m1 (by omega) hm1;have i2:=zkn hd k _ m2 (by omega) hm2;rw [if_neg h1,if_neg h3,if_pos h4,if_neg h1,if_pos h4,Bool.and_eq_true,← i1,← i2];simp only;rw [Nat.mul_ne_zero_iff]
    ·by_cases h5:n.1=5
     ·obtain ⟨⟨a,b⟩,c,e⟩:=hd.two _ n hn (.inr h5);obtain ⟨m1,hm1⟩:=zet hn a b;obtain ⟨m2,hm2⟩:=zet hn c e;have i1:=zkn hd k _ m1 (by omega) hm1;have i2:=zkn hd k _ m2 (by omega) hm2;rw [if_neg h1,if_neg h3,if_neg h4,if_pos h5,if_neg h1,if_neg h4,if_pos h5,Bool.or_eq_true,← i1,← i2];simp only;omega
     ·by_cases h6:n.1=6
      ·simp [h6]
      ·by_cases h7:n.1=7
       ·by_cases h0:n.2.2.2.1=0 <;> simp [h7,h0]
       ·simp [h1,h3,h4,h5,h6,h7]
def pmI (d:List SNode) (x:SItem):List (List SItem):=
 if x.1=1 then pm d x.2.1
 else if x.1=2 then (match at? d x.2.1 with | some n=>if 0<x.2.2.2 then (pm d n.2.1).map (·++[(2,x.2.1,max (x.2.2.1-1) 0,x.2.2.2-1)]) else [] | none=>[])
 else if x.1=5 then [] else [[x]]
def nwI (d:List SNode) (x:SItem):Nat:=
 if x.1=1 then nw d x.2.1 else if x.1=2 then (if x.2.2.1=0 then 1 else 0) else if x.1=5 then (if x.2.2.1=0 then 1 else 0) else 0
abbrev Told (d:List SNode) (P:List (List SItem)) (m:Nat) (rest:List SItem) (s:List SItem):Prop:=
 ∀lr,(m≠0→Lv d rest lr)→∃l,Lv d s l∧l.Perm (P.map (·++rest)++(List.replicate m lr).flatten)
theorem perm_flat {α:Type} {a b:List α} (h:a.Perm b) (m:Nat):(List.replicate m a).flatten.Perm (List.replicate m b).flatten:=by
 induction m with
 | zero=>exact .refl _
 | succ m ih=>
  rw [List.replicate_succ,List.replicate_succ,List.flatten_cons,List.flatten_cons];exact h.append ih
theorem rep_split {α:Type} (m:Nat) (a b:List α):(List.replicate m (a++b)).flatten.Perm ((List.replicate m a).flatten++(List.replicate m b).flatten):=by
 induction m with
 | zero=>exact .refl _
 | succ m ih=>
  simp only [List.replicate_succ,List.flatten_cons];refine (ih.append_left (a++b)).trans ?_;rw [List.append_assoc,List.append_assoc];refine List.Perm.append_left a ?_;rw [← List.append_assoc,← List.append_assoc];exact (List.perm_append_comm).append_right _
theorem rep_rep {α:Type} (m k:Nat) (a:List α):(List.replicate m (List.replicate k a).flatten).flatten=(List.replicate (m*k) a).flatten:=by
 induction m with
 | zero=>simp
 | succ m ih=>rw [List.replicate_succ,List.flatten_cons,ih,Nat.succ_mul,Nat.add_comm,← List.replicate_append_replicate,List.flatten_append]
theorem rep_map {α β:Type} (f:α→β) (m:Nat) (a:List α):((List.replicate m a).flatten).map f=(List.replicate m (a.map f)).flatten:=by
 rw [List.map_flatten,List.map_replicate]
theorem told_seq {d:List SNode} {P1 P2:List (List SItem)} {m1 m2:Nat} {b:SItem} {rest s:List SItem} (h1:Told d P1 m1 (b::rest) s) (h2:Told d P2 m2 rest (b::rest)):Told d (P1.map (·++[b])++(List.replicate m1 P2).flatten) (m1*m2) rest s:=by
 intro lr hlr;have key:∃lb,(m1≠0→Lv d (b::rest) lb∧lb.Perm (P2.map (·++rest)++(List.replicate m2 lr).flatten)):=by
  by_cases h:m1=0
  ·exact ⟨[],fun k=>absurd h k⟩
  ·obtain ⟨lb,k1,k2⟩:=h2 lr fun k=>hlr (Nat.mul_ne_zero h k);exact ⟨lb,fun _=>⟨k1,k2⟩⟩
 obtain ⟨lb,hlb⟩:=key;obtain ⟨l,k1,k2⟩:=h1 lb fun k=>(hlb k).1;refine ⟨l,k1,k2.trans ?_⟩;have e1:P1.map (·++b::rest)=(P1.map (·++[b])).map (·++rest):=by
  rw [List.map_map];apply List.map_congr_left;intro p _;simp
 rw [e1,List.map_append,List.append_assoc];refine List.Perm.append_left _ ?_
 by_cases h:m1=0
 ·subst h;simp
 ·refine (perm_flat (hlb h).2 m1).trans ?_;refine (rep_split m1 _ _).trans ?_;rw [rep_map,rep_rep]
theorem zod {d:List SNode} {s t:List SItem} (hr:rdy d s=false) (ho:opn d s=[t]) {l:List (List SItem)} (h:Lv d t l):Lv d s l:=by
 have:=Lv.open hr (fun _=>l) (fun x hx=>by rw [ho] at hx;rw [List.mem_singleton.1 hx];exact h);rw [ho] at this;simpa using this
theorem lv_two {d:List SNode} {s t u:List SItem} (hr:rdy d s=false) (ho:opn d s=[t,u]) {l m:List (List SItem)} (h:Lv d t l) (k:Lv d u m):Lv d s (l++m):=by
 by_cases htu:t=u
 ·subst htu;rw [k.uniq h];have:=Lv.open hr (fun _=>l) (fun x hx=>by rw [ho] at hx;simp at hx;rw [hx];exact h);rw [ho] at this;simpa using this
 ·have:=Lv.open hr (fun x=>if x=t then l else m) (fun x hx=>by
   rw [ho] at hx;simp only [List.mem_cons,List.not_mem_nil,or_false] at hx;rcases hx with rfl | rfl
   ·simp;exact h
   ·simp [Ne.symm htu];exact k)
  rw [ho] at this;simpa [Ne.symm htu] using this
theorem lv_none {d:List SNode} {s:List SItem} (hr:rdy d s=false) (ho:opn d s=[]):Lv d s []:=by
 have:=Lv.open hr (fun _=>[]) (fun x hx=>by rw [ho] at hx;cases hx);rw [ho] at this;simpa using this
theorem told_rep {d:List SNode} (hd:ROk d) {i:Int} {n:SNode} (hn:at? d i=some n) (h7:n.1=7) (hA:∀rest,Told d (pm d n.2.1) 0 rest ((1,n.2.1,0,0)::rest)) (lo hi:Int) (rest:List SItem):
  Told d (if 0<hi then (pm d n.2.1).map (·++[(2,i,max (lo-1) 0,hi-1)]) else []) (if lo=0 then 1 else 0) rest ((2,i,lo,hi)::rest):=by
 intro lr hlr;have hr:rdy d ((2,i,lo,hi)::rest)=false:=by simp [rdy]
 have ho:opn d ((2,i,lo,hi)::rest)=(if lo=0 then [rest] else [])++(if 0<hi then [(1,n.2.1,0,0)::(2,i,max (lo-1) 0,hi-1)::rest] else []):=by
  simp only [opn,hn];rw [if_neg (by decide),if_pos trivial]
 obtain ⟨la,ha,hpa⟩:=hA ((2,i,max (lo-1) 0,hi-1)::rest) [] (fun h=>absurd rfl h);have e1:(pm d n.2.1).map (·++(2,i,max (lo-1) 0,hi-1)::rest)=((pm d n.2.1).map (·++[(2,i,max (lo-1) 0,hi-1)])).map (·++rest):=by
  rw [List.map_map];apply List.map_congr_left;intro p _;simp
 rw [e1] at hpa;simp only [List.replicate_zero,List.flatten_nil,List.append_nil] at hpa
 by_cases h0:lo=0
 ·have hL:=hlr (by simp [h0])
  by_cases h1:0<hi
  ·refine ⟨_,lv_two hr (by rw [ho,if_pos h0,if_pos h1];rfl) hL ha, ?_⟩;rw [if_pos h1,if_pos h0];simp only [List.replicate_one,List.flatten_cons,List.flatten_nil,List.append_nil];exact (List.perm_append_comm).trans (hpa.append_right _)
  ·refine ⟨_,zod hr (by rw [ho,if_pos h0,if_neg h1];rfl) hL, ?_⟩;rw [if_neg h1,if_pos h0];simp
 ·by_cases h1:0<hi
  ·refine ⟨_,zod hr (by rw [ho,if_neg h0,if_pos h1];rfl) ha, ?_⟩;rw [if_pos h1,if_neg h0];simpa using hpa
  ·refine ⟨_,lv_none hr (by rw [ho,if_neg h0,if_neg h1];rfl), ?_⟩;rw [if_neg h1,if_neg h0];simp
theorem znk {d:List SNode} (hd:ROk d):∀(k:Nat) (i:Int) (n:SNode),i<(k:Int)→at? d i=some n→∀rest,Told d (pm d i) (nw d i) rest ((1,i,0,0)::rest)
 | 0,i,n,hi,hn,_=>by have:=zb6 hn;omega
 | k+1,i,n,hi,hn,rest=>by
  have ih:=znk hd k;have e:=zpn hd hn;have ep:pm d i=(PM d d.length i).1:=rfl;have en:nw d i=(PM d d.length i).2:=rfl;rw [ep,en,e];have hk9:=hd.kind _ n hn;have rd0:(n.1≠2∧n.1≠8∧n.1≠9)→rdy d ((1,i,0,0)::rest)=false:=fun h=>by
   simp only [rdy,hn];simp [h.1,h.2.1,h.2.2]
  have op0:opn d ((1,i,0,0)::rest)=(if n.1=1 then [rest] else if n.1=3 then [(3,i,0,0)::rest] else if n.1=4 then [(1,n.2.1,0,0)::(1,n.2.2.1,0,0)::rest] else if n.1=5 then [(1,n.2.1,0,0)::rest,(1,n.2.2.1,0,0)::rest]
    else if n.1=6 then [rest,(1,n.2.1,0,0)::(1,i,0,0)::rest] else [(2,i,n.2.2.2.1,n.2.2.2.2.1)::rest]):=by
   simp only [opn,hn];rw [if_neg (by decide),if_neg (by decide)]
  have z0:∀a:Int,0≤a→a<i→nz d a=false→nw d a=0:=fun a h0 h1 hz=>by
   obtain ⟨m,hm⟩:=zet hn h0 h1;rcases Nat.eq_zero_or_pos (nw d a) with h | h
   ·exact h
   ·have:=(zkn hd k a m (by omega) hm).1 (by omega);rw [hz] at this;cases this
  by_cases h1:n.1=1
  ·rw [if_pos h1];intro lr hlr;refine ⟨lr,zod (rd0 (by omega)) (by rw [op0,if_pos h1]) (hlr (by simp)),by simp⟩
  ·rw [if_neg h1] at op0 ⊢
   by_cases h3:n.1=3
   ·rw [if_pos h3] at op0 ⊢;intro lr hlr;exact ⟨_,zod (rd0 (by omega)) op0 (Lv.ready (by simp [rdy])),by simp⟩
   ·rw [if_neg h3] at op0 ⊢
    by_cases h4:n.1=4
    ·rw [if_pos h4] at op0 ⊢;obtain ⟨⟨a,b⟩,c,e⟩:=hd.two _ n hn (.inl h4);obtain ⟨m1,hm1⟩:=zet hn a b;obtain ⟨m2,hm2⟩:=zet hn c e;have:=told_seq (ih _ m1 (by omega) hm1 ((1,n.2.2.1,0,0)::rest)) (ih _ m2 (by omega) hm2 rest);intro lr hlr;obtain ⟨l,k1,k2⟩:=this lr hlr;exact ⟨l,zod (rd0 (by omega)) op0 k1,k2⟩
    ·rw [if_neg h4] at op0 ⊢
     by_cases h5:n.1=5
     ·rw [if_pos h5] at op0 ⊢;obtain ⟨⟨a,b⟩,c,e⟩:=hd.two _ n hn (.inr h5);obtain ⟨m1,hm1⟩:=zet hn a b;obtain ⟨m2,hm2⟩:=zet hn c e;intro lr hlr;simp only at hlr;obtain ⟨l1,k1,k2⟩:=ih _ m1 (by omega) hm1 rest lr fun h=>hlr (by omega);obtain ⟨l2,k3,k4⟩:=ih _ m2 (by omega) hm2 rest lr fun h=>hlr (by omega);refine ⟨_,lv_two (rd0 (by omega)) op0 k1 k3,(k2.append k4).trans ?_⟩;rw [List.map_append,← List.replicate_append_replicate,List.flatten_append,List.append_assoc,List.append_assoc];refine List.Perm.append_left _ ?_;rw [← List.append_assoc,← List.append_assoc];exact (List.perm_append_comm).append_right _
     ·rw [if_neg h5] at op0 ⊢
      by_cases h6:n.1=6
      ·rw [if_pos h6] at op0 ⊢;obtain ⟨a,b⟩:=hd.one _ n hn (.inl h6);obtain ⟨m1,hm1⟩:=zet hn a b;have hz:=z0 _ a b (hd.nn _ n hn (.inl h6));intro lr hlr;have hA:=ih _ m1 (by omega) hm1 ((1,i,0,0)::rest) [] (fun h=>absurd hz h);obtain ⟨l1,k1,k2⟩:=hA;refine ⟨_,lv_two (rd0 (by omega)) op0 (hlr (by simp)) k1, ?_⟩;rw [hz] at k2;have e1:(pm d n.2.1).map (·++(1,i,0,0)::rest)=((pm d n.2.1).map (·++[(1,i,0,0)])).map (·++rest):=by
        rw [List.map_map];apply List.map_congr_left;intro p _;simp
       rw [e1] at k2;simp only [List.replicate_zero,List.flatten_nil,List.append_nil] at k2;simp only [List.replicate_one,List.flatten_cons,List.flatten_nil,List.append_nil];exact (List.perm_append_comm).trans (k2.append_right _)
      ·rw [if_neg h6] at op0 ⊢
       by_cases h7:n.1=7
       ·rw [if_pos h7];obtain ⟨a,b⟩:=hd.one _ n hn (.inr (.inl h7));obtain ⟨m1,hm1⟩:=zet hn a b;have hz:=z0 _ a b (hd.nn _ n hn (.inr h7));have:=told_rep hd hn h7 (fun rest=>by have:=ih _ m1 (by omega) hm1 rest;rw [hz] at this;exact this) n.2.2.2.1 n.2.2.2.2.1 rest;intro lr hlr;obtain ⟨l,k1,k2⟩:=this lr hlr;exact ⟨l,zod (rd0 (by omega)) op0 k1,k2⟩
       ·rw [if_neg h7];intro lr hlr;refine ⟨_,Lv.ready ?_,by simp⟩;simp only [rdy,hn];have:n.1=2∨n.1=8∨n.1=9:=by omega
        rcases this with h | h | h <;> simp [h]
theorem told_item {d:List SNode} (hd:ROk d) {x:SItem} (hx:ze7 d x=true) (rest:List SItem):Told d (pmI d x) (nwI d x) rest (x::rest):=by
 by_cases h5:x.1=5
 ·have e1:pmI d x=[]:=by simp [pmI,h5]
  have e2:nwI d x=if x.2.2.1=0 then 1 else 0:=by simp [nwI,h5]
  rw [e1,e2];intro lr hlr;have hr:rdy d (x::rest)=false:=by simp [rdy,h5]
  by_cases h0:x.2.2.1=0
  ·rw [if_pos h0] at hlr ⊢;refine ⟨lr,zod hr (by simp [opn,h5,h0]) (hlr (by simp)),by simp⟩
  ·rw [if_neg h0];exact ⟨_,lv_none hr (by simp [opn,h5,h0]),by simp⟩
 ·obtain ⟨n,hn,hk⟩:=zf8 hx h5;rcases hk with h1 | ⟨h2,h7⟩ | ⟨h3,_⟩ | ⟨h4,_⟩
  ·have e:x=(1,x.2.1,0,0):=by
    unfold ze7 at hx;rw [if_neg h5,hn] at hx;simp [h1] at hx;obtain ⟨a,b,c,e⟩:=x;simp only at h1 hx;rw [h1,hx.1,hx.2]
   have e1:pmI d x=pm d x.2.1:=by simp [pmI,h1]
   have e2:nwI d x=nw d x.2.1:=by simp [nwI,h1]
   have:=zb6 hn;rw [e1,e2];have ht:=znk hd d.length _ n (by omega) hn rest;rw [← e] at ht;exact ht
  ·have e1:pmI d x=if 0<x.2.2.2 then (pm d n.2.1).map (·++[(2,x.2.1,max (x.2.2.1-1) 0,x.2.2.2-1)]) else []:=by simp [pmI,h2,hn]
   have e2:nwI d x=if x.2.2.1=0 then 1 else 0:=by simp [nwI,h2]
   rw [e1,e2];obtain ⟨a,b⟩:=hd.one _ n hn (.inr (.inl h7));obtain ⟨m1,hm1⟩:=zet hn a b;have hb:=zb6 hn;have hz:nw d n.2.1=0:=by
    rcases Nat.eq_zero_or_pos (nw d n.2.1) with h | h
    ·exact h
    ·have:=(zkn hd d.length _ m1 (by omega) hm1).1 (by omega);rw [hd.nn _ n hn (.inr h7)] at this;cases this
   have:=told_rep hd hn h7 (fun rest=>by have:=znk hd d.length _ m1 (by omega) hm1 rest;rw [hz] at this;exact this) x.2.2.1 x.2.2.2 rest;obtain ⟨xk,xi,xl,xh⟩:=x;simp only at h2;subst h2;exact this
  ·have e1:pmI d x=[[x]]:=by simp [pmI,h3]
   have e2:nwI d x=0:=by simp [nwI,h3]
   rw [e1,e2];intro lr _;exact ⟨_,Lv.ready (by simp [rdy,h3]),by simp⟩
  ·have e1:pmI d x=[[x]]:=by simp [pmI,h4]
   have e2:nwI d x=0:=by simp [nwI,h4]
   rw [e1,e2];intro lr _;exact ⟨_,Lv.ready (by simp [rdy,h4]),by simp⟩
def hds (d:List SNode):List SItem→List (List SItem)
 | []=>[[]]
 | x::rest=>(pmI d x).map (·++rest)++(List.replicate (nwI d x) (hds d rest)).flatten
theorem hds_lv {d:List SNode} (hd:ROk d):∀(s:List SItem),zeh d s=true→∃l,Lv d s l∧l.Perm (hds d s)
 | [],_=>⟨[[]],Lv.ready rfl,.refl _⟩
 | x::rest,hf=>by
  obtain ⟨h1,h2⟩:=zd1 hf;obtain ⟨lr,k1,k2⟩:=hds_lv hd rest h2;obtain ⟨l,k3,k4⟩:=told_item hd h1 rest lr fun _=>k1;exact ⟨l,k3,k4.trans (List.Perm.append_left _ (perm_flat k2 _))⟩
theorem exl {ρ:Type} {γ:Sort _} {P:γ→ρ→Prop} (c:γ) (h:∃r,P c r):∃r,∃c,P c r:=let ⟨r,h⟩:=h;⟨r,c,h⟩
theorem zm2 {ρ:Type} {A:Prop} {B:ρ→Prop} (a:A) (h:∃r,B r):∃r,A∧B r:=let ⟨r,h⟩:=h;⟨r,a,h⟩
theorem pick {ρ:Type} [Inhabited ρ] {b:Bool} {X Y:ρ→Prop} (h1:b=true→∃r,X r) (h2:b=false→∃r,Y r):∃r,(b=true→X r)∧(b=false→Y r):=by
 cases b
 ·obtain ⟨r,h⟩:=h2 rfl;exact ⟨r,(fun h=>by cases h),fun _=>h⟩
 ·obtain ⟨r,h⟩:=h1 rfl;exact ⟨r,fun _=>h,(fun h=>by cases h)⟩
def sumT (l:List SNode):Nat:=(l.map fun n=>n.2.2.2.2.2.2.length).sum
theorem sumT_le {l:List SNode} (h:∀n∈l,n.2.2.2.2.2.2.length≤140737488351232):sumT l≤l.length*140737488351232:=by
 induction l with
 | nil=>simp [sumT]
 | cons x l ih=>
  have h1:=h x (by simp);have h2:=ih fun n hn=>h n (by simp [hn]);simp only [sumT,List.map_cons,List.sum_cons,List.length_cons] at h2 ⊢;omega
theorem few_ex {d:List SNode} (ht:∀n∈d,n.2.2.2.2.2.2.length≤140737488351232):∃r,zdc d r∧(r=true→d.length≤100):=by
 refine ⟨decide ((d.length:Int)≤100)&&decide (((sumT (d.take (min d.length 200)):Nat):Int)≤2000), ?_,fun h=>?_⟩
 ·refine zgf (P:=fun k (s:Int) v=>zdc.l1 d _ k s v) (min d.length 200) (fun i s=>s=((sumT (d.take i):Nat):Int)) ?_ ?_ _ (by simp [sumT])
  ·rintro i s hi rfl;have hd:i<d.length:=by omega
   have h1:=sumT_le (l:=d.take i) fun n hn=>ht n (List.mem_of_mem_take hn);have h2:=ht _ (List.getElem_mem hd);have h3:(d.take i).length=i:=by simp;omega
   rw [h3] at h1;have h4:i*140737488351232≤200*140737488351232:=Nat.mul_le_mul_right _ (by omega);have e:sumT (d.take (i+1))=sumT (d.take i)+d[i].2.2.2.2.2.2.length:=by
    unfold sumT;rw [List.take_succ_eq_append_getElem hd,List.map_append,List.sum_append];simp only [List.map_cons,List.map_nil,List.sum_cons,List.sum_nil,Nat.add_zero]
   refine .inr ⟨_,rfl,fun k h=>⟨true,by simp;omega,fun _=>⟨d[i],by rw [zb2];simp [hd],zj (by omega) (by omega),zj (by omega) (by omega), ?_⟩,(fun h=>by cases h)⟩⟩;rw [e] at h;simpa using h
  ·rintro s rfl k;exact ⟨false,by simp;omega,(fun h=>by cases h),fun _=>⟨_,rfl,rfl⟩⟩
 ·simp only [Bool.and_eq_true,decide_eq_true_eq] at h;omega
theorem byte_in {s:Str} {i:Int} (h0:0≤i) (h1:i<(s.length:Int)):∃c,zei s i=some c:=by
 obtain ⟨x,hx,_⟩:=zot h0 h1;exact ⟨_,by unfold zei;rw [hx];rfl⟩
theorem in_ex (s:Str) {i:Int} (f t:Int) (h0:0≤i):∃r,zfz s i f t r:=by
 by_cases h1:i<(s.length:Int)
 ·obtain ⟨c,hc⟩:=byte_in h0 h1;exact ⟨_,c,fun _=>hc,_,rfl,c,fun _=>hc,rfl⟩
 ·exact ⟨_,0,fun h=>absurd (dt h) h1,_,rfl,0,fun h=>absurd h (by simp [h1]),rfl⟩
theorem utf8_ex {s:Str} (hl:s.length≤140737488351232):∃r,zbq s r:=by
 have key:∀(m:Nat) (i:Int),0≤i→(s.length:Int)+4-i≤m→i≤(s.length:Int)+4→∃q:Bool × Nat,zbq.l1 s q.1 (zbq.j1 q.1) q.2 i:=by
  intro m
  induction m with
  | zero=>
   intro i h0 h1 h2;exact ⟨(true,1),fun h=>absurd (dt h) (by omega),fun _=>rfl⟩
  | succ m ih=>
   intro i h0 h1 h2
   suffices h:∃q:Bool × Nat,zbq.l1 s q.1 (zbq.j1 q.1) (q.2+1) i by
    obtain ⟨q,hq⟩:=h;exact ⟨(q.1,q.2+1),hq⟩
   unfold zbq.l1;refine pick (fun hd=>?_) (fun hd=>⟨(true,0),rfl⟩);have hlt:=dt hd;obtain ⟨c,hc⟩:=byte_in h0 hlt;obtain ⟨r17,h17⟩:=in_ex s (i:=i+1) 128 191 (by omega);obtain ⟨r21,h21⟩:=in_ex s (i:=i+2) 128 191 (by omega);obtain ⟨r25,h25⟩:=in_ex s (i:=i+3) 128 191 (by omega);obtain ⟨r35,h35⟩:=in_ex s (i:=i+1) 160 191 (by omega);obtain ⟨r44,h44⟩:=in_ex s (i:=i+1) 128 159 (by omega);obtain ⟨r49,h49⟩:=in_ex s (i:=i+1) 144 191 (by omega);obtain ⟨r58,h58⟩:=in_ex s (i:=i+1) 128 143 (by omega);have i1:InR .i64 (i+1):=zj (by omega) (by omega);have i2:InR .i64 (i+2):=zj (by omega) (by omega);have i3:InR .i64 (i+3):=zj (by omega) (by omega);have i4:InR .i64 (i+4):=zj (by omega) (by omega);have g1:=ih (i+1) (by omega) (by omega) (by omega);have g2:=ih (i+2) (by omega) (by omega) (by omega);have g3:=ih (i+3) (by omega) (by omega) (by omega);have g4:=ih (i+4) (by omega) (by omega) (by omega);refine exl c (zm2 hc (zm2 i1 (exl r17 (zm2 h17 (zm2 i2 (exl r21 (zm2 h21 (zm2 i3 (exl r25 (zm2 h25 (pick (fun _=>zm2 i1 g1) (fun _=>?_))))))))))));refine exl _ (zm2 rfl (pick (fun _=>zm2 i2 g2) (fun _=>?_)));refine zm2 (fun _=>i1) (exl r35 (zm2 (fun _=>h35) (pick (fun _=>zm2 i3 g3) (fun _=>?_))));refine exl _ (zm2 rfl (pick (fun _=>zm2 i3 g3) (fun _=>?_)));refine zm2 (fun _=>i1) (exl r44 (zm2 (fun _=>h44) (pick (fun _=>zm2 i3 g3) (fun _=>?_))));refine zm2 (fun _=>i1) (exl r49 (zm2 (fun _=>h49) (pick (fun _=>zm2 i4 g4) (fun _=>?_))));refine exl _ (zm2 rfl (pick (fun _=>zm2 i4 g4) (fun _=>?_)));refine zm2 (fun _=>i1) (exl r58 (zm2 (fun _=>h58) (pick (fun _=>zm2 i4 g4) (fun _=>?_))))
   exact ⟨(false,0),rfl⟩
 obtain ⟨q,hq⟩:=key (s.length+4) 0 (by omega) (by omega) (by omega);exact ⟨q.1,q.2,hq⟩
theorem text_ex {s:Str} (hl:s.length≤140737488351232):∃r,zcw s r∧(r=true→s≠[]):=by
 obtain ⟨u,hu⟩:=utf8_ex hl;have tne:∀u:Bool,(decide (0<(s.length:Int))&&u)=true→s≠[]:=fun u h e=>by subst e;simp at h
 have key:∀(m:Nat) (i:Int),0≤i→(s.length:Int)-i≤m→i≤(s.length:Int)→∃q:Bool × Nat,zcw.l1 s q.1 (zcw.j1 s q.1) q.2 i∧(q.1=true→s≠[]):=by
  intro m
  induction m with
  | zero=>
   intro i h0 h1 h2;exact ⟨(decide (0<(s.length:Int))&&u,1),⟨fun h=>absurd (dt h) (by omega),fun _=>⟨u,fun _=>hu,rfl⟩⟩,tne u⟩
  | succ m ih=>
   intro i h0 h1 h2
   by_cases hlt:i<(s.length:Int)
   ·obtain ⟨c,hc⟩:=byte_in h0 hlt
    by_cases h34:c=34
    ·exact ⟨(false,1),⟨fun _=>⟨c,hc,fun _=>rfl,fun h=>by simp [h34] at h⟩,fun h=>absurd hlt (df h)⟩,(fun h=>by cases h)⟩
    ·obtain ⟨q,hq,hq2⟩:=ih (i+1) (by omega) (by omega) (by omega);exact ⟨(q.1,q.2+1),⟨fun _=>⟨c,hc,fun h=>by simp at h;exact absurd h h34,fun _=>⟨zj (by omega) (by omega),hq⟩⟩,fun h=>absurd hlt (df h)⟩,hq2⟩
   ·exact ⟨(decide (0<(s.length:Int))&&u,1),⟨fun h=>absurd (dt h) hlt,fun _=>⟨u,fun _=>hu,rfl⟩⟩,tne u⟩
 obtain ⟨q,hq,hq2⟩:=key s.length 0 (by omega) (by omega) (by omega);exact ⟨q.1,⟨q.2,hq⟩,hq2⟩
inductive Tr (l:List SNode):Int→Int→Prop
 | leaf {i:Int} {e:SNode} (he:at? l i=some e) (hk:e.1=1∨e.1=2∨e.1=3) (hx:e.1=3→e.2.2.2.2.2.2≠[]) (h0:e.2.1=0∧e.2.2.1=0):Tr l i i
 | one {f i:Int} {e:SNode} (he:at? l i=some e) (hk:e.1=6∨e.1=7∨e.1=8∨e.1=9) (ha:e.2.1=i-1) (hb:e.2.2.1=0) (hr:e.1=7→0≤e.2.2.2.1∧e.2.2.2.1≤e.2.2.2.2.1∧e.2.2.2.2.1≤255) (h:Tr l f (i-1)):Tr l f i
 | two {f p i:Int} {e:SNode} (he:at? l i=some e) (hk:e.1=4∨e.1=5) (ha:e.2.1=p-1) (hb:e.2.2.1=i-1) (h1:Tr l p (i-1)) (h2:Tr l f (p-1)):Tr l f i
theorem Tr.le {l:List SNode} {f i:Int} (h:Tr l f i):0≤f∧f≤i:=by
 induction h with
 | leaf he _ _ _=>exact ⟨(zb6 he).1,Int.le_refl _⟩
 | one _ _ _ _ _ _ ih=>omega
 | two _ _ _ _ _ _ i1 i2=>omega
theorem Tr.lt {l:List SNode} {f i:Int} (h:Tr l f i):i<(l.length:Int):=by
 cases h with
 | leaf he _ _ _=>exact (zb6 he).2
 | one he _ _ _ _ _=>exact (zb6 he).2
 | two he _ _ _ _ _=>exact (zb6 he).2
theorem Tr.sub {l:List SNode} {f i:Int} (h:Tr l f i):∀k,f≤k→k≤i→∃g,Tr l g k∧f≤g:=by
 induction h with
 | leaf he hk hx h0=>
  rename_i i e
  intro k h1 h2;obtain rfl:k=i:=by omega
  exact ⟨k,.leaf he hk hx h0,Int.le_refl _⟩
 | one he hk ha hb hr h ih=>
  rename_i f i e
  intro k h1 h2
  by_cases hki:k=i
  ·subst hki;exact ⟨f,.one he hk ha hb hr h,Int.le_refl _⟩
  ·exact ih k h1 (by omega)
 | two he hk ha hb h1 h2 i1 i2=>
  rename_i f p i e
  intro k k1 k2;have l1:=h1.le;have l2:=h2.le
  by_cases hki:k=i
  ·subst hki;exact ⟨f,.two he hk ha hb h1 h2,Int.le_refl _⟩
  ·by_cases hkp:p≤k
   ·obtain ⟨g,g1,g2⟩:=i1 k hkp (by omega);exact ⟨g,g1,by omega⟩
   ·exact i2 k k1 (by omega)
def zms (l:List SNode) (i r:Int):Prop:=r = -1∨Tr l r i
theorem first_ex {l:List SNode} (hl:l.length≤1000) (ht:∀n∈l,n.2.2.2.2.2.2.length≤140737488351232):∀(m:Nat) (i:Int),i<(m:Int)→-1≤i→i<(l.length:Int)→∃r,zz.n (m+1) l i r∧zms l i r:=by
 intro m
 induction m with
 | zero=>
  intro i h1 h2 h3;exact ⟨-1,⟨fun _=>rfl,fun h=>absurd (by omega) (df h)⟩,.inl rfl⟩
 | succ m ih=>
  intro i h1 h2 h3
  by_cases h0:i<0
  ·exact ⟨-1,⟨fun _=>rfl,fun h=>absurd h0 (df h)⟩,.inl rfl⟩
  ·obtain ⟨e,he,hm⟩:=zot (xs:=l) (i:=i) (by omega) h3;have i1:InR .i64 (i-1):=zj (by omega) (by omega);obtain ⟨p,hp,hpo⟩:=ih (i-1) (by omega) (by omega) (by omega);have one:∀w:SNode,(e=w→w.2.1=i-1∧(w.1=6∨w.1=7∨w.1=8∨w.1=9)∧(w.1=7→0≤w.2.2.2.1∧w.2.2.2.1≤w.2.2.2.2.1∧w.2.2.2.2.1≤255)∧w.2.2.1=0)→∃r,zz.j1 (zz.n (m+1)) l i r e w∧zms l i r:=by
    intro w hw
    by_cases hew:e=w
    ·refine ⟨p,⟨i1,p,hp,fun h=>by simp [hew] at h,fun _=>rfl⟩, ?_⟩;rcases hpo with rfl | p0
     ·exact .inl rfl
     ·obtain ⟨w1,w2,w3,w4⟩:=hw hew;exact .inr (.one he (by rw [hew];exact w2) (by rw [hew];exact w1) (by rw [hew];exact w4) (by rw [hew];exact w3) p0)
    ·exact ⟨-1,⟨i1,p,hp,fun _=>rfl,fun h=>by simp at h;exact absurd h hew⟩,.inl rfl⟩
   have two:(e.1=4∨e.1=5)→∃r,zz.j2 (zz.n (m+1)) l i r e true∧zms l i r:=by
    intro hk
    by_cases hp0:p<0
    ·exact ⟨-1,⟨fun _=>⟨i1,i1,p,hp,fun _=>rfl,fun h=>absurd hp0 (df h)⟩,(fun h=>by cases h)⟩,.inl rfl⟩
    ·have htr:Tr l p (i-1):=by
      rcases hpo with rfl | h
      ·omega
      ·exact h
     have p1:=htr.le;obtain ⟨q,hq,hqo⟩:=ih (p-1) (by omega) (by omega) (by omega);have j1:InR .i64 (p-1):=zj (by omega) (by omega)
     by_cases hew:e=(e.1,p-1,i-1,0,0,(0#256),([]:Str))
     ·refine ⟨q,⟨fun _=>⟨i1,i1,p,hp,fun h=>absurd (dt h) hp0,fun _=>⟨j1,j1,q,hq,false, ?_,(fun h=>by cases h),fun _=>rfl⟩⟩,(fun h=>by cases h)⟩, ?_⟩
      ·have:(e != (e.1,p-1,i-1,0,0,(0#256),([]:Str)))=false:=by rw [← hew];simp
       exact this.symm
      ·rcases hqo with rfl | q0
       ·exact .inl rfl
       ·exact .inr (.two he hk (by rw [hew]) (by rw [hew]) htr q0)
     ·refine ⟨-1,⟨fun _=>⟨i1,i1,p,hp,fun h=>absurd (dt h) hp0,fun _=>⟨j1,j1,q,hq,true, ?_,fun _=>rfl,(fun h=>by cases h)⟩⟩,(fun h=>by cases h)⟩,.inl rfl⟩;exact (bne_iff_ne.2 hew).symm
   have three:(e.1=6∨e.1=7∨e.1=8∨e.1=9)→∃r,zz.j3 (zz.n (m+1)) l i r e true∧zms l i r:=by
    intro hk
    by_cases h7:e.1=7
    ·by_cases hb:((decide (e.2.2.2.1<0))||(decide (e.2.2.2.2.1<e.2.2.2.1))||(decide (255<e.2.2.2.2.1)))=true
     ·exact ⟨-1,⟨fun _=>⟨i1,fun _=>⟨_,rfl,fun _=>rfl,fun h=>by rw [hb] at h;cases h⟩,fun h=>by simp [h7] at h⟩,(fun h=>by cases h)⟩,.inl rfl⟩
     ·obtain ⟨r,hr1,hr2⟩:=one (e.1,i-1,0,e.2.2.2.1,e.2.2.2.2.1,(0#256),([]:Str)) fun _=>⟨rfl,hk,fun _=>by
       simp only [Bool.or_eq_true,decide_eq_true_eq,not_or] at hb;exact ⟨by show (0:Int)≤e.2.2.2.1;omega,by show e.2.2.2.1≤e.2.2.2.2.1;omega,by show e.2.2.2.2.1≤255;omega⟩,rfl⟩
      exact ⟨r,⟨fun _=>⟨i1,fun _=>⟨_,rfl,fun h=>absurd h hb,fun _=>hr1⟩,fun h=>by simp [h7] at h⟩,(fun h=>by cases h)⟩,hr2⟩
    ·obtain ⟨r,hr1,hr2⟩:=one (e.1,i-1,0,0,0,(0#256),([]:Str)) fun _=>⟨rfl,hk,fun h=>absurd h h7,rfl⟩;exact ⟨r,⟨fun _=>⟨i1,fun h=>by simp at h;exact absurd h h7,fun _=>hr1⟩,(fun h=>by cases h)⟩,hr2⟩
   have ne:∀{a b:Int},a≠b→(a==b)=true→False:=fun h k=>h (eq_of_beq k);have last:∀b:Bool,(b=true↔e.1=9)→e.1≠6→e.1≠7→e.1≠8→∃r,zz.j3 (zz.n (m+1)) l i r e b∧zms l i r:=by
    intro b hb n6 n7 n8;cases b
    ·have n9:e.1≠9:=fun h=>by have:=hb.2 h;cases this
     by_cases h4:e.1=4
     ·obtain ⟨r,hr1,hr2⟩:=two (.inl h4);exact ⟨r,⟨(fun h=>by cases h),fun _=>⟨fun h=>by rw [h];exact hr1,fun h=>by simp [h4] at h⟩⟩,hr2⟩
     ·by_cases h5:e.1=5
      ·obtain ⟨r,hr1,hr2⟩:=two (.inr h5);have e5:(e.1==5)=true:=by simp [h5]
       exact ⟨r,⟨(fun h=>by cases h),fun _=>⟨fun h=>by simp at h;exact absurd h h4,fun _=>by rw [e5];exact hr1⟩⟩,hr2⟩
      ·have e5:(e.1==5)=false:=by simp [h5]
       exact ⟨-1,⟨(fun h=>by cases h),fun _=>⟨fun h=>by simp at h;exact absurd h h4,fun _=>by rw [e5];exact ⟨(fun h=>by cases h),fun _=>rfl⟩⟩⟩,.inl rfl⟩
    ·exact three (.inr (.inr (.inr (hb.1 rfl))))
   suffices h:∃r,(∃e6:SNode,at? l i=some e6∧_)∧zms l i r by
    obtain ⟨r,hr,ho⟩:=h;exact ⟨r,⟨fun h=>absurd (dt h) h0,fun _=>hr⟩,ho⟩
   by_cases k1:e.1=1
   ·by_cases hw:e=(e.1,0,0,0,0,(0#256),([]:Str))
    ·exact ⟨i,⟨e,he,fun _=>⟨fun h=>by rw [← hw] at h;simp at h,fun _=>rfl⟩,fun h=>by simp [k1] at h⟩,.inr (.leaf he (.inl k1) (fun h=>by omega) ⟨by rw [hw],by rw [hw]⟩)⟩
    ·exact ⟨-1,⟨e,he,fun _=>⟨fun _=>rfl,fun h=>by simp at h;exact absurd h hw⟩,fun h=>by simp [k1] at h⟩,.inl rfl⟩
   ·by_cases k2:e.1=2
    ·by_cases hw:e=(e.1,0,0,0,0,e.2.2.2.2.2.1,([]:Str))
     ·exact ⟨i,⟨e,he,fun h=>(ne k1 h).elim,fun _=>⟨fun _=>⟨false,by rw [← hw];simp,(fun h=>by cases h),fun _=>rfl⟩,fun h=>by simp [k2] at h⟩⟩,.inr (.leaf he (.inr (.inl k2)) (fun h=>by omega) ⟨by rw [hw],by rw [hw]⟩)⟩
     ·exact ⟨-1,⟨e,he,fun h=>(ne k1 h).elim,fun _=>⟨fun _=>⟨true,(bne_iff_ne.2 hw).symm,fun _=>rfl,(fun h=>by cases h)⟩,fun h=>by simp [k2] at h⟩⟩,.inl rfl⟩
    ·by_cases k3:e.1=3
     ·obtain ⟨t,htx,htn⟩:=text_ex (ht e hm);cases t
      ·exact ⟨-1,⟨e,he,fun h=>(ne k1 h).elim,fun _=>⟨fun h=>(ne k2 h).elim,fun _=>⟨fun _=>⟨false,htx,fun _=>rfl,(fun h=>by cases h)⟩,fun h=>by simp [k3] at h⟩⟩⟩,.inl rfl⟩
      ·by_cases hw:e=(e.1,0,0,0,0,(0#256),e.2.2.2.2.2.2)
       ·exact ⟨i,⟨e,he,fun h=>(ne k1 h).elim,fun _=>⟨fun h=>(ne k2 h).elim,fun _=>⟨fun _=>⟨true,htx,(fun h=>by cases h),fun _=>⟨false,by rw [← hw];simp,(fun h=>by cases h),fun _=>rfl⟩⟩,fun h=>by simp [k3] at h⟩⟩⟩,.inr (.leaf he (.inr (.inr k3)) (fun _=>htn rfl) ⟨by rw [hw],by rw [hw]⟩)⟩
       ·exact ⟨-1,⟨e,he,fun h=>(ne k1 h).elim,fun _=>⟨fun h=>(ne k2 h).elim,fun _=>⟨fun _=>⟨true,htx,(fun h=>by cases h),fun _=>⟨true,(bne_iff_ne.2 hw).symm,fun _=>rfl,(fun h=>by cases h)⟩⟩,fun h=>by simp [k3] at h⟩⟩⟩,.inl rfl⟩
     ·by_cases k6:e.1=6
      ·obtain ⟨r,hr1,hr2⟩:=three (.inl k6);exact ⟨r,⟨e,he,fun h=>(ne k1 h).elim,fun _=>⟨fun h=>(ne k2 h).elim,fun _=>⟨fun h=>(ne k3 h).elim,fun _=>⟨fun h=>by rw [h];exact hr1,fun h=>by simp [k6] at h⟩⟩⟩⟩,hr2⟩
      ·by_cases k7:e.1=7
       ·obtain ⟨r,hr1,hr2⟩:=three (.inr (.inl k7));exact ⟨r,⟨e,he,fun h=>(ne k1 h).elim,fun _=>⟨fun h=>(ne k2 h).elim,fun _=>⟨fun h=>(ne k3 h).elim,fun _=>⟨fun h=>(ne k6 h).elim,fun _=>⟨fun h=>by rw [h];exact hr1,fun h=>by simp [k7] at h⟩⟩⟩⟩⟩,hr2⟩
       ·by_cases k8:e.1=8
        ·obtain ⟨r,hr1,hr2⟩:=three (.inr (.inr (.inl k8)));exact ⟨r,⟨e,he,fun h=>(ne k1 h).elim,fun _=>⟨fun h=>(ne k2 h).elim,fun _=>⟨fun h=>(ne k3 h).elim,fun _=>⟨fun h=>(ne k6 h).elim,fun _=>⟨fun h=>(ne k7 h).elim,fun _=>⟨fun h=>by rw [h];exact hr1,fun h=>by simp [k8] at h⟩⟩⟩⟩⟩⟩,hr2⟩
        ·obtain ⟨r,hr1,hr2⟩:=last (e.1==9) beq_iff_eq k6 k7 k8;exact ⟨r,⟨e,he,fun h=>(ne k1 h).elim,fun _=>⟨fun h=>(ne k2 h).elim,fun _=>⟨fun h=>(ne k3 h).elim,fun _=>⟨fun h=>(ne k6 h).elim,fun _=>⟨fun h=>(ne k7 h).elim,fun _=>⟨fun h=>(ne k8 h).elim,fun _=>hr1⟩⟩⟩⟩⟩⟩,hr2⟩
theorem form_ex {d:List SNode} (hl:d.length≤1000) (ht:∀n∈d,n.2.2.2.2.2.2.length≤140737488351232):∃r,zjx d r∧(r=true→Tr d 0 ((d.length:Int)-1)):=by
 obtain ⟨r,hr,ho⟩:=first_ex hl ht d.length ((d.length:Int)-1) (by omega) (by omega) (by omega);refine ⟨_,⟨fun _=>zj (by omega) (by omega),r,fun _=>⟨_,hr⟩,rfl⟩,fun h=>?_⟩;simp only [Bool.and_eq_true,decide_eq_true_eq,beq_iff_eq] at h;rcases ho with rfl | h2
 ·omega
 ·rw [h.2] at h2;exact h2
def powW (a:Nat) (t:Nat):Nat:=if t=0 then 1 else if a=0 then 0 else if a=1 then 1 else 2
theorem powW_le (a t:Nat):powW a t≤2:=by
 unfold powW;split
 ·omega
 ·split
  ·omega
  ·split <;> omega
theorem powW_step {a:Nat} (ha:a≤2) (t:Nat):min 2 (powW a t*a)=powW a (t+1):=by
 have:a=0∨a=1∨a=2:=by omega
 unfold powW
 by_cases ht:t=0
 ·subst ht;rcases this with rfl | rfl | rfl <;> simp
 ·rcases this with rfl | rfl | rfl <;> simp [ht]
def sumW (a lo:Nat):Nat→Nat
 | 0=>0
 | m+1=>min 2 (sumW a lo m+powW a (lo+m))
theorem sumW_le (a lo m:Nat):sumW a lo m≤2:=by
 cases m with
 | zero=>simp [sumW]
 | succ m=>simp only [sumW];omega
theorem sumW_zero (a lo:Nat):∀m,sumW a lo m≠0↔∃t,t<m∧powW a (lo+t)≠0
 | 0=>by simp [sumW]
 | m+1=>by
  have ih:=sumW_zero a lo m;simp only [sumW];constructor
  ·intro h
   by_cases h1:sumW a lo m≠0
   ·obtain ⟨t,h2,h3⟩:=ih.1 h1;exact ⟨t,by omega,h3⟩
   ·exact ⟨m,by omega,by omega⟩
  ·rintro ⟨t,h1,h2⟩
   by_cases htm:t=m
   ·subst htm;omega
   ·have:=ih.2 ⟨t,by omega,h2⟩;omega
theorem zn4 {a t:Nat}:powW a t≠0↔t=0∨a≠0:=by
 unfold powW
 by_cases h1:t=0
 ·simp [h1]
 ·by_cases h2:a=0
  ·simp [h1,h2]
  ·rw [if_neg h1,if_neg h2];split <;> simp [h1,h2]
structure NOk (d:List SNode):Prop where
 two:∀(i:Int) n,at? d i=some n→(n.1=4∨n.1=5)→(0≤n.2.1∧n.2.1<i)∧(0≤n.2.2.1∧n.2.2.1<i)
 one:∀(i:Int) n,at? d i=some n→(n.1=6∨n.1=7∨n.1=8∨n.1=9)→0≤n.2.1∧n.2.1<i
 rep:∀(i:Int) n,at? d i=some n→n.1=7→0≤n.2.2.2.1∧n.2.2.2.1≤n.2.2.2.2.1∧n.2.2.2.2.1≤255
 kind:∀(i:Int) n,at? d i=some n→1≤n.1∧n.1≤9
 ntx:∀(i:Int) n,at? d i=some n→n.1=3→n.2.2.2.2.2.2≠[]
theorem Tr.node {l:List SNode} {f i:Int} (h:Tr l f i) {n:SNode} (hn:at? l i=some n):
  ((n.1=4∨n.1=5)→(0≤n.2.1∧n.2.1<i)∧(0≤n.2.2.1∧n.2.2.1<i))∧((n.1=6∨n.1=7∨n.1=8∨n.1=9)→0≤n.2.1∧n.2.1<i)∧(n.1=7→0≤n.2.2.2.1∧n.2.2.2.1≤n.2.2.2.2.1∧n.2.2.2.2.1≤255)∧(1≤n.1∧n.1≤9)∧(n.1=3→n.2.2.2.2.2.2≠[]):=by
 cases h with
 | leaf he hk hx h0=>
  rw [hn] at he;cases he;exact ⟨fun h=>by omega,fun h=>by omega,fun h=>by omega,by omega,hx⟩
 | one he hk ha hb hr h=>
  rw [hn] at he;cases he;have:=h.le;exact ⟨fun h=>by omega,fun h=>by omega,hr,by omega,fun h=>by omega⟩
 | two he hk ha hb h1 h2=>
  rw [hn] at he;cases he;have:=h1.le;have:=h2.le;exact ⟨fun h=>by omega,fun h=>by omega,fun h=>by omega,by omega,fun h=>by omega⟩
theorem Tr.at {d:List SNode} (h:Tr d 0 ((d.length:Int)-1)) {i:Int} {n:SNode} (hn:at? d i=some n):∃g,Tr d g i:=by
 have hb:=zb6 hn;obtain ⟨g,hg,_⟩:=h.sub i hb.1 (by omega);exact ⟨g,hg⟩
theorem Tr.nok {d:List SNode} (h:Tr d 0 ((d.length:Int)-1)):NOk d:=
 ⟨fun i n hn=>let ⟨g,hg⟩:=h.at hn;(hg.node hn).1,fun i n hn=>let ⟨g,hg⟩:=h.at hn;(hg.node hn).2.1,fun i n hn=>let ⟨g,hg⟩:=h.at hn;(hg.node hn).2.2.1,fun i n hn=>let ⟨g,hg⟩:=h.at hn;(hg.node hn).2.2.2.1,fun i n hn=>let ⟨g,hg⟩:=h.at hn;(hg.node hn).2.2.2.2⟩
def WV (d:List SNode):Nat→Int→Nat
 | 0,_=>0
 | k+1,i=>match at? d i with
  | none=>0
  | some n=>
   if n.1=1 then 1
   else if n.1=4 then min 2 (WV d k n.2.1*WV d k n.2.2.1)
   else if n.1=5 then min 2 (WV d k n.2.1+WV d k n.2.2.1)
   else if n.1=6 then (if 0<WV d k n.2.1 then 2 else 1)
   else if n.1=7 then sumW (WV d k n.2.1) n.2.2.2.1.toNat (n.2.2.2.2.1+1-n.2.2.2.1).toNat
   else 0
theorem WV_le (d:List SNode) (k:Nat) (i:Int):WV d k i≤2:=by
 cases k with
 | zero=>simp [WV]
 | succ k=>
  unfold WV;cases at? d i with
  | none=>simp
  | some n=>
   simp only;split
   ·omega
   ·split
    ·omega
    ·split
     ·omega
     ·split
      ·split <;> omega
      ·split
       ·exact sumW_le _ _ _
       ·omega
theorem zmr {d:List SNode} (hd:NOk d):∀(k k':Nat) (i:Int),i<(k:Int)→i<(k':Int)→WV d k i=WV d k' i
 | 0,k',i,h,h'=>by
  have:at? d i=none:=by
   unfold at?;rw [if_neg (by omega)]
  cases k' <;> simp [WV,this]
 | k+1,0,i,h,h'=>by
  have:at? d i=none:=by
   unfold at?;rw [if_neg (by omega)]
  simp [WV,this]
 | k+1,k'+1,i,h,h'=>by
  cases hn:at? d i with
  | none=>simp only [WV,hn]
  | some n=>
   simp only [WV,hn]
   by_cases h4:n.1=4
   ·obtain ⟨⟨a,b⟩,c,e⟩:=hd.two _ n hn (.inl h4);rw [zmr hd k k' n.2.1 (by omega) (by omega),zmr hd k k' n.2.2.1 (by omega) (by omega)]
   ·by_cases h5:n.1=5
    ·obtain ⟨⟨a,b⟩,c,e⟩:=hd.two _ n hn (.inr h5);rw [zmr hd k k' n.2.1 (by omega) (by omega),zmr hd k k' n.2.2.1 (by omega) (by omega)]
    ·by_cases h6:n.1=6∨n.1=7
     ·obtain ⟨a,b⟩:=hd.one _ n hn (by omega);rw [zmr hd k k' n.2.1 (by omega) (by omega)];simp [h4,h5]
     ·simp only [not_or] at h6;simp [h4,h5,h6.1,h6.2]
def wv (d:List SNode) (i:Int):Nat:=WV d d.length i
theorem wv_at {d:List SNode} (hd:NOk d) {i:Int} {n:SNode} (hn:at? d i=some n):wv d i =
  (if n.1=1 then 1
   else if n.1=4 then min 2 (wv d n.2.1*wv d n.2.2.1)
   else if n.1=5 then min 2 (wv d n.2.1+wv d n.2.2.1)
   else if n.1=6 then (if 0<wv d n.2.1 then 2 else 1)
   else if n.1=7 then sumW (wv d n.2.1) n.2.2.2.1.toNat (n.2.2.2.2.1+1-n.2.2.2.1).toNat
   else 0):=by
 obtain ⟨hb0,hb1⟩:=zb6 hn;unfold wv;rw [zmr hd d.length (d.length+1) i hb1 (by omega)];simp only [WV,hn]
theorem nz_atN {d:List SNode} (hd:NOk d) {i:Int} {n:SNode} (h:at? d i=some n):nz d i =
  (if n.1=1 then true else if n.1=4 then nz d n.2.1&&nz d n.2.2.1 else if n.1=5 then nz d n.2.1||nz d n.2.2.1 else if n.1=6 then true else if n.1=7 then decide (n.2.2.2.1=0)||nz d n.2.1 else false):=by
 obtain ⟨k,rfl,hk⟩:=zos h;have e:=nzL_at hk;have e2:nz d (k:Int)=nzN ((nzL d).take k) n:=by unfold nz;rw [zb2,e];rfl
 rw [e2];unfold nzN
 by_cases h1:n.1=1
 ·simp [h1]
 ·by_cases h4:n.1=4
  ·obtain ⟨⟨a,b⟩,c,e⟩:=hd.two _ n h (.inl h4);rw [if_neg h1,if_pos h4,if_neg h1,if_pos h4,zhq a b,zhq c e];rfl
  ·by_cases h5:n.1=5
   ·obtain ⟨⟨a,b⟩,c,e⟩:=hd.two _ n h (.inr h5);rw [if_neg h1,if_neg h4,if_pos h5,if_neg h1,if_neg h4,if_pos h5,zhq a b,zhq c e];rfl
   ·by_cases h6:n.1=6
    ·simp [h6]
    ·by_cases h7:n.1=7
     ·obtain ⟨a,b⟩:=hd.one _ n h (.inr (.inl h7));rw [if_neg h1,if_neg h4,if_neg h5,if_neg h6,if_pos h7,if_neg h1,if_neg h4,if_neg h5,if_neg h6,if_pos h7,zhq a b];rfl
     ·simp [h1,h4,h5,h6,h7]
theorem wv_nz {d:List SNode} (hd:NOk d):∀(k:Nat) (i:Int) (n:SNode),i<(k:Int)→at? d i=some n→(wv d i≠0↔nz d i=true)
 | 0,i,n,hi,hn=>by have:=zb6 hn;omega
 | k+1,i,n,hi,hn=>by
  have ih:=wv_nz hd k;rw [wv_at hd hn,nz_atN hd hn]
  by_cases h1:n.1=1
  ·simp [h1]
  ·by_cases h4:n.1=4
   ·obtain ⟨⟨a,b⟩,c,e⟩:=hd.two _ n hn (.inl h4);obtain ⟨m1,hm1⟩:=zet hn a b;obtain ⟨m2,hm2⟩:=zet hn c e;rw [if_neg h1,if_pos h4,if_neg h1,if_pos h4,Bool.and_eq_true,← ih _ m1 (by omega) hm1,← ih _ m2 (by omega) hm2,← Nat.mul_ne_zero_iff];omega
   ·by_cases h5:n.1=5
    ·obtain ⟨⟨a,b⟩,c,e⟩:=hd.two _ n hn (.inr h5);obtain ⟨m1,hm1⟩:=zet hn a b;obtain ⟨m2,hm2⟩:=zet hn c e;rw [if_neg h1,if_neg h4,if_pos h5,if_neg h1,if_neg h4,if_pos h5,Bool.or_eq_true,← ih _ m1 (by omega) hm1,← ih _ m2 (by omega) hm2];omega
    ·by_cases h6:n.1=6
     ·simp [h6];split <;> omega
     ·by_cases h7:n.1=7
      ·obtain ⟨a,b⟩:=hd.one _ n hn (.inr (.inl h7));obtain ⟨r0,r1,r2⟩:=hd.rep _ n hn h7;obtain ⟨m1,hm1⟩:=zet hn a b;rw [if_neg h1,if_neg h4,if_neg h5,if_neg h6,if_pos h7,if_neg h1,if_neg h4,if_neg h5,if_neg h6,if_pos h7,sumW_zero,Bool.or_eq_true,← ih _ m1 (by omega) hm1,decide_eq_true_eq];constructor
       ·rintro ⟨t,h1,h2⟩;rcases zn4.1 h2 with h3 | h3
        ·exact .inl (by omega)
        ·exact .inr h3
       ·rintro (h3 | h3)
        ·exact ⟨0,by omega,zn4.2 (.inl (by omega))⟩
        ·exact ⟨0,by omega,zn4.2 (.inr h3)⟩
      ·simp [h1,h4,h5,h6,h7]
theorem ROk.nok {d:List SNode} (h:ROk d):NOk d:=⟨h.two,h.one,h.rep,h.kind,h.ntx⟩
theorem ways_l3 {l:List Int} {a:Nat} (ha:a≤2) {e:SNode} (h1:at? l e.2.1=some (a:Int)) {t:Nat} (ht:t≤255) {Z:Int→Prop} (hZ:Z (powW a t:Int)):
  ∀(m v:Nat),v+m=t→∃k,zo.l3 l e t Z k (powW a v:Int) v
 | 0,v,hv=>by
  obtain rfl:v=t:=by omega
  exact ⟨1,fun h=>absurd (dt h) (by omega),fun _=>hZ⟩
 | m+1,v,hv=>by
  obtain ⟨k,hk⟩:=ways_l3 ha h1 ht hZ m (v+1) (by omega);have e1:(min 2 ((powW a v:Int)*(a:Int)))=(powW a (v+1):Int):=by
   have:=Int.natCast_mul (powW a v) a;rw [← powW_step ha v];omega
  have hle:=powW_le a v;have hle2:powW a v*a≤4:=by
   have:=Nat.mul_le_mul hle ha;omega
  exact ⟨k+1,fun _=>⟨a,h1,zj (by omega) (by rw [← Int.natCast_mul];omega),zj (by omega) (by omega),by rw [e1];exact hk⟩,fun h=>absurd (by omega) (df h)⟩
theorem ways_l2 {l:List Int} {a:Nat} (ha:a≤2) {e:SNode} (h1:at? l e.2.1=some (a:Int)) {lo hi:Nat} (hlo:e.2.2.2.1=lo) (hhi:e.2.2.2.2.1=hi) (hh:hi≤255) {Z:Int→Prop} (hZ:Z (sumW a lo (hi+1-lo):Int)):
  ∀(m j:Nat),j+m=hi+1-lo→∃k,zo.l2 l e Z k (sumW a lo j:Int) ((lo+j:Nat):Int)
 | 0,j,hj=>by
  obtain rfl:j=hi+1-lo:=by omega
  exact ⟨1,fun h=>absurd (dt h) (by omega),fun _=>hZ⟩
 | m+1,j,hj=>by
  obtain ⟨k,hk⟩:=ways_l2 ha h1 hlo hhi hh hZ m (j+1) (by omega);have hs:=sumW_le a lo j;have hp:=powW_le a (lo+j);have e1:(min 2 ((sumW a lo j:Int)+(powW a (lo+j):Int)))=(sumW a lo (j+1):Int):=by simp only [sumW];omega
  obtain ⟨k3,hk3⟩:=ways_l3 ha h1 (t:=lo+j) (by omega) (Z:=zo.j3 (zo.l2 l e Z k) (sumW a lo j:Int) ((lo+j:Nat):Int)) ⟨zj (by omega) (by omega),zj (by omega) (by omega),by
   rw [e1];have:(((lo+j:Nat):Int)+1)=((lo+(j+1):Nat):Int):=by omega
   rw [this];exact hk⟩ (lo+j) 0 (by omega)
  have e0:(powW a 0:Int)=1:=rfl;rw [e0] at hk3;exact ⟨k+1,fun _=>⟨k3,hk3⟩,fun h=>absurd (by omega) (df h)⟩
theorem zrb {d:List SNode} (hl:d.length≤1000) (hd:NOk d) {i:Nat} (h1:i<d.length):zo d (i:Int) (wv d (i:Int):Int):=by
 have hat:∀(k:Nat) (a:Int),0≤a→a<(k:Int)→at? ((List.range k).map fun (j:Nat)=>(wv d (j:Int):Int)) a=some (wv d a:Int):=fun k a h0 h1=>by
  obtain ⟨j,rfl⟩:∃j:Nat,a=(j:Int):=⟨a.toNat,by omega⟩;rw [zb2,List.getElem?_map,List.getElem?_range (by omega)];rfl
 have key:∀(m:Nat) (k:Nat),k+m=i+1→∃f,zo.l1 d (i:Int) (zo.j1 (i:Int) (wv d (i:Int):Int)) f ((List.range k).map fun (j:Nat)=>(wv d (j:Int):Int)) (k:Int):=by
  intro m
  induction m with
  | zero=>
   intro k hk;exact ⟨1,fun h=>absurd (dt h) (by omega),fun _=>⟨_,hat k _ (by omega) (by omega),rfl⟩⟩
  | succ m ih=>
   intro k hk;obtain ⟨f,hf⟩:=ih (k+1) (by omega);obtain ⟨e,he,_⟩:=zot (xs:=d) (i:=(k:Int)) (by omega) (by omega);have hw:=wv_at hd he;have next:∀w:Nat,min 2 w=wv d (k:Int)→zo.j2 (zo.l1 d (i:Int) (zo.j1 (i:Int) (wv d (i:Int):Int)) f) ((List.range k).map fun (j:Nat)=>(wv d (j:Int):Int)) (k:Int) (w:Int):=fun w hw=>by
    refine ⟨by simp;omega,zj (by omega) (by omega), ?_⟩;have e1:(min 2 (w:Int))=(wv d (k:Int):Int):=by rw [← hw];omega
    rw [e1];have e2:((List.range k).map fun (j:Nat)=>(wv d (j:Int):Int))++[(wv d (k:Int):Int)]=(List.range (k+1)).map fun (j:Nat)=>(wv d (j:Int):Int):=by
     rw [List.range_succ,List.map_append];rfl
    rw [e2];exact hf
   have ne:∀{a b:Int},a≠b→(a==b)=true→False:=fun h k=>h (eq_of_beq k);refine ⟨f+1,fun _=>⟨e,he,fun h=>?_,fun k1=>⟨fun h=>?_,fun k4=>⟨fun h=>?_,fun k5=>⟨fun h=>?_,fun k6=>⟨fun h=>?_,fun k7=>?_⟩⟩⟩⟩⟩,fun h=>absurd (by omega) (df h)⟩
   ·have h1:e.1=1:=eq_of_beq h;exact next 1 (by rw [hw,if_pos h1];rfl)
   ·have h1:e.1≠1:=by simpa using k1
    have h4:e.1=4:=eq_of_beq h;rw [if_neg h1,if_pos h4] at hw;obtain ⟨⟨a0,a1⟩,b0,b1⟩:=hd.two _ e he (.inl h4);have l1:=WV_le d d.length e.2.1;have l2:=WV_le d d.length e.2.2.1;have hm:wv d e.2.1*wv d e.2.2.1≤4:=by have:=Nat.mul_le_mul l1 l2;exact this
    refine ⟨_,hat k _ a0 a1,_,hat k _ b0 b1,zj (by rw [← Int.natCast_mul];omega) (by rw [← Int.natCast_mul];omega), ?_⟩;rw [← Int.natCast_mul];exact next _ hw.symm
   ·have h1:e.1≠1:=by simpa using k1
    have h4:e.1≠4:=by simpa using k4
    have h5:e.1=5:=eq_of_beq h;rw [if_neg h1,if_neg h4,if_pos h5] at hw;obtain ⟨⟨a0,a1⟩,b0,b1⟩:=hd.two _ e he (.inr h5);have l1:=WV_le d d.length e.2.1;have l2:=WV_le d d.length e.2.2.1;unfold wv at *;refine ⟨_,hat k _ a0 a1,_,hat k _ b0 b1,zj (by omega) (by omega), ?_⟩;exact next (WV d d.length e.2.1+WV d d.length e.2.2.1) hw.symm
   ·have h1:e.1≠1:=by simpa using k1
    have h4:e.1≠4:=by simpa using k4
    have h5:e.1≠5:=by simpa using k5
    have h6:e.1=6:=eq_of_beq h;rw [if_neg h1,if_neg h4,if_neg h5,if_pos h6] at hw;obtain ⟨a0,a1⟩:=hd.one _ e he (.inl h6);refine ⟨_,hat k _ a0 a1,fun h=>?_,fun h=>?_⟩
    ·exact next 2 (by rw [hw,if_pos (by have:=dt h;omega)];rfl)
    ·exact next 1 (by rw [hw,if_neg (by have:=df h;omega)];rfl)
   ·have h1:e.1≠1:=by simpa using k1
    have h4:e.1≠4:=by simpa using k4
    have h5:e.1≠5:=by simpa using k5
    have h6:e.1≠6:=by simpa using k6
    have h7:e.1=7:=eq_of_beq h;rw [if_neg h1,if_neg h4,if_neg h5,if_neg h6,if_pos h7] at hw;obtain ⟨a0,a1⟩:=hd.one _ e he (.inr (.inl h7));obtain ⟨r0,r1,r2⟩:=hd.rep _ e he h7;have hs:=sumW_le (wv d e.2.1) e.2.2.2.1.toNat (e.2.2.2.2.1+1-e.2.2.2.1).toNat;have e1:(e.2.2.2.2.1+1-e.2.2.2.1).toNat=e.2.2.2.2.1.toNat+1-e.2.2.2.1.toNat:=by omega
    have:=ways_l2 (l:=(List.range k).map fun (j:Nat)=>(wv d (j:Int):Int)) (WV_le d d.length e.2.1) (e:=e) (hat k _ a0 a1) (lo:=e.2.2.2.1.toNat) (hi:=e.2.2.2.2.1.toNat) (by omega) (by omega) (by omega)
     (Z:=zo.j2 (zo.l1 d (i:Int) (zo.j1 (i:Int) (wv d (i:Int):Int)) f) ((List.range k).map fun (j:Nat)=>(wv d (j:Int):Int)) (k:Int))
     (next _ (by rw [hw,e1];rw [e1] at hs;exact Nat.min_eq_right hs)) (e.2.2.2.2.1.toNat+1-e.2.2.2.1.toNat) 0 (by omega)
    have e2:((e.2.2.2.1.toNat+0:Nat):Int)=e.2.2.2.1:=by omega
    rw [e2] at this;exact this
   ·have h1:e.1≠1:=by simpa using k1
    have h4:e.1≠4:=by simpa using k4
    have h5:e.1≠5:=by simpa using k5
    have h6:e.1≠6:=by simpa using k6
    have h7:e.1≠7:=by simpa using k7
    rw [if_neg h1,if_neg h4,if_neg h5,if_neg h6,if_neg h7] at hw;exact next 0 (by rw [hw];rfl)
 obtain ⟨f,hf⟩:=key (i+1) 0 (by omega);exact ⟨f,by simpa using hf⟩
theorem first8_ok {d:List SNode} (hl:d.length≤1000) (hd:NOk d):∃r,zcg d r∧(r.2=false→∀(i:Int) n,at? d i=some n→(n.1=6∨n.1=7)→nz d n.2.1=false):=by
 have key:∀(m i:Nat),i+m=d.length→(∀(k:Int) n,k<(i:Int)→at? d k=some n→(n.1=6∨n.1=7)→nz d n.2.1=false)→∃q:(Int × Bool) × Nat,zcg.l1 d q.1 (zcg.j1 q.1) q.2 (i:Int)∧(q.1.2=false→∀(i:Int) n,at? d i=some n→(n.1=6∨n.1=7)→nz d n.2.1=false):=by
  intro m
  induction m with
  | zero=>
   intro i hi hk;exact ⟨((0,false),1),⟨fun h=>absurd (dt h) (by omega),fun _=>rfl⟩,fun _ k n hn=>hk k n (by have:=zb6 hn;omega) hn⟩
  | succ m ih=>
   intro i hi hk;obtain ⟨e,he,_⟩:=zot (xs:=d) (i:=(i:Int)) (by omega) (by omega);have hw:∃w,((((e.1==6)||(e.1==7)))=true→zo d e.2.1 w∧(w=0→nz d e.2.1=false)):=by
    by_cases hkk:e.1=6∨e.1=7
    ·obtain ⟨a0,a1⟩:=hd.one _ e he (by omega);obtain ⟨mm,hm⟩:=zet he a0 a1;obtain ⟨j,hj⟩:∃j:Nat,e.2.1=(j:Int):=⟨e.2.1.toNat,by omega⟩;refine ⟨(wv d e.2.1:Int),fun _=>⟨?_,fun h0=>?_⟩⟩
     ·rw [hj];exact zrb hl hd (by omega)
     ·have:=wv_nz hd (d.length) e.2.1 mm (by omega) hm;cases hz:nz d e.2.1
      ·rfl
      ·have:=this.2 hz;omega
    ·exact ⟨0,fun h=>absurd (by simpa using h) hkk⟩
   obtain ⟨w,hw⟩:=hw;cases hb:(((e.1==6)||(e.1==7))&&(w != 0))
   ·obtain ⟨q,hq,hq2⟩:=ih (i+1) (by omega) (fun k n hki hn hkk=>by
     by_cases hk2:k=(i:Int)
     ·subst hk2;rw [he] at hn;cases hn;have h6:((e.1==6)||(e.1==7))=true:=by simpa using hkk
      rw [h6] at hb;simp at hb;exact (hw h6).2 hb
     ·exact hk k n (by omega) hn hkk)
    exact ⟨(q.1,q.2+1),⟨fun _=>⟨e,he,e,fun _=>he,w,fun h=>(hw h).1,(fun h=>by rw [hb] at h;cases h),fun _=>⟨zj (by omega) (by omega),by simpa using hq⟩⟩,fun h=>absurd (by omega) (df h)⟩,hq2⟩
   ·exact ⟨(((i:Int),true),1),⟨fun _=>⟨e,he,e,fun _=>he,w,fun h=>(hw h).1,fun _=>rfl,fun h=>by rw [hb] at h;cases h⟩,fun h=>absurd (by omega) (df h)⟩,(fun h=>by cases h)⟩
 obtain ⟨q,hq,hq2⟩:=key d.length 0 (by omega) (fun k n hk hn=>by have:=zb6 hn;omega);exact ⟨q.1,⟨q.2,hq⟩,hq2⟩
structure Rt (d:List SNode):Prop extends ROk d where
 tr:Tr d 0 ((d.length:Int)-1)
theorem Rt.ne {d:List SNode} (h:Rt d):d≠[]:=fun e=>by
 have:=h.tr.le;subst e;simp at this
theorem right_ok {d:List SNode} (hl:d.length≤1000) (ht:∀n∈d,n.2.2.2.2.2.2.length≤140737488351232):∃r,zgs d r∧(r=true→Rt d):=by
 obtain ⟨f,hf,ho⟩:=form_ex hl ht;cases f
 ·exact ⟨false,⟨false,hf,fun _=>rfl,(fun h=>by cases h)⟩,(fun h=>by cases h)⟩
 ·have hd:=(ho rfl).nok;obtain ⟨w,hw,hw2⟩:=first8_ok hl hd;refine ⟨!w.2,⟨true,hf,(fun h=>by cases h),fun _=>⟨w,hw,rfl⟩⟩,fun h=>?_⟩;have:=hw2 (by simpa using h);exact ⟨⟨hd.two,hd.one,hd.rep,hd.kind,hd.ntx,this⟩,ho rfl⟩
def CV (d:List SNode):Nat→Int→List (List SItem)
 | 0,_=>[]
 | k+1,i=>match at? d i with
  | none=>[]
  | some n=>
   if n.1=1 then []
   else if n.1=3 then [[(3,i,0,0)]]
   else if n.1=4 then (CV d k n.2.1).map (·++[(1,n.2.2.1,0,0)])++CV d k n.2.2.1
   else if n.1=5 then CV d k n.2.1++CV d k n.2.2.1
   else if n.1=6 then (CV d k n.2.1).map (·++[(1,i,0,0)])
   else if n.1=7 then (CV d k n.2.1).map (·++[(2,i,max (n.2.2.2.1-1) 0,n.2.2.2.2.1-1)])
   else [[(1,i,0,0)]]
theorem PM_CV (d:List SNode):∀(k:Nat) (i:Int),∀p∈(PM d k i).1,p∈CV d k i
 | 0,i,p,hp=>by simp [PM] at hp
 | k+1,i,p,hp=>by
  unfold PM at hp;unfold CV;cases hn:at? d i with
  | none=>rw [hn] at hp;simp at hp
  | some n=>
   rw [hn] at hp;have a:=PM_CV d k n.2.1;have b:=PM_CV d k n.2.2.1;simp only at hp ⊢
   by_cases h1:n.1=1
   ·simp [h1] at hp
   ·rw [if_neg h1] at hp ⊢
    by_cases h3:n.1=3
    ·rw [if_pos h3] at hp ⊢;exact hp
    ·rw [if_neg h3] at hp ⊢
     by_cases h4:n.1=4
     ·rw [if_pos h4] at hp ⊢;rcases List.mem_append.1 hp with hp | hp
      ·obtain ⟨q,hq,rfl⟩:=List.mem_map.1 hp;exact List.mem_append.2 (.inl (List.mem_map.2 ⟨q,a q hq,rfl⟩))
      ·obtain ⟨l,hl,hp⟩:=List.mem_flatten.1 hp;rw [List.mem_replicate.1 hl |>.2] at hp;exact List.mem_append.2 (.inr (b p hp))
     ·rw [if_neg h4] at hp ⊢
      by_cases h5:n.1=5
      ·rw [if_pos h5] at hp ⊢;rcases List.mem_append.1 hp with hp | hp
       ·exact List.mem_append.2 (.inl (a p hp))
       ·exact List.mem_append.2 (.inr (b p hp))
      ·rw [if_neg h5] at hp ⊢
       by_cases h6:n.1=6
       ·rw [if_pos h6] at hp ⊢;obtain ⟨q,hq,rfl⟩:=List.mem_map.1 hp;exact List.mem_map.2 ⟨q,a q hq,rfl⟩
       ·rw [if_neg h6] at hp ⊢
        by_cases h7:n.1=7
        ·rw [if_pos h7] at hp ⊢;simp only at hp;split at hp
         ·obtain ⟨q,hq,rfl⟩:=List.mem_map.1 hp;exact List.mem_map.2 ⟨q,a q hq,rfl⟩
         ·cases hp
        ·rw [if_neg h7] at hp ⊢;exact hp
def CI (d:List SNode) (x:SItem):List (List SItem):=
 if x.1=1 then CV d d.length x.2.1
 else if x.1=2 then (match at? d x.2.1 with | some n=>(CV d d.length n.2.1).map (·++[(2,x.2.1,max (x.2.2.1-1) 0,x.2.2.2-1)]) | none=>[])
 else [[x]]
def CS (d:List SNode):List SItem→List (List SItem)
 | []=>[[]]
 | x::rest=>(CI d x).map (·++rest)++CS d rest
theorem pmI_CI (d:List SNode) (x:SItem):∀p∈pmI d x,p∈CI d x:=by
 intro p hp;unfold pmI at hp;unfold CI
 by_cases h1:x.1=1
 ·rw [if_pos h1] at hp ⊢;exact PM_CV d _ _ p hp
 ·rw [if_neg h1] at hp ⊢
  by_cases h2:x.1=2
  ·rw [if_pos h2] at hp ⊢;cases hn:at? d x.2.1 with
   | none=>rw [hn] at hp;cases hp
   | some n=>
    rw [hn] at hp;simp only at hp ⊢;split at hp
    ·obtain ⟨q,hq,rfl⟩:=List.mem_map.1 hp;exact List.mem_map.2 ⟨q,PM_CV d _ _ q hq,rfl⟩
    ·cases hp
  ·rw [if_neg h2] at hp ⊢;split at hp
   ·cases hp
   ·exact hp
theorem hds_CS (d:List SNode):∀(s:List SItem),∀t∈hds d s,t∈CS d s
 | [],t,ht=>ht
 | x::rest,t,ht=>by
  rcases List.mem_append.1 ht with ht | ht
  ·obtain ⟨q,hq,rfl⟩:=List.mem_map.1 ht;exact List.mem_append.2 (.inl (List.mem_map.2 ⟨q,pmI_CI d x q hq,rfl⟩))
  ·obtain ⟨l,hl,hp⟩:=List.mem_flatten.1 ht;rw [List.mem_replicate.1 hl |>.2] at hp;exact List.mem_append.2 (.inr (hds_CS d rest t hp))
structure BrOk (l:List SBranch):Prop where
 many:∀b∈l,0≤b.2∧b.2≤2
 len:∀b∈l,b.1.length≤1000
theorem zj5 {s:List SItem} {many:Int}:∀(l:List SBranch) (i:Nat),(∀b∈l.take i,¬ ze0 s b.1=0∧¬ ze0 s b.1<0)→zmq s many l=l.take i++zmq s many (l.drop i)
 | l,0,_=>rfl
 | [],i+1,_=>by simp
 | b::l,i+1,h=>by
  have hb:=h b (by simp)
  conv=>lhs;unfold zmq
  rw [if_neg hb.1,if_neg hb.2,zj5 l i fun c hc=>h c (by simp [hc])];rfl
theorem zi9 {l:List SBranch} (hs:l.Pairwise (fun a b=>ze0 a.1 b.1<0)) (hb:BrOk l) (hl:l.length≤2000000000) {s:List SItem} (hsl:s.length≤1000) {many:Int} (hm:0≤many∧many≤2):zby l s many (zmq s many l):=by
 refine zqh (P:=fun k (q:List SBranch × Bool) v=>zby.l1 l s many _ k q.1 q.2 v) l.length
  (fun i q=>(q.2=false→q.1=l.take i∧∀b∈l.take i,¬ ze0 s b.1=0∧¬ ze0 s b.1<0)∧(q.2=true→q.1++l.drop i=zmq s many l∧∀b∈l.drop i,ze0 s b.1<0)) ?_ ?_ ([],false) ⟨fun _=>⟨by simp,by simp⟩,(fun h=>by cases h)⟩
 ·rintro i ⟨out,done⟩ k hi ⟨h1,h2⟩ hk;have hol:out.length≤l.length+1:=by
   cases done
   ·have k1:=(h1 rfl).1;simp only at k1;rw [k1];simp;omega
   ·have:=congrArg List.length (h2 rfl).1;have h3:=addB_len s many l;simp at this;omega
  have hbm:l[i]∈l:=List.getElem_mem hi;have hmb:=hb.many _ hbm;have hlb:=hb.len _ hbm;have hat:at? l (i:Int)=some l[i]:=by rw [zb2];simp [hi]
  have hdr:l.drop i=l[i]::l.drop (i+1):=(List.getElem_cons_drop hi).symm;have htk:l.take (i+1)=l.take i++[l[i]]:=List.take_succ_eq_append_getElem hi;have hsrt:∀b∈l.drop (i+1),ze0 l[i].1 b.1<0:=by
   have:=hs.sublist (List.drop_sublist i l);rw [hdr,List.pairwise_cons] at this;exact this.1
  refine ⟨fun _=>⟨l[i],hat,_,zix hsl hlb,fun h0=>?_,fun h0=>⟨fun hc=>?_,fun hc=>?_⟩⟩,fun h=>absurd (by omega) (df h)⟩
  ·have e0:ze0 s l[i].1=0:=by simpa using h0
   refine ⟨l[i],hat,zj (by omega) (by omega),by simp;omega,zj (by omega) (by omega),hk (out++[(s,min 2 (l[i].2+many))],true) ⟨(fun h=>by cases h),fun _=>?_⟩⟩;cases done
   ·obtain ⟨k1,k2⟩:=h1 rfl;simp only at k1;refine ⟨?_,fun b hbb=>by rw [zd9.1 e0];exact hsrt b hbb⟩;rw [zj5 l i k2,hdr,k1]
    conv=>rhs;unfold zmq
    rw [if_pos e0];simp
   ·obtain ⟨k1,k2⟩:=h2 rfl;have:=k2 l[i] (hdr ▸ List.mem_cons_self);omega
  ·simp only [Bool.and_eq_true,decide_eq_true_eq,Bool.not_eq_true'] at hc;obtain ⟨c1,c2⟩:=hc;subst c2;obtain ⟨k1,k2⟩:=h1 rfl;simp only at k1;refine ⟨by simp;omega,l[i],hat,by simp;omega,zj (by omega) (by omega),hk (out++[(s,many)]++[l[i]],true) ⟨(fun h=>by cases h),fun _=>⟨?_,fun b hbb=>zgm c1 (hsrt b hbb)⟩⟩⟩;rw [zj5 l i k2,hdr,k1]
   conv=>rhs;unfold zmq
   rw [if_neg (by omega),if_pos c1];simp
  ·have e0:¬ ze0 s l[i].1=0:=by simpa using h0
   refine ⟨l[i],hat,by simp;omega,zj (by omega) (by omega),hk (out++[l[i]],done) ⟨fun hd=>?_,fun hd=>?_⟩⟩
   ·simp only at hd;subst hd;obtain ⟨k1,k2⟩:=h1 rfl;simp only at k1;simp only [Bool.not_false,Bool.and_true,decide_eq_false_iff_not] at hc;refine ⟨by rw [htk,k1],fun b hbb=>?_⟩;rw [htk] at hbb;rcases List.mem_append.1 hbb with hbb | hbb
    ·exact k2 b hbb
    ·rw [List.mem_singleton.1 hbb];exact ⟨e0,hc⟩
   ·simp only at hd;subst hd;obtain ⟨k1,k2⟩:=h2 rfl;refine ⟨?_,fun b hbb=>k2 b (hdr ▸ List.mem_cons_of_mem _ hbb)⟩;rw [← k1,hdr];simp
 ·rintro ⟨out,done⟩ ⟨h1,h2⟩ k;refine ⟨fun h=>absurd (dt h) (by omega),fun _=>⟨fun hd=>?_,fun hd=>?_⟩⟩
  ·have hd':done=false:=by simpa using hd
   subst hd';obtain ⟨k1,k2⟩:=h1 rfl;simp only at k1;rw [List.take_length] at k1;refine ⟨by rw [k1];simp;omega, ?_⟩;rw [zj5 l l.length k2,k1];simp [zmq]
  ·have hd':done=true:=by simpa using hd
   subst hd';obtain ⟨k1,k2⟩:=h2 rfl;rw [← k1];simp
theorem Can.brok {f:List SItem→Nat} {B:List SBranch} (h:Can f B) (hl:∀t,f t≠0→t.length≤1000):BrOk B:=
 ⟨fun b hb=>by have:=(h.many hb).2.2;omega,fun b hb=>hl _ (h.many hb).2.1⟩
theorem into_in {d:List SNode} (hd:ROk d) (hdl:d.length≤400) (hd0:∃n,at? d 0=some n) (U:List (List SItem)) (hU:U.length≤1000000000) (hU1:∀t∈U,t.length≤1000):∀(h:Nat) (s:List SItem) (L:List (List SItem)),lv d h s=some L→Vs d 400 s→∀(f:List SItem→Nat) (B:List SBranch),Can f B→(∀t,f t≠0→t∈U)→(∀t∈L,t∈U)→∃r,zbt.n h d s B r∧Can (fun t=>f t+L.count t) r
 | 0,s,L,hL,_,_,_,_,_,_=>by simp [lv] at hL
 | h+1,s,L,hL,hv,f,B,hB,hf,hLU=>by
  have hlen:=hv.len;have hBl:=zop hB hf;have hBo:=hB.brok fun t ht=>hU1 t (hf t ht);cases hr:rdy d s with
  | true=>
   have e:L=[s]:=by
    unfold lv at hL;rw [if_pos hr] at hL;exact (Option.some.inj hL).symm
   subst e;refine ⟨zmq s 1 B,⟨true,hr ▸ zkd hv.form hd0,fun _=>⟨s,zsg (by simp) (by omega),_,zi9 hB.srt hBo (by omega) (by omega) (by omega),rfl⟩,(fun h=>by cases h)⟩, ?_⟩;refine (hB.add s (n:=1) (by omega)).congr fun t=>?_;simp only [List.count_singleton,beq_iff_eq]
   by_cases ht:t=s
   ·subst ht;simp
   ·simp [ht,Ne.symm ht]
  | false=>
   have hopn:=hv.opn hd hr;obtain ⟨ls,hls,hlf⟩:∃ls,(opn d s).mapM (lv d h)=some ls∧ls.flatten=L:=by
    unfold lv at hL;rw [if_neg (by rw [hr];simp)] at hL;exact Option.map_eq_some_iff.1 hL
   have hlsl:ls.length=(opn d s).length:=znc hls;have hol:=opn_len (d:=d) s;have key:∀(m i:Nat) (B':List SBranch),i+m=(opn d s).length→Can (fun t=>f t+(ls.take i).flatten.count t) B'→∃(r:List SBranch) (k:Nat),zbt.l1 (zbt.n h) d (opn d s) (zbt.j1 r) k B' (i:Int)∧Can (fun t=>f t+L.count t) r:=by
    intro m
    induction m with
    | zero=>
     intro i B' hi hB';refine ⟨B',1,⟨fun h=>absurd (dt h) (by omega),fun _=>rfl⟩, ?_⟩;rw [List.take_of_length_le (by omega),hlf] at hB';exact hB'
    | succ m ih=>
     intro i B' hi hB';have hil:i<(opn d s).length:=by omega
     obtain ⟨li,h1,h2⟩:=zrw hls hil;have hsub:∀t∈li,t∈L:=fun t ht=>by
      rw [← hlf];exact List.mem_flatten.2 ⟨li,List.mem_of_getElem? h2,ht⟩
     have hsub2:∀t,(ls.take i).flatten.count t≠0→t∈U:=fun t ht=>by
      have hp:t∈(ls.take i).flatten:=List.count_pos_iff.1 (by omega);obtain ⟨l,hl,ht⟩:=List.mem_flatten.1 hp;exact hLU t (by rw [← hlf];exact List.mem_flatten.2 ⟨l,List.mem_of_mem_take hl,ht⟩)
     obtain ⟨r1,hr1,hr2⟩:=into_in hd hdl hd0 U hU hU1 h _ li h1 (hopn _ (List.getElem_mem hil)) _ B' hB' (fun t ht=>by
      by_cases h0:f t=0
      ·exact hsub2 t (by omega)
      ·exact hf t h0) (fun t ht=>hLU t (hsub t ht))
     obtain ⟨r,k,hk1,hk2⟩:=ih (i+1) r1 (by omega) (hr2.congr fun t=>by rw [take_flat h2,List.count_append,Nat.add_assoc]);exact ⟨r,k+1,⟨fun _=>⟨_,by rw [zb2];simp [hil],r1,hr1,zj (by omega) (by omega),by simpa using hk1⟩,fun h=>absurd (by omega) (df h)⟩,hk2⟩
   obtain ⟨r,k,hk1,hk2⟩:=key (opn d s).length 0 B (by omega) (hB.congr fun t=>by simp);exact ⟨r,⟨false,hr ▸ zkd hv.form hd0,(fun h=>by cases h),fun _=>⟨_,zq7 hd hv.form hr (by omega) hd0,k,hk1⟩⟩,hk2⟩
theorem zp5 {α:Type} [BEq α] [LawfulBEq α]:∀(n:Nat) (l:List α),l.length≤n→l.eraseDups.Nodup
 | _,[],_=>by simp
 | 0,x::l,h=>by simp at h
 | n+1,x::l,h=>by
  rw [List.eraseDups_cons,List.nodup_cons];refine ⟨fun hx=>?_,zp5 n _ (Nat.le_trans (List.length_filter_le _ _) (by simpa using h))⟩;have:=List.mem_eraseDups.1 hx;simp at this
theorem CV_tr {d:List SNode} {f i:Int} (h:Tr d f i):∀k,((CV d k i).length:Int)≤i-f+1:=by
 induction h with
 | leaf he hk hx h0=>
  rename_i i e
  intro k;cases k with
  | zero=>simp [CV]
  | succ k=>
   unfold CV;rw [he];simp only;rcases hk with h | h | h
   ·simp [h]
   ·simp [h]
   ·simp [h]
 | one he hk ha hb hr t ih=>
  rename_i f i e
  intro k;have hle:=t.le;cases k with
  | zero=>simp [CV];omega
  | succ k=>
   have:=ih k;unfold CV;rw [he];simp only;rw [if_neg (by omega),if_neg (by omega),if_neg (by omega),if_neg (by omega),ha];split
   ·rw [List.length_map];omega
   ·split
    ·rw [List.length_map];omega
    ·simp;omega
 | two he hk ha hb t1 t2 i1 i2=>
  rename_i f p i e
  intro k;have h1:=t1.le;have h2:=t2.le;cases k with
  | zero=>simp [CV];omega
  | succ k=>
   have a1:=i1 k;have a2:=i2 k;unfold CV;rw [he];simp only;rw [if_neg (by omega),if_neg (by omega),ha,hb];split
   ·rw [List.length_append,List.length_map];omega
   ·split
    ·rw [List.length_append];omega
    ·omega
theorem CV_few {d:List SNode} (h:Rt d) (k:Nat) (i:Int):(CV d k i).length≤d.length+1:=by
 cases hn:at? d i with
 | none=>cases k <;> simp [CV,hn]
 | some n=>
  obtain ⟨g,hg⟩:=h.tr.at hn;have h1:=CV_tr hg k;have h2:=hg.le;have h3:=hg.lt;omega
theorem CS_few {d:List SNode} (h:Rt d):∀s:List SItem,(CS d s).length≤s.length*(d.length+1)+1
 | []=>by simp [CS]
 | x::rest=>by
  have h1:=CS_few h rest;have h2:(CI d x).length≤d.length+1:=by
   unfold CI;split
   ·exact CV_few h _ _
   ·split
    ·split
     ·rw [List.length_map];exact CV_few h _ _
     ·simp
    ·simp
  simp only [CS,List.length_append,List.length_map,List.length_cons,Nat.succ_mul];omega
structure Sm (d:List SNode) (s:List SItem):Prop where
 rt:Rt d
 len:d.length≤24
 txt:∀n∈d,n.2.2.2.2.2.2.length≤140737488351232
 form:zeh d s=true
 slen:s.length≤400
theorem Sm.dok {d:List SNode} {s:List SItem} (h:Sm d s):DOk d:=⟨by have:=h.len;omega,fun n hn=>by have:=h.txt n hn;omega⟩
theorem Sm.ne {d:List SNode} {s:List SItem} (h:Sm d s):∃n,at? d 0=some n:=by
 have:=h.rt.ne;cases d with
 | nil=>exact absurd rfl this
 | cons n d=>exact ⟨n,rfl⟩
theorem Sm.vs {d:List SNode} {s:List SItem} (h:Sm d s):Vs d 400 s:=Vs.start h.form (by have:=h.slen;omega)
theorem zmn {d:List SNode} {s:List SItem} (h:Sm d s):∃B,zfs d s B∧zfo d s B∧Can (fun t=>(hds d s).count t) B:=by
 have hd:=h.rt.toROk;obtain ⟨L,⟨k,hk⟩,hp⟩:=hds_lv hd s h.form;have hU:(CS d s).length≤1000000000:=by
  have h1:=CS_few h.rt s;have h4:s.length*(d.length+1)≤400*25:=Nat.mul_le_mul h.slen (by have:=h.len;omega);omega
 have hLU:∀t∈L,t∈CS d s:=fun t ht=>hds_CS d s t (hp.mem_iff.1 ht);have hvs:=lv_vs hd k s L hk h.vs;have hLU2:∀t∈L,t∈L.eraseDups:=fun t ht=>List.mem_eraseDups.2 ht;have hUl:L.eraseDups.length≤1000000000:=Nat.le_trans (zii (zp5 _ L (Nat.le_refl _)) fun t ht=>hLU t (List.mem_eraseDups.1 ht)) hU;have hU1:∀t∈L.eraseDups,t.length≤1000:=fun t ht=>by
  have:=(hvs t (List.mem_eraseDups.1 ht)).1.len;have:=h.len;omega
 obtain ⟨B,hB1,hB2⟩:=into_in hd (by have:=h.len;omega) h.ne L.eraseDups hUl hU1 k s L hk h.vs (fun _=>0) [] Can.nil (fun t ht=>absurd rfl ht) hLU2;have hB3:Can (fun t=>L.count t) B:=hB2.congr fun t=>by simp
 have hBl:=zop hB3 (U:=L.eraseDups) fun t ht=>hLU2 t (List.count_pos_iff.1 (by omega));exact ⟨B,⟨hd,h.dok,by have:=h.len;omega,h.rt.ne,h.form,by have:=h.slen;omega,by omega,k,L,hk,hB3⟩,⟨B,⟨k,hB1⟩,rfl⟩,hB3.congr fun t=>by rw [hp.count_eq]⟩
theorem zr6 {s:List SItem} (hs:s.length≤1000) (hr:∀x∈s,ItR x):zcx s (zeg s):=by
 refine ⟨s,clone_in hs, ?_⟩;refine zgf (P:=fun k (t:List SItem) v=>zcx.l1 s (zeg s) _ k t v) s.length (fun i t=>t=(s.take i).map zl5++s.drop i∧(s.take i).any zlz=false) ?_ ?_ _ ⟨by simp,by simp⟩
 ·rintro i t hi ⟨rfl,hb⟩;have hl:((s.take i).map zl5).length=i:=by simp;omega
  have hat:at? ((s.take i).map zl5++s.drop i) (i:Int)=some s[i]:=by
   rw [zb2,List.getElem?_append_right (by omega),hl,Nat.sub_self];simp [hi]
  have hset:∀y,((s.take i).map zl5++s.drop i).set i y=(s.take i).map zl5++[y]++s.drop (i+1):=fun y=>by
   rw [List.set_append_right _ _ (by omega),hl,Nat.sub_self,List.drop_eq_getElem_cons hi,List.set_cons_zero];simp
  have hnext:(s.take (i+1)).map zl5++s.drop (i+1)=(s.take i).map zl5++[zl5 s[i]]++s.drop (i+1):=by
   rw [List.take_succ_eq_append_getElem hi,List.map_append];rfl
  have hri:=(hr _ (List.getElem_mem hi)).2.2.1;rw [zhm] at hri
  by_cases h5:s[i].1=5
  ·by_cases hlo:s[i].2.2.1≤0
   ·have hbad:zlz s[i]=true:=by simp [zlz,h5,hlo]
    refine .inl fun k=>⟨fun _=>⟨_,hat,fun h=>by simp [h5] at h,fun _=>⟨fun _=>?_,fun h=>absurd hlo (df h)⟩⟩,fun h=>absurd (by omega) (df h)⟩;unfold zeg;rw [if_pos (any_of hi hbad)]
   ·have hbad:zlz s[i]=false:=by simp [zlz,hlo]
    refine .inr ⟨_,⟨rfl,by rw [znh hi,hb,hbad];rfl⟩,fun k h=>⟨fun _=>⟨_,hat,fun h=>by simp [h5] at h,fun _=>⟨fun h=>absurd (dt h) hlo,fun _=>⟨_,hat,zj (by omega) (by omega),_,hat,zj (by omega) (by omega), ?_⟩⟩⟩,fun h=>absurd (by omega) (df h)⟩⟩;rw [hnext] at h;rw [Int.toNat_natCast,hset];have e:zl5 s[i]=(s[i].1,s[i].2.1,s[i].2.2.1-1,s[i].2.2.2):=by unfold zl5;rw [if_pos h5]
    rw [← e];exact h
  ·have hbad:zlz s[i]=false:=by simp [zlz,h5]
   refine .inr ⟨_,⟨rfl,by rw [znh hi,hb,hbad];rfl⟩,fun k h=>⟨fun _=>⟨_,hat,fun _=>⟨zj (by omega) (by omega), ?_⟩,fun h=>by simp at h;exact absurd h h5⟩,fun h=>absurd (by omega) (df h)⟩⟩;rw [hnext] at h;have e:zl5 s[i]=s[i]:=by unfold zl5;rw [if_neg h5]
   rw [e] at h;rw [List.drop_eq_getElem_cons hi];simpa using h
 ·rintro t ⟨rfl,hb⟩ k;refine ⟨fun h=>absurd (dt h) (by omega),fun _=>?_⟩;rw [List.take_length] at hb;show zeg s=_;unfold zeg;rw [if_neg (by rw [hb];simp)];simp
theorem zpa {s:List SItem} (hs:s.length≤1000) (hr:∀x∈s,ItR x):zbg s (zeg s):=by
 refine zgf (P:=fun k (t:List SItem) v=>zbg.l1 s (zeg s) _ k t v) s.length (fun i t=>t=(s.take i).map zl5∧(s.take i).any zlz=false) ?_ ?_ _ ⟨by simp,by simp⟩
 ·rintro i t hi ⟨rfl,hb⟩;have hl:((s.take i).map zl5).length=i:=by simp;omega
  have hat:at? s (i:Int)=some s[i]:=by rw [zb2];simp [hi]
  have hnext:(s.take (i+1)).map zl5=(s.take i).map zl5++[zl5 s[i]]:=by
   rw [List.take_succ_eq_append_getElem hi,List.map_append];rfl
  have hri:=(hr _ (List.getElem_mem hi)).2.2.1;rw [zhm] at hri;have hj:∀k,zbg.l1 s (zeg s) (zbg.j1 (zeg s)) k ((s.take (i+1)).map zl5) ((i:Int)+1)→zbg.j2 (zbg.l1 s (zeg s) (zbg.j1 (zeg s)) k) ((s.take i).map zl5) (i:Int) (zl5 s[i]):=fun k h=>by
   refine ⟨by rw [hl];simp only [List.length_cons,List.length_nil];omega,zj (by omega) (by omega), ?_⟩;rw [hnext] at h;exact h
  by_cases h5:s[i].1=5
  ·by_cases hlo:s[i].2.2.1≤0
   ·have hbad:zlz s[i]=true:=by simp [zlz,h5,hlo]
    refine .inl fun k=>⟨fun _=>⟨_,hat,fun _=>⟨fun _=>?_,fun h=>absurd hlo (df h)⟩,fun h=>by simp [h5] at h⟩,fun h=>absurd (by omega) (df h)⟩;unfold zeg;rw [if_pos (any_of hi hbad)]
   ·have hbad:zlz s[i]=false:=by simp [zlz,hlo]
    refine .inr ⟨_,⟨rfl,by rw [znh hi,hb,hbad];rfl⟩,fun k h=>⟨fun _=>⟨_,hat,fun _=>⟨fun h=>absurd (dt h) hlo,fun _=>⟨zj (by omega) (by omega), ?_⟩⟩,fun h=>by simp [h5] at h⟩,fun h=>absurd (by omega) (df h)⟩⟩;have:=hj k h;unfold zl5 at this;rw [if_pos h5] at this;exact this
  ·have hbad:zlz s[i]=false:=by simp [zlz,h5]
   refine .inr ⟨_,⟨rfl,by rw [znh hi,hb,hbad];rfl⟩,fun k h=>⟨fun _=>⟨_,hat,fun h=>by simp at h;exact absurd h h5,fun _=>?_⟩,fun h=>absurd (by omega) (df h)⟩⟩;have:=hj k h;unfold zl5 at this;rw [if_neg h5] at this;exact this
 ·rintro t ⟨rfl,hb⟩ k;refine ⟨fun h=>absurd (dt h) (by omega),fun _=>?_⟩;rw [List.take_length] at hb;show zeg s=_;unfold zeg;rw [if_neg (by rw [hb];simp),List.take_length]
theorem zm1 {a:Cl} {n:Nat} (hn:n<256):zga a (n:Int) (a.has n):=by
 refine ⟨⟨by omega,by omega⟩,_,rfl, ?_⟩;rw [show ((n:Int) / 64)=((n / 64:Nat):Int) by omega,show ((n:Int) % 64)=((n % 64:Nat):Int) by omega];show _=(andI (zpv (((a.word ((n / 64:Nat):Int).toNat):Nat):Int) _) 1==1);rw [Int.toNat_natCast,shr_bit (Nat.mod_lt _ (by omega)),has_w hn]
theorem zm0 {a:Cl} {c:Int} (hc:InR .u8 c):zga a c (a.has c.toNat):=by
 obtain ⟨n,hn,rfl⟩:=u8_of hc;simpa using zm1 (a:=a) hn
theorem ziq {a:Cl} {i:Nat} (hi:i<256):zga a ((i:Int) % 256) (a.has i):=by
 rw [show ((i:Int) % 256)=(i:Int) by omega];exact zm1 hi
theorem class_Add_in {a:Cl} {l:List Int} (hl:∀x∈l,InR .u8 x) (hn:l.length<9223372036854775807):zde a l (a.addL l):=by
 refine zgf (P:=fun k (s:Cl) v=>zde.l1 l _ k s v) l.length (fun i s=>s=a.addL (l.take i)) ?_ ?_ a (by simp [Cl.addL])
 ·rintro i s hi rfl;refine .inr ⟨a.addL (l.take (i+1)),rfl,fun k h=>?_⟩;refine ⟨fun _=>?_,fun h=>absurd (by omega) (df h)⟩;obtain ⟨n,hn,he⟩:=u8_of (hl l[i] (List.getElem_mem hi));refine ⟨l[i],by rw [zb2];simp [hi], ?_, ?_,zj (by omega) (by omega), ?_⟩
  ·rw [he];omega
  ·rw [he];omega
  ·rw [he,show ((n:Int) / 64)=((n / 64:Nat):Int) by omega,show ((n:Int) % 64)=((n % 64:Nat):Int) by omega,put_words hn];have:(a.addL (l.take i)).put n=a.addL (l.take (i+1)):=by
    rw [List.take_succ_eq_append_getElem hi];simp [Cl.addL,he]
   rw [this];exact h
 ·rintro s rfl k;exact ⟨fun h=>absurd (dt h) (by omega),fun _=>by simp [zde.j1]⟩
theorem zon {f t:Int}:zdu f t (Cl.row f t):=by
 refine zgf (P:=fun k (s:Cl) v=>zdu.l1 f t _ k s v) 256 (fun i s=>∀n,n<256→s.has n=(decide (n<i)&&(Cl.row f t).has n)) ?_ ?_ _ (by intro n _;simp [has_zero])
 ·intro i s hi hs;refine .inr ⟨if (decide (f≤(i:Int))&&decide ((i:Int)≤t))=true then s.put i else s, ?_,fun k h=>?_⟩
  ·intro n hn;split
   ·rename_i hc
    rw [has_put hi,hs n hn,zkr hn]
    by_cases e:i=n
    ·subst e;simp [hc]
    ·simp only [e,decide_false,Bool.or_false]
     congr 1
     apply decide_eq_decide.2;omega
   ·rename_i hc
    rw [hs n hn,zkr hn]
    by_cases e:i=n
    ·subst e;simp [hc]
    ·congr 1
     apply decide_eq_decide.2;omega
  ·refine ⟨fun _=>?_,fun h=>absurd (by omega) (df h)⟩;rw [show ((i:Int) % 256)=i by omega];refine ⟨_,rfl,fun hc=>?_,fun hc=>?_⟩
   ·rw [if_pos hc] at h;refine ⟨s.put i, ?_,zj (by omega) (by omega),h⟩;have:=class_Add_in (a:=s) (l:=[(i:Int)]) (by simpa using u8_nat hi) (by simp);simpa [Cl.addL] using this
   ·rw [if_neg (by simp [hc])] at h;exact ⟨zj (by omega) (by omega),h⟩
 ·intro s hs k;refine ⟨fun h=>absurd (dt h) (by omega),fun _=>?_⟩;show Cl.row f t=s;apply Cl.ext;intro c hc;rw [hs c hc];simp [hc]
theorem words_up {P:Nat→Cl→Int→Prop} {a r:Cl} (g:Nat→Nat→Nat)
  (hr:∀i,i<4→r.word i=g i (a.word i))
  (hs:∀k (i:Nat) (s:Cl) (v:Int),i<4→s.word i=a.word i→v=((g i (a.word i):Nat):Int)→P k (s.setw (i:Int) v) ((i:Int)+1)→P (k+1) s (i:Int))
  (hx:∀k,P (k+1) r 4):∃k,P k a 0:=by
 refine zgf (P:=P) 4 (fun i s=>∀j,j<4→s.word j=if j<i then r.word j else a.word j) ?_ ?_ a (by intro j hj;simp)
 ·intro i s hi h;have hv:((g i (a.word i):Nat):Int).toNat<2 ^ 64:=by rw [Int.toNat_natCast,← hr i hi];exact r.word_lt i
  refine .inr ⟨s.setw (i:Int) ((g i (a.word i):Nat):Int),fun j hj=>?_,fun k hk=>hs k i s _ hi (by rw [h i hi];simp) rfl hk⟩;rw [znv hv j hj,h j hj]
  by_cases e:j=i
  ·subst e;simp [hr j hj]
  ·rw [if_neg e]
   by_cases e2:j<i
   ·rw [if_pos e2,if_pos (by omega)]
   ·rw [if_neg e2,if_neg (by omega)]
 ·intro s h k;have:s=r:=Cl.ext_words fun i hi=>by rw [h i hi,if_pos hi]
  subst this;exact hx k
theorem zi0 {r:Cl} {i v:Nat} (hi:i<4) (hv:v<2 ^ 64) (h:∀j,j<64→r.has (64*i+j)=v.testBit j):r.word i=v:=by
 apply Nat.eq_of_testBit_eq;intro j;rw [Cl.word_bit]
 by_cases hj:j<64
 ·simp [hj,h j hj]
 ·have:v<2 ^ j:=Nat.lt_of_lt_of_le hv (Nat.pow_le_pow_right (by omega) (by omega));simp [hj,Nat.testBit_lt_two_pow this]
theorem zf2 {a:Cl} {n:Nat} (hn:n<256):zc0 a (n:Int) (a.has n):=by
 refine ⟨by omega,⟨by omega,by omega⟩, ?_⟩;have hw:Cl.w a ((n:Int) / 64)=((a.word (n / 64):Nat):Int):=by
  rw [show ((n:Int) / 64)=((n / 64:Nat):Int) by omega];rfl
 rw [hw];refine zgf (P:=fun k (s:Int) v=>zc0.l1 (n:Int) _ k s v) (n % 64) (fun i s=>s=((a.word (n / 64) / 2 ^ i:Nat):Int)) ?_ ?_ _ (by simp)
 ·rintro i s hi rfl;refine .inr ⟨_,rfl,fun k h=>⟨by omega,fun _=>⟨zj (by omega) (by omega), ?_⟩,fun h=>absurd (by omega) (df h)⟩⟩;rw [Nat.pow_succ,← Nat.div_div_eq_div_mul,Int.natCast_ediv] at h;exact h
 ·rintro s rfl k;refine ⟨by omega,fun h=>absurd (dt h) (by omega),fun _=>?_⟩;show a.has n=_;rw [has_w hn,Nat.testBit_eq_decide_div_mod_eq];rcases Nat.mod_two_eq_zero_or_one (a.word (n / 64) / 2 ^ (n % 64)) with h | h
  ·rw [h,show (((a.word (n / 64) / 2 ^ (n % 64):Nat):Int) % 2)=0 by omega];rfl
  ·rw [h,show (((a.word (n / 64) / 2 ^ (n % 64):Nat):Int) % 2)=1 by omega];rfl
theorem ref01_Has_u8 {a:Cl} {c:Int} (hc:InR .u8 c):zc0 a c (a.has c.toNat):=by
 obtain ⟨n,hn,rfl⟩:=u8_of hc;simpa using zf2 (a:=a) hn
theorem ref01_Of_l2 {l:List Bool} (hl:l.length=256) {w:Nat} (hw:w<4) {X:Cl→Prop} {s:Cl} (h0:s.word w=0) (hX:∀t:Cl,(∀j,j<4→t.word j=if j=w then zes (fun j=>l.getD (64*w+j) false) 64 else s.word j)→X t):
  ∃k,zbx.l2 l (w:Int) X k s 1 0:=by
 refine zgf (P:=fun k (s:Cl × Int) v=>zbx.l2 l (w:Int) X k s.1 s.2 v) 64
  (fun i t=>(∀j,j<4→t.1.word j=if j=w then zes (fun j=>l.getD (64*w+j) false) i else s.word j)∧t.2=((2 ^ i % 2 ^ 64:Nat):Int)) ?_ ?_ (s,1) ?_
 ·rintro i ⟨t,b⟩ hi ⟨h1,h2⟩;simp only at h1 h2;subst h2;have hb:=zor (fun j=>l.getD (64*w+j) false) (i+1);have hp:2 ^ (i+1)≤2 ^ 64:=Nat.pow_le_pow_right (by omega) (by omega);have hp2:2 ^ i<2 ^ 64:=Nat.pow_lt_pow_right (by omega) hi;have hbit:IntKind.wrap .u64 (((2 ^ i % 2 ^ 64:Nat):Int)*2)=((2 ^ (i+1) % 2 ^ 64:Nat):Int):=by
   rw [zm7,Nat.mod_eq_of_lt hp2,Nat.pow_succ];omega
  have hat:at? l (64*(w:Int)+(i:Int))=some (l.getD (64*w+i) false):=by
   rw [show (64*(w:Int)+(i:Int))=((64*w+i:Nat):Int) by omega,zb2,List.getElem?_eq_getElem (by omega)];simp [List.getD,List.getElem?_eq_getElem (show 64*w+i<l.length by omega)]
  cases he:l.getD (64*w+i) false
  ·refine .inr ⟨(t,((2 ^ (i+1) % 2 ^ 64:Nat):Int)),⟨fun j hj=>?_,rfl⟩,fun k h=>⟨fun _=>⟨zj (by omega) (by omega),zj (by omega) (by omega),_,hat,fun hc=>(by rw [he] at hc;cases hc),fun _=>⟨zj (by omega) (by omega), ?_⟩⟩,fun h=>absurd (by omega) (df h)⟩⟩
   ·simp only;rw [h1 j hj];split
    ·simp only [zes,he,cond_false]
    ·rfl
   ·rw [hbit];exact h
  ·refine .inr ⟨(t.setw (w:Int) ((zes (fun j=>l.getD (64*w+j) false) (i+1):Nat):Int),((2 ^ (i+1) % 2 ^ 64:Nat):Int)),⟨fun j hj=>?_,rfl⟩,fun k h=>⟨fun _=>⟨zj (by omega) (by omega),zj (by omega) (by omega),_,hat,fun _=>⟨⟨by omega,by omega⟩,⟨by omega,by omega⟩,zj (by omega) (by omega), ?_⟩,fun hc=>(by rw [he] at hc;cases hc)⟩,fun h=>absurd (by omega) (df h)⟩⟩
   ·simp only;rw [znv (by rw [Int.toNat_natCast];omega) j hj,Int.toNat_natCast];split
    ·rfl
    ·rename_i e;rw [h1 j hj,if_neg e]
   ·have hww:(Cl.w t (w:Int))=((zes (fun j=>l.getD (64*w+j) false) i:Nat):Int):=by
     show ((t.word ((w:Int).toNat):Nat):Int)=_;rw [Int.toNat_natCast,h1 w hw,if_pos rfl]
    have hsum:IntKind.wrap .u64 (Cl.w t (w:Int)+((2 ^ i % 2 ^ 64:Nat):Int))=((zes (fun j=>l.getD (64*w+j) false) (i+1):Nat):Int):=by
     have e2:zes (fun j=>l.getD (64*w+j) false) (i+1)=2 ^ i+zes (fun j=>l.getD (64*w+j) false) i:=by simp only [zes,he,cond_true]
     rw [hww,zm7,Nat.mod_eq_of_lt hp2];omega
    rw [hbit,hsum];exact h
 ·rintro ⟨t,b⟩ ⟨h1,_⟩ k;exact ⟨fun h=>absurd (dt h) (by omega),fun _=>hX t h1⟩
 ·refine ⟨fun j hj=>?_,by rfl⟩;split
  ·rename_i e;subst e;simpa [zes] using h0
  ·rfl
theorem ofL_word {l:List Bool} {w:Nat} (hw:w<4):(Cl.ofL l).word w=zes (fun j=>l.getD (64*w+j) false) 64:=by
 refine zi0 hw (zor _ 64) fun j hj=>?_;rw [has_ofL (by omega),zqe];simp [hj]
theorem ref01_Of_in {l:List Bool} (hl:l.length=256):zbx l (Cl.ofL l):=by
 refine zgf (P:=fun k (s:Cl) v=>zbx.l1 l _ k s v) 4 (fun i s=>∀j,j<4→s.word j=if j<i then (Cl.ofL l).word j else 0) ?_ ?_ _ ?_
 ·intro i s hi h;refine .inr ⟨Cl.ofWords (if 0<i+1 then (Cl.ofL l).word 0 else 0) (if 1<i+1 then (Cl.ofL l).word 1 else 0) (if 2<i+1 then (Cl.ofL l).word 2 else 0) (if 3<i+1 then (Cl.ofL l).word 3 else 0), ?_,fun k hk=>⟨fun _=>?_,fun h=>absurd (by omega) (df h)⟩⟩
  ·have hb:∀(c:Prop) [Decidable c] (k:Nat),(if c then (Cl.ofL l).word k else 0)<2 ^ 64:=fun c _ k=>by
    split
    ·exact Cl.word_lt _ _
    ·omega
   obtain ⟨e0,e1,e2,e3⟩:=Cl.ofWords_word (hb (0<i+1) 0) (hb (1<i+1) 1) (hb (2<i+1) 2) (hb (3<i+1) 3);intro j hj
   match j,hj with
   | 0,_=>exact e0
   | 1,_=>exact e1
   | 2,_=>exact e2
   | 3,_=>exact e3
  ·refine ref01_Of_l2 hl hi (by rw [h i hi,if_neg (by omega)]) fun t ht=>?_;refine ⟨zj (by omega) (by omega), ?_⟩;have hb:∀(c:Prop) [Decidable c] (k:Nat),(if c then (Cl.ofL l).word k else 0)<2 ^ 64:=fun c _ k=>by
    split
    ·exact Cl.word_lt _ _
    ·omega
   obtain ⟨e0,e1,e2,e3⟩:=Cl.ofWords_word (hb (0<i+1) 0) (hb (1<i+1) 1) (hb (2<i+1) 2) (hb (3<i+1) 3);have key:∀j,j<4→t.word j=if j<i+1 then (Cl.ofL l).word j else 0:=fun j hj=>by
    rw [ht j hj]
    by_cases e:j=i
    ·subst e;rw [if_pos rfl,if_pos (by omega),ofL_word hj]
    ·rw [if_neg e,h j hj]
     by_cases e2:j<i
     ·rw [if_pos e2,if_pos (by omega)]
     ·rw [if_neg e2,if_neg (by omega)]
   have:t=_:=Cl.ext_words (x:=t) (y:=Cl.ofWords (if 0<i+1 then (Cl.ofL l).word 0 else 0) (if 1<i+1 then (Cl.ofL l).word 1 else 0) (if 2<i+1 then (Cl.ofL l).word 2 else 0) (if 3<i+1 then (Cl.ofL l).word 3 else 0)) fun j hj=>by
    rw [key j hj]
    match j,hj with
    | 0,_=>exact e0.symm
    | 1,_=>exact e1.symm
    | 2,_=>exact e2.symm
    | 3,_=>exact e3.symm
   rw [this];exact hk
 ·intro s h k;refine ⟨fun h=>absurd (dt h) (by omega),fun _=>?_⟩;show Cl.ofL l=s;exact Cl.ext_words fun j hj=>by rw [h j hj,if_pos hj]
 ·intro j hj;simp [Cl.word]
theorem ofL_set {l:List Bool} {f:Nat→Bool} (h:∀n,n<256→l[n]?=some (f n)):Cl.ofL l=Cl.of f:=by
 apply Cl.ext;intro c hc;rw [has_ofL hc,Cl.of_has _ hc];simp [List.getD,h c hc]
theorem zjb {f t:Int} (hf:InR .u8 f) (ht:InR .u8 t):zc6 f t (Cl.row f t):=by
 obtain ⟨f,hf1,rfl⟩:=u8_of hf;obtain ⟨t,ht1,rfl⟩:=u8_of ht;refine run (P:=fun k (s:List Bool × Int)=>zc6.l1 (t:Int) _ k s.1 s.2)
  (fun s=>s.1.length=256∧∃i:Nat,s.2=i∧f≤i∧(i≤t+1∨i=f)∧∀n,n<256→s.1[n]?=some (decide (f≤n)&&decide (n<i))) (fun s=>257-s.2.toNat) ?_ (List.replicate 256 false,(f:Int)) ?_
 ·rintro ⟨l,i'⟩ ⟨hl,i,hi,h1,h2,h3⟩;simp only at hl hi h3;subst hi
  by_cases hc:i≤t
  ·refine .inr ⟨(l.set i true,((i+1:Nat):Int)),⟨by simpa using hl,i+1,rfl,by omega,by omega,fun n hn=>?_⟩, ?_,fun k h=>⟨fun _=>⟨l[i]'(by omega),by rw [zb2];exact List.getElem?_eq_getElem (by show i<l.length;omega),zj (by simp only;omega) (by simp only;omega), ?_⟩,fun h=>absurd (by show (i:Int)≤(t:Int);omega) (df h)⟩⟩
   ·simp only [List.getElem?_set];split
    ·rename_i e;subst e;simp [show i<l.length by omega,h1]
    ·rename_i e
     rw [h3 n hn];congr 2;apply decide_eq_decide.2;omega
   ·simp only [Int.toNat_natCast];omega
   ·simpa using h
  ·refine .inl fun k=>⟨fun h=>absurd (dt h) (by simp only;omega),fun _=>⟨Cl.ofL l,ref01_Of_in hl, ?_⟩⟩;rw [ofL_set h3];apply Cl.ext;intro c hc2;rw [zkr hc2,Cl.of_has _ hc2]
   by_cases e:f≤c
   ·have e3:(decide (c<i):Bool)=decide (c≤t):=decide_eq_decide.2 (by omega);rw [e3]
    congr 1
    ·apply decide_eq_decide.2;omega
    ·apply decide_eq_decide.2;omega
   ·rw [decide_eq_false (show ¬ (f:Int)≤(c:Int) by omega),decide_eq_false e];simp
 ·refine ⟨List.length_replicate,f,rfl,Nat.le_refl _,by omega,fun n hn=>?_⟩;show (List.replicate 256 false)[n]?=_;rw [List.getElem?_replicate,if_pos hn]
  by_cases e:f≤n
  ·simp [show ¬ n<f by omega]
  ·simp [e]
def zbh (d:List SNode) (s:List SItem) (c:Int):List SItem × Bool:=
 match s with
 | []=>([],false)
 | x::rest=>
  if (zeg rest).2=false then ([],false)
  else match at? d x.2.1 with
   | none=>([],false)
   | some n=>
    if x.1=3 then (if zei n.2.2.2.2.2.2 x.2.2.1=some c then ((if x.2.2.1+1<(n.2.2.2.2.2.2.length:Int) then [(3,x.2.1,x.2.2.1+1,0)] else [])++(zeg rest).1,true) else ([],false))
    else if x.1=4 then ([(1,n.2.1,0,0),(5,0,256*x.2.2.1+c,0)]++(zeg rest).1,true)
    else if n.1=8 then ([(1,n.2.1,0,0),(5,0,c,0)]++(zeg rest).1,true)
    else if n.1=9 then ([(4,x.2.1,c,0)]++(zeg rest).1,true)
    else if n.2.2.2.2.2.1.has c.toNat=true then ((zeg rest).1,true) else ([],false)
theorem zrx (s:List SItem):(zeg s).1.length≤s.length:=by unfold zeg;split <;> simp
theorem zlf (d:List SNode) (s:List SItem) (c:Int):(zbh d s c).1.length≤s.length+1:=by
 cases s with
 | nil=>simp [zbh]
 | cons x rest=>
  have:=zrx rest;unfold zbh;simp only;split
  ·simp
  ·cases at? d x.2.1 with
   | none=>simp
   | some n=>
    simp only [List.length_cons];split
    ·split
     ·split <;> simp <;> omega
     ·simp
    ·split
     ·simp;omega
     ·split
      ·simp;omega
      ·split
       ·simp;omega
       ·split <;> simp;omega
theorem itR_form {d:List SNode} (hd:ROk d) (hl:d.length≤1000) (ht:∀n∈d,n.2.2.2.2.2.2.length≤140737488351232) {x:SItem} (hx:ze7 d x=true):ItR x:=by
 unfold ze7 at hx;split at hx
 ·rename_i h5
  simp only [Bool.and_eq_true,beq_iff_eq,decide_eq_true_eq] at hx;exact ⟨zj (by omega) (by omega),zj (by omega) (by omega),zj (by omega) (by omega),zj (by omega) (by omega)⟩
 ·cases hn:at? d x.2.1 with
  | none=>rw [hn] at hx;cases hx
  | some n=>
   rw [hn] at hx;have hb:=zb6 hn;have hm:n∈d:=by
    obtain ⟨k,_,hk⟩:=zos hn;exact List.mem_of_getElem? hk
   have htn:=ht n hm;simp only at hx;split at hx
   ·rename_i h1
    simp only [Bool.and_eq_true,beq_iff_eq] at hx;exact ⟨zj (by omega) (by omega),zj (by omega) (by omega),zj (by omega) (by omega),zj (by omega) (by omega)⟩
   ·split at hx
    ·rename_i h2
     simp only [Bool.and_eq_true,beq_iff_eq,decide_eq_true_eq] at hx;have:=hd.rep _ n hn hx.1.1.1;exact ⟨zj (by omega) (by omega),zj (by omega) (by omega),zj (by omega) (by omega),zj (by omega) (by omega)⟩
    ·split at hx
     ·rename_i h3
      simp only [Bool.and_eq_true,beq_iff_eq,decide_eq_true_eq] at hx;exact ⟨zj (by omega) (by omega),zj (by omega) (by omega),zj (by omega) (by omega),zj (by omega) (by omega)⟩
     ·split at hx
      ·rename_i h4
       simp only [Bool.and_eq_true,beq_iff_eq,decide_eq_true_eq] at hx;exact ⟨zj (by omega) (by omega),zj (by omega) (by omega),zj (by omega) (by omega),zj (by omega) (by omega)⟩
      ·cases hx
theorem itR_all {d:List SNode} (hd:ROk d) (hl:d.length≤1000) (ht:∀n∈d,n.2.2.2.2.2.2.length≤140737488351232) {s:List SItem} (hs:zeh d s=true):∀x∈s,ItR x:=by
 intro x hx;unfold zeh at hs;rw [List.all_eq_true] at hs;exact itR_form hd hl ht (hs x hx)
theorem zjy {d:List SNode} {x:SItem} {rest:List SItem} (hf:zeh d (x::rest)=true) (hr:rdy d (x::rest)=true):∃n,at? d x.2.1=some n∧n∈d∧((x.1=1∧(n.1=2∨n.1=8∨n.1=9))∨(x.1=3∧n.1=3∧x.2.2.2=0∧0≤x.2.2.1∧x.2.2.1<(n.2.2.2.2.2.2.length:Int))∨(x.1=4∧n.1=9∧0≤x.2.2.1∧x.2.2.1≤255)):=by
 have hx:=(zd1 hf).1;have h5:x.1≠5:=fun h=>by simp [rdy,h] at hr
 obtain ⟨n,hn,_⟩:=zf8 hx h5;have hm:n∈d:=by
  obtain ⟨k,_,hk⟩:=zos hn;exact List.mem_of_getElem? hk
 refine ⟨n,hn,hm, ?_⟩;unfold ze7 at hx;rw [if_neg h5,hn] at hx;simp only [rdy,hn,Bool.or_eq_true,beq_iff_eq,Bool.and_eq_true] at hr;simp only at hx;rcases hr with (h3 | h4) | ⟨h1,h2⟩
 ·rw [if_neg (by omega),if_neg (by omega),if_pos h3] at hx;simp only [Bool.and_eq_true,beq_iff_eq,decide_eq_true_eq] at hx;exact .inr (.inl ⟨h3,hx.1.1.1,hx.1.1.2,hx.1.2,hx.2⟩)
 ·rw [if_neg (by omega),if_neg (by omega),if_neg (by omega),if_pos h4] at hx;simp only [Bool.and_eq_true,beq_iff_eq,decide_eq_true_eq] at hx;exact .inr (.inr ⟨h4,hx.1.1.1,hx.1.2,hx.2⟩)
 ·exact .inl ⟨h1,by omega⟩
theorem zoq {s:Str} {i:Int} (h0:0≤i) (h1:i<(s.length:Int)):∃c,zei s i=some c∧InR .u8 c:=by
 obtain ⟨x,hx,_⟩:=zot h0 h1;refine ⟨(x.toNat:Int),by unfold zei;rw [hx];rfl,zgy.2 ⟨by omega, ?_⟩⟩;have:=x.toNat_lt;omega
theorem next_Read_in {d:List SNode} (hd:ROk d) (hl:d.length≤1000) (ht:∀n∈d,n.2.2.2.2.2.2.length≤140737488351232) {s:List SItem} (hs:s.length≤1000) (hf:zeh d s=true) (hr:rdy d s=true) {c:Int} (hc:InR .u8 c):zli d s c (zbh d s c):=by
 cases s with
 | nil=>exact ⟨fun _=>rfl,fun h=>by simp at h⟩
 | cons x rest=>
  have hls:rest.length≤1000:=by simp at hs;omega
  have hcr:=zgy.1 hc;obtain ⟨n,hn,hm,hk⟩:=zjy hf hr;have htn:=ht n hm;have hlow:=zr6 hls (itR_all hd hl ht (zd1 hf).2);have hlen:=zrx rest;refine ⟨fun h=>by simp at h;omega,fun _=>⟨⟨by omega,by simp;omega⟩,zeg rest,hlow,x,rfl,fun hb=>?_,fun hb=>⟨x,rfl,n,hn,x,rfl, ?_⟩⟩⟩
  ·have hmh:zh2 gfmS x.1=true:=by rcases hk with ⟨h,_⟩ | ⟨h,_⟩ | ⟨h,_⟩ <;> rw [h] <;> rfl
   rw [hmh] at hb;simp only [Bool.not_true,Bool.or_false,Bool.not_eq_true'] at hb;unfold zbh;simp only;rw [if_pos hb]
  ·simp only [Bool.or_eq_false_iff,Bool.not_eq_false'] at hb;have hb1:¬ (zeg rest).2=false:=by rw [hb.1];simp
   have cat:∀l:List SItem,l.length≤2→zg [l,(zeg rest).1] (l++(zeg rest).1):=fun l h=>zqc (by omega) (by omega);rcases hk with ⟨h1,h2⟩ | ⟨h3,h4,h5,h6,h7⟩ | ⟨h4,h9,h6,h7⟩
   ·-- a node
    have e1:zel gfmS x.1 none=zel gfmS 1 none:=by rw [h1]
    rw [e1];rcases h2 with h2 | h2 | h2
    ·by_cases hh:n.2.2.2.2.2.1.has c.toNat=true
     ·have hrd:zbh d (x::rest) c=([]++(zeg rest).1,true):=by
       unfold zbh;simp only [hn];rw [if_neg hb1,if_neg (by omega),if_neg (by omega),if_neg (by omega),if_neg (by omega),if_pos hh];rfl
      rw [hrd];refine ⟨([],true),.inl ⟨rfl,fun h=>by simp [h2] at h,fun _=>⟨fun h=>by simp [h2] at h,fun _=>⟨_,zm0 hc,by rw [hh]⟩⟩⟩,fun h=>by simp at h,fun _=>⟨_,cat [] (by simp),rfl⟩⟩
     ·have hh':n.2.2.2.2.2.1.has c.toNat=false:=by simpa using hh
      have hrd:zbh d (x::rest) c=([],false):=by
       unfold zbh;simp only [hn];rw [if_neg hb1,if_neg (by omega),if_neg (by omega),if_neg (by omega),if_neg (by omega),if_neg hh]
      rw [hrd];exact ⟨([],false),.inl ⟨rfl,fun h=>by simp [h2] at h,fun _=>⟨fun h=>by simp [h2] at h,fun _=>⟨_,zm0 hc,by rw [hh']⟩⟩⟩,fun _=>rfl,fun h=>by simp at h⟩
    ·have hrd:zbh d (x::rest) c=([(1,n.2.1,0,0),(5,0,c,0)]++(zeg rest).1,true):=by
      unfold zbh;simp only [hn];rw [if_neg hb1,if_neg (by omega),if_neg (by omega),if_pos h2]
     rw [hrd];exact ⟨([(1,n.2.1,0,0),(5,0,c,0)],true),.inl ⟨rfl,fun _=>⟨_,rfl,rfl⟩,fun h=>by simp [h2] at h⟩,fun h=>by simp at h,fun _=>⟨_,cat _ (by simp),rfl⟩⟩
    ·have hrd:zbh d (x::rest) c=([(4,x.2.1,c,0)]++(zeg rest).1,true):=by
      unfold zbh;simp only [hn];rw [if_neg hb1,if_neg (by omega),if_neg (by omega),if_neg (by omega),if_pos h2]
     rw [hrd];exact ⟨([(4,x.2.1,c,0)],true),.inl ⟨rfl,fun h=>by simp [h2] at h,fun _=>⟨fun _=>rfl,fun h=>by simp [h2] at h⟩⟩,fun h=>by simp at h,fun _=>⟨_,cat _ (by simp),rfl⟩⟩
   ·-- a text
    have e1:zel gfmS x.1 none=zel gfmS 3 none:=by rw [h3]
    rw [e1];obtain ⟨b,hb2,_⟩:=zoq h6 h7;obtain ⟨xk,xi,xl,xh⟩:=x;simp only at h3 h5 h6 h7 hb2 hn;subst h3;subst h5
    by_cases hbc:b=c
    ·subst hbc
     by_cases hlast:xl+1<(n.2.2.2.2.2.2.length:Int)
     ·have hrd:zbh d ((3,xi,xl,0)::rest) b=([(3,xi,xl+1,0)]++(zeg rest).1,true):=by
       unfold zbh;simp only [hn];rw [if_neg hb1,if_pos trivial,if_pos hb2,if_pos hlast]
      rw [hrd];refine ⟨([(3,xi,xl+1,0)],true),.inr (.inl ⟨rfl,zj (by show _≤xl+1;omega) (by show xl+1≤_;omega),_,rfl,fun h=>?_,fun _=>⟨b,hb2,by simp⟩⟩),fun h=>by simp at h,fun _=>⟨_,cat _ (by simp),rfl⟩⟩;simp at h;omega
     ·have hrd:zbh d ((3,xi,xl,0)::rest) b=([]++(zeg rest).1,true):=by
       unfold zbh;simp only [hn];rw [if_neg hb1,if_pos trivial,if_pos hb2,if_neg hlast]
      rw [hrd];refine ⟨([],true),.inr (.inl ⟨rfl,zj (by show _≤xl+1;omega) (by show xl+1≤_;omega),_,rfl,fun _=>⟨b,hb2,by simp⟩,fun h=>?_⟩),fun h=>by simp at h,fun _=>⟨_,cat _ (by simp),rfl⟩⟩;simp at h;omega
    ·have hne:¬ zei n.2.2.2.2.2.2 xl=some c:=by rw [hb2];simpa using hbc
     have hrd:zbh d ((3,xi,xl,0)::rest) c=([],false):=by
      unfold zbh;simp only [hn];rw [if_neg hb1,if_pos trivial,if_neg hne]
     rw [hrd];have hbeq:(b==c)=false:=by simpa using hbc
     by_cases hlast:xl+1=(n.2.2.2.2.2.2.length:Int)
     ·refine ⟨([],false),.inr (.inl ⟨rfl,zj (by show _≤xl+1;omega) (by show xl+1≤_;omega),_,rfl,fun _=>⟨b,hb2,by rw [hbeq]⟩,fun h=>?_⟩),fun _=>rfl,fun h=>by simp at h⟩;simp at h;omega
     ·refine ⟨([(3,xi,xl+1,0)],false),.inr (.inl ⟨rfl,zj (by show _≤xl+1;omega) (by show xl+1≤_;omega),_,rfl,fun h=>?_,fun _=>⟨b,hb2,by rw [hbeq]⟩⟩),fun _=>rfl,fun h=>by simp at h⟩;simp at h;omega
   ·-- half a number
    have e1:zel gfmS x.1 none=zel gfmS 4 none:=by rw [h4]
    rw [e1];have hrd:zbh d (x::rest) c=([(1,n.2.1,0,0),(5,0,256*x.2.2.1+c,0)]++(zeg rest).1,true):=by
     unfold zbh;simp only [hn];rw [if_neg hb1,if_neg (by omega),if_pos h4]
    rw [hrd];exact ⟨([(1,n.2.1,0,0),(5,0,256*x.2.2.1+c,0)],true),.inr (.inr ⟨rfl,zj (by show _≤256*x.2.2.1;omega) (by show 256*x.2.2.1≤_;omega),zj (by show _≤256*x.2.2.1+c;omega) (by show 256*x.2.2.1+c≤_;omega),_,rfl,rfl⟩),fun h=>by simp at h,fun _=>⟨_,cat _ (by simp),rfl⟩⟩
theorem zq3 {d:List SNode} (hd:ROk d) (hl:d.length≤1000) (ht:∀n∈d,n.2.2.2.2.2.2.length≤140737488351232) {s:List SItem} (hs:s.length≤1000) (hf:zeh d s=true) (hr:rdy d s=true) {c:Int} (hc:InR .u8 c):zju d s c (zbh d s c):=by
 cases s with
 | nil=>exact ⟨fun _=>rfl,fun h=>by simp at h⟩
 | cons x rest=>
  have hls:rest.length≤1000:=by simp at hs;omega
  have hcr:=zgy.1 hc;obtain ⟨n,hn,hm,hk⟩:=zjy hf hr;have htn:=ht n hm;have hlow:=zpa hls (itR_all hd hl ht (zd1 hf).2);have hlen:=zrx rest;refine ⟨fun h=>by simp at h;omega,fun _=>⟨⟨by omega,by simp;omega⟩,zeg rest,hlow,fun hb=>?_,fun hb=>⟨x,rfl,n,hn, ?_⟩⟩⟩
  ·simp only [Bool.not_eq_true'] at hb;unfold zbh;simp only;rw [if_pos hb]
  ·simp only [Bool.not_eq_false'] at hb;have hb1:¬ (zeg rest).2=false:=by rw [hb];simp
   rcases hk with ⟨h1,h2⟩ | ⟨h3,h4,h5,h6,h7⟩ | ⟨h4,h9,h6,h7⟩
   ·refine ⟨fun h=>by simp [h1] at h,fun _=>⟨fun h=>by simp [h1] at h,fun _=>?_⟩⟩;rcases h2 with h2 | h2 | h2
    ·refine ⟨fun h=>by simp [h2] at h,fun _=>⟨fun h=>by simp [h2] at h,fun _=>⟨_,ref01_Has_u8 hc,fun hh=>?_,fun hh=>⟨by simp;omega, ?_⟩⟩⟩⟩
     ·have hh':¬ n.2.2.2.2.2.1.has c.toNat=true:=by simpa using hh
      unfold zbh;simp only [hn];rw [if_neg hb1,if_neg (by omega),if_neg (by omega),if_neg (by omega),if_neg (by omega),if_neg hh']
     ·have hh':n.2.2.2.2.2.1.has c.toNat=true:=by simpa using hh
      unfold zbh;simp only [hn];rw [if_neg hb1,if_neg (by omega),if_neg (by omega),if_neg (by omega),if_neg (by omega),if_pos hh'];rfl
    ·refine ⟨fun _=>⟨by simp;omega, ?_⟩,fun h=>by simp [h2] at h⟩;unfold zbh;simp only [hn];rw [if_neg hb1,if_neg (by omega),if_neg (by omega),if_pos h2]
    ·refine ⟨fun h=>by simp [h2] at h,fun _=>⟨fun _=>⟨by simp;omega, ?_⟩,fun h=>by simp [h2] at h⟩⟩;unfold zbh;simp only [hn];rw [if_neg hb1,if_neg (by omega),if_neg (by omega),if_neg (by omega),if_pos h2]
   ·obtain ⟨b,hb2,_⟩:=zoq h6 h7;refine ⟨fun _=>⟨b,hb2,fun hbc=>?_,fun hbc=>⟨zj (by omega) (by omega),_,rfl,fun hl2=>⟨zj (by omega) (by omega),by simp;omega, ?_⟩,fun hl2=>⟨by simp;omega, ?_⟩⟩⟩,fun h=>by simp [h3] at h⟩
    ·have hne:¬ zei n.2.2.2.2.2.2 x.2.2.1=some c:=by rw [hb2];simpa using hbc
     unfold zbh;simp only [hn];rw [if_neg hb1,if_pos h3,if_neg hne]
    ·have he:zei n.2.2.2.2.2.2 x.2.2.1=some c:=by rw [hb2];simpa using hbc
     unfold zbh;simp only [hn];rw [if_neg hb1,if_pos h3,if_pos he,if_pos (dt hl2)]
    ·have he:zei n.2.2.2.2.2.2 x.2.2.1=some c:=by rw [hb2];simpa using hbc
     unfold zbh;simp only [hn];rw [if_neg hb1,if_pos h3,if_pos he,if_neg (df hl2)]
   ·refine ⟨fun h=>by simp [h4] at h,fun _=>⟨fun _=>⟨zj (by omega) (by omega),zj (by omega) (by omega),by simp;omega, ?_⟩,fun h=>by simp [h4] at h⟩⟩;unfold zbh;simp only [hn];rw [if_neg hb1,if_neg (by omega),if_pos h4]
def zp6 (c:Int) (n:SNode):SNode:=(n.1,if 4≤n.1 then n.2.1+c else n.2.1,if n.1=4∨n.1=5 then n.2.2.1+c else n.2.2.1,n.2.2.2.1,n.2.2.2.2.1,n.2.2.2.2.2.1,n.2.2.2.2.2.2)
def zow (c:Int) (l:List SNode):List SNode:=l.map (zp6 c)
theorem zg9 (c:Int) (l:List SNode):(zow c l).length=l.length:=List.length_map ..
theorem moved_in {l:List SNode} {c:Int} (hl:l.length≤1000) (hr:∀n∈l,InR .i64 (n.2.1+c)∧InR .i64 (n.2.2.1+c)):zba l c (zow c l):=by
 refine zgf (P:=fun k (o:List SNode) v=>zba.l1 l c _ k o v) l.length (fun i o=>o=zow c (l.take i)) ?_ ?_ [] (by simp [zow])
 ·rintro i o hi rfl;have hat:at? l (i:Int)=some l[i]:=by rw [zb2];simp [hi]
  obtain ⟨r1,r2⟩:=hr _ (List.getElem_mem hi);have e:zow c (l.take (i+1))=zow c (l.take i)++[zp6 c l[i]]:=by
   unfold zow;rw [List.take_succ_eq_append_getElem hi,List.map_append];rfl
  have hll:(zow c (l.take i)).length=i:=by rw [zg9];simp;omega
  refine .inr ⟨_,rfl,fun k hk=>⟨fun _=>⟨l[i],hat, ?_⟩,fun h=>absurd (by omega) (df h)⟩⟩;rw [e] at hk;have last:∀w:SNode,w=zp6 c l[i]→zba.j2 (zba.l1 l c (zba.j1 (zow c l)) k) (zow c (l.take i)) (i:Int) w:=by
   rintro w rfl;exact ⟨by rw [hll];simp;omega,zj (by omega) (by omega),hk⟩
  generalize l[i]=n at *;obtain ⟨k0,a,b,lo,hi2,cl,tx⟩:=n;simp only at r1 r2;refine ⟨fun h4=>⟨r1,fun h5=>⟨r2,last _ ?_⟩,fun h5=>last _ ?_⟩,fun h4=>⟨fun h5=>?_,fun h5=>last _ ?_⟩⟩
  ·have:=dt h4;simp only at this;simp only [Bool.or_eq_true,beq_iff_eq] at h5;simp only [zp6,if_pos this,if_pos h5]
  ·have:=dt h4;simp only at this;simp only [Bool.or_eq_false_iff,beq_eq_false_iff_ne] at h5;have h5':¬ (k0=4∨k0=5):=by omega
   simp only [zp6,if_pos this,if_neg h5']
  ·exfalso;have:=df h4;simp only at this;simp only [Bool.or_eq_true,beq_iff_eq] at h5;omega
  ·have:=df h4;simp only at this;have h5':¬ (k0=4∨k0=5):=by omega
   simp only [zp6,if_neg this,if_neg h5']
 ·rintro o rfl k;refine ⟨fun h=>absurd (dt h) (by omega),fun _=>?_⟩;show zow c l=zow c (l.take l.length);rw [List.take_length]
theorem movN_zero (n:SNode):zp6 0 n=n:=by
 obtain ⟨k,a,b,r⟩:=n;simp [zp6]
theorem movL_zero (l:List SNode):zow 0 l=l:=by
 unfold zow;rw [show zp6 0=id from funext movN_zero,List.map_id]
def zmh (k:Int) (a b:List SNode):List SNode:=(a++zow (a.length:Int) b)++[(k,(a.length:Int)-1,((a.length:Int)+(b.length:Int))-1,0,0,(0#256),([]:Str))]
def zkw (k:Int) (a:List SNode):List SNode:=a++[(k,(a.length:Int)-1,0,0,0,(0#256),([]:Str))]
structure Sma (d:List SNode):Prop where
 a:∀n∈d,0≤n.2.1∧n.2.1≤(d.length:Int)
 b:∀n∈d,0≤n.2.2.1∧n.2.2.1≤(d.length:Int)
theorem Tr.parts {l:List SNode} {f i:Int} (h:Tr l f i) {n:SNode} (hn:at? l i=some n):(0≤n.2.1∧n.2.1≤i)∧(0≤n.2.2.1∧n.2.2.1≤i):=by
 have hb:=zb6 hn;cases h with
 | leaf he hk hx h0=>rw [hn] at he;cases he;omega
 | one he hk ha hb hr h=>rw [hn] at he;cases he;have:=h.le;omega
 | two he hk ha hb h1 h2=>rw [hn] at he;cases he;have:=h1.le;have:=h2.le;omega
theorem mem_at {α:Type} {l:List α} {x:α} (h:x∈l):∃i:Int,at? l i=some x:=by
 obtain ⟨i,hi,e⟩:=List.mem_iff_getElem.1 h;exact ⟨(i:Int),by rw [zb2];simp [hi,e]⟩
theorem Tr.sma {d:List SNode} (h:Tr d 0 ((d.length:Int)-1)):Sma d:=by
 constructor
 all_goals
  intro n hn;obtain ⟨i,hi⟩:=mem_at hn;obtain ⟨g,hg⟩:=h.at hi;have:=hg.parts hi;have:=zb6 hi;omega
theorem zru {d:List SNode} (h:Tr d 0 ((d.length:Int)-1)) (hl:d.length≤1000) {c:Int} (h0:0≤c) (h1:c≤1000):zba d c (zow c d):=
 moved_in hl fun n hn=>by
  have:=h.sma.a n hn;have:=h.sma.b n hn;exact ⟨zj (by omega) (by omega),zj (by omega) (by omega)⟩
theorem Pair_in {k:Int} {a b:List SNode} (ha:Tr a 0 ((a.length:Int)-1)) (hb:Tr b 0 ((b.length:Int)-1)) (la:a.length≤1000) (lb:b.length≤1000):zjw k a b (zmh k a b):=by
 refine ⟨_,zru ha la (Int.le_refl 0) (by omega),_,zru hb lb (c:=(a.length:Int)) (by omega) (by omega),by rw [zg9,zg9];omega,zj (by omega) (by omega),zj (by omega) (by omega),zj (by omega) (by omega),by rw [List.length_append,zg9,zg9];simp;omega, ?_⟩;rw [movL_zero];rfl
theorem Wrap_in {k:Int} {a:List SNode} (ha:Tr a 0 ((a.length:Int)-1)) (la:a.length≤1000):zhz k 0 0 a (zkw k a):=by
 refine ⟨_,zru ha la (Int.le_refl 0) (by omega),zj (by omega) (by omega),by rw [zg9];simp;omega, ?_⟩;rw [movL_zero];rfl
structure Emb (l l':List SNode) (c:Int):Prop where
 nn:0≤c
 at':∀i n,at? l i=some n→at? l' (i+c)=some (zp6 c n)
theorem Tr.emb {l l':List SNode} {c:Int} (h:Emb l l' c) {f i:Int} (t:Tr l f i):Tr l' (f+c) (i+c):=by
 induction t with
 | leaf he hk hx h0=>
  rename_i i e
  have e1:zp6 c e=e:=by
   obtain ⟨k,a,b,r⟩:=e;simp only at hk;simp only [zp6,if_neg (show ¬ 4≤k by omega),if_neg (show ¬ (k=4∨k=5) by omega)]
  exact .leaf (e1 ▸ h.at' _ _ he) hk hx h0
 | one he hk ha hb hr t ih=>
  rename_i f i e
  refine .one (h.at' _ _ he) hk ?_ ?_ hr (by have e:i-1+c=i+c-1:=by omega
                                             rw [← e];exact ih)
  ·simp only [zp6];rw [if_pos (by omega)];omega
  ·simp only [zp6];rw [if_neg (by omega)];exact hb
 | two he hk ha hb t1 t2 i1 i2=>
  rename_i f p i e
  refine .two (p:=p+c) (h.at' _ _ he) hk ?_ ?_ (by have e:i-1+c=i+c-1:=by omega
                                                   rw [← e];exact i1) (by have e:p-1+c=p+c-1:=by omega
                                                                          rw [← e];exact i2)
  ·simp only [zp6];rw [if_pos (by omega)];omega
  ·simp only [zp6];rw [if_pos (by omega)];omega
theorem Emb.get {l l':List SNode} {c:Int} (h:Emb l l' c) {i:Int} {n:SNode} (hn:at? l i=some n):∃m,at? l' (i+c)=some m∧m.1=n.1∧(4≤n.1→m.2.1=n.2.1+c)∧(n.1=4∨n.1=5→m.2.2.1=n.2.2.1+c)∧m.2.2.2.1=n.2.2.2.1∧m.2.2.2.2.1=n.2.2.2.2.1:=
 ⟨zp6 c n,h.at' _ _ hn,rfl,fun h=>if_pos h,fun h=>if_pos h,rfl,rfl⟩
theorem nz_emb {l l':List SNode} {c:Int} (h:Emb l l' c) (hl:NOk l) (hl':NOk l'):∀(k:Nat) (i:Int) (n:SNode),i<(k:Int)→at? l i=some n→nz l' (i+c)=nz l i
 | 0,i,n,hi,hn=>by have:=zb6 hn;omega
 | k+1,i,n,hi,hn=>by
  have ih:=nz_emb h hl hl' k;obtain ⟨m,hm,f1,f2,f3,f4,f5⟩:=h.get hn;rw [nz_atN hl hn,nz_atN hl' hm,f1,f4]
  by_cases h1:n.1=1
  ·rw [if_pos h1,if_pos h1]
  ·rw [if_neg h1,if_neg h1]
   by_cases h4:n.1=4
   ·obtain ⟨⟨a,b⟩,c',e⟩:=hl.two _ n hn (.inl h4);obtain ⟨m1,hm1⟩:=zet hn a b;obtain ⟨m2,hm2⟩:=zet hn c' e;rw [if_pos h4,if_pos h4,f2 (by omega),f3 (.inl h4),ih _ m1 (by omega) hm1,ih _ m2 (by omega) hm2]
   ·rw [if_neg h4,if_neg h4]
    by_cases h5:n.1=5
    ·obtain ⟨⟨a,b⟩,c',e⟩:=hl.two _ n hn (.inr h5);obtain ⟨m1,hm1⟩:=zet hn a b;obtain ⟨m2,hm2⟩:=zet hn c' e;rw [if_pos h5,if_pos h5,f2 (by omega),f3 (.inr h5),ih _ m1 (by omega) hm1,ih _ m2 (by omega) hm2]
    ·rw [if_neg h5,if_neg h5]
     by_cases h6:n.1=6
     ·rw [if_pos h6,if_pos h6]
     ·rw [if_neg h6,if_neg h6]
      by_cases h7:n.1=7
      ·obtain ⟨a,b⟩:=hl.one _ n hn (.inr (.inl h7));obtain ⟨m1,hm1⟩:=zet hn a b;rw [if_pos h7,if_pos h7,f2 (by omega),ih _ m1 (by omega) hm1]
      ·rw [if_neg h7,if_neg h7]
theorem PM_rng {d:List SNode} (hd:ROk d):∀(k:Nat) (i:Int),i<(k:Int)→∀p∈pm d i,∃x q,p=x::q∧0≤x.2.1∧x.2.1<(d.length:Int)
 | 0,i,hi,p,hp=>by
  have:at? d i=none:=at_none (.inl (by omega));unfold pm at hp;rw [zjo hd d.length 0 i] at hp
  ·simp [PM] at hp
  ·omega
  ·omega
 | k+1,i,hi,p,hp=>by
  have ih:=PM_rng hd k;cases hn:at? d i with
  | none=>
   exfalso;unfold pm at hp;cases hdl:d.length with
   | zero=>rw [hdl] at hp;simp [PM] at hp
   | succ m=>rw [hdl] at hp;simp [PM,hn] at hp
  | some n=>
   have hb:=zb6 hn;have e1:pm d i=(PM d d.length i).1:=rfl;rw [e1,zpn hd hn] at hp;have app:∀(a:Int) (y:SItem),a<i→p∈(pm d a).map (·++[y])→∃x q,p=x::q∧0≤x.2.1∧x.2.1<(d.length:Int):=by
    intro a y ha h;obtain ⟨q,hq,rfl⟩:=List.mem_map.1 h;obtain ⟨x,q',rfl,h1,h2⟩:=ih a (by omega) q hq;exact ⟨x,q'++[y],rfl,h1,h2⟩
   by_cases h1:n.1=1
   ·simp [h1] at hp
   ·by_cases h3:n.1=3
    ·simp [h3] at hp;subst hp;exact ⟨_,_,rfl,hb⟩
    ·by_cases h4:n.1=4
     ·obtain ⟨⟨a,b⟩,c',e⟩:=hd.two _ n hn (.inl h4);rw [if_neg h1,if_neg h3,if_pos h4] at hp;rcases List.mem_append.1 hp with hp | hp
      ·exact app _ _ b hp
      ·obtain ⟨l,hl,hp⟩:=List.mem_flatten.1 hp;rw [List.mem_replicate.1 hl |>.2] at hp;exact ih _ (by omega) p hp
     ·by_cases h5:n.1=5
      ·obtain ⟨⟨a,b⟩,c',e⟩:=hd.two _ n hn (.inr h5);rw [if_neg h1,if_neg h3,if_neg h4,if_pos h5] at hp;rcases List.mem_append.1 hp with hp | hp
       ·exact ih _ (by omega) p hp
       ·exact ih _ (by omega) p hp
      ·by_cases h6:n.1=6
       ·obtain ⟨a,b⟩:=hd.one _ n hn (.inl h6);rw [if_neg h1,if_neg h3,if_neg h4,if_neg h5,if_pos h6] at hp;exact app _ _ b hp
       ·by_cases h7:n.1=7
        ·obtain ⟨a,b⟩:=hd.one _ n hn (.inr (.inl h7));rw [if_neg h1,if_neg h3,if_neg h4,if_neg h5,if_neg h6,if_pos h7] at hp;simp only at hp;split at hp
         ·exact app _ _ b hp
         ·cases hp
        ·rw [if_neg h1,if_neg h3,if_neg h4,if_neg h5,if_neg h6,if_neg h7] at hp;rw [List.mem_singleton] at hp;subst hp;exact ⟨_,_,rfl,hb⟩
theorem at_left {α:Type} {a b:List α} {i:Int} {x:α} (h:at? a i=some x):at? (a++b) i=some x:=by
 obtain ⟨k,rfl,hk⟩:=zos h;rw [zb2,List.getElem?_append_left (List.getElem?_eq_some_iff.1 hk).1];exact hk
theorem zsf {α:Type} {a b:List α} {i:Int} {x:α} (h:at? b i=some x):at? (a++b) (i+(a.length:Int))=some x:=by
 obtain ⟨k,rfl,hk⟩:=zos h;have e:(k:Int)+(a.length:Int)=((k+a.length:Nat):Int):=by omega
 rw [e,zb2,List.getElem?_append_right (by omega),Nat.add_sub_cancel];exact hk
theorem at_app {α:Type} {a b:List α} {i:Int} {x:α} (h:at? (a++b) i=some x):at? a i=some x∨at? b (i-(a.length:Int))=some x:=by
 obtain ⟨k,rfl,hk⟩:=zos h;rcases Nat.lt_or_ge k a.length with hlt | hge
 ·rw [List.getElem?_append_left hlt] at hk;exact .inl (by rw [zb2];exact hk)
 ·rw [List.getElem?_append_right hge] at hk;have e:(k:Int)-(a.length:Int)=((k-a.length:Nat):Int):=by omega
  exact .inr (by rw [e,zb2];exact hk)
theorem at_one {α:Type} {x y:α} {i:Int} (h:at? [x] i=some y):i=0∧y=x:=by
 have hb:=zb6 h;simp at hb;obtain rfl:i=0:=by omega
 cases h;exact ⟨rfl,rfl⟩
theorem at_movL {c:Int} {l:List SNode} {i:Int} {n:SNode} (h:at? l i=some n):at? (zow c l) i=some (zp6 c n):=by
 obtain ⟨k,rfl,hk⟩:=zos h;rw [zb2];unfold zow;rw [List.getElem?_map,hk];rfl
theorem at_movL_inv {c:Int} {l:List SNode} {i:Int} {n:SNode} (h:at? (zow c l) i=some n):∃m,at? l i=some m∧n=zp6 c m:=by
 obtain ⟨k,rfl,hk⟩:=zos h;unfold zow at hk;rw [List.getElem?_map] at hk;obtain ⟨m,h1,h2⟩:=Option.map_eq_some_iff.1 hk;exact ⟨m,by rw [zb2];exact h1,h2.symm⟩
theorem emb_left {a:List SNode} (r:List SNode):Emb a (a++r) 0:=⟨Int.le_refl _,fun i n h=>by rw [movN_zero,Int.add_zero];exact at_left h⟩
theorem emb_mid {a b r:List SNode}:Emb b ((a++zow (a.length:Int) b)++r) (a.length:Int):=⟨by omega,fun i n h=>at_left (zsf (at_movL h))⟩
theorem pair_len (k:Int) (a b:List SNode):(zmh k a b).length=a.length+b.length+1:=by simp [zmh,zg9];omega
theorem wrap_len (k:Int) (a:List SNode):(zkw k a).length=a.length+1:=by simp [zkw]
theorem pair_root (k:Int) (a b:List SNode):at? (zmh k a b) ((a.length:Int)+(b.length:Int))=some (k,(a.length:Int)-1,((a.length:Int)+(b.length:Int))-1,0,0,(0#256),([]:Str)):=by
 have:=zsf (a:=a++zow (a.length:Int) b) (b:=[(k,(a.length:Int)-1,((a.length:Int)+(b.length:Int))-1,0,0,(0#256),([]:Str))]) (i:=0) rfl;rw [List.length_append,zg9] at this;have e:(0:Int)+((a.length+b.length:Nat):Int)=(a.length:Int)+(b.length:Int):=by omega
 rw [e] at this;exact this
theorem wrap_root (k:Int) (a:List SNode):at? (zkw k a) (a.length:Int)=some (k,(a.length:Int)-1,0,0,0,(0#256),([]:Str)):=by
 have:=zsf (a:=a) (b:=[(k,(a.length:Int)-1,0,0,0,(0#256),([]:Str))]) (i:=0) rfl;rw [Int.zero_add] at this;exact this
theorem pair_rt {k:Int} {a b:List SNode} (ha:Rt a) (hb:Rt b) (hk:k=4∨k=5):Rt (zmh k a b):=by
 have ea:Emb a (zmh k a b) 0:=by unfold zmh;rw [List.append_assoc];exact emb_left _
 have eb:Emb b (zmh k a b) (a.length:Int):=emb_mid;have ta:=ha.tr.emb ea;have tb:=hb.tr.emb eb;have tr:Tr (zmh k a b) 0 (((zmh k a b).length:Int)-1):=by
  have e:(((zmh k a b).length:Int)-1)=(a.length:Int)+(b.length:Int):=by rw [pair_len];omega
  rw [e];refine .two (p:=(a.length:Int)) (pair_root k a b) hk rfl rfl ?_ ?_
  ·have e1:(b.length:Int)-1+(a.length:Int)=(a.length:Int)+(b.length:Int)-1:=by omega
   rw [e1,Int.zero_add] at tb;exact tb
  ·rw [Int.add_zero,Int.add_zero] at ta;exact ta
 have nk:=tr.nok;refine ⟨⟨nk.two,nk.one,nk.rep,nk.kind,nk.ntx,fun i n hn h67=>?_⟩,tr⟩;unfold zmh at hn;rcases at_app hn with hn | hn
 ·rcases at_app hn with hn | hn
  ·obtain ⟨p,q⟩:=ha.one _ n hn (by omega);obtain ⟨m,hm⟩:=zet hn p q;have:=nz_emb ea ha.nok nk a.length _ m (by have:=zb6 hm;omega) hm;rw [Int.add_zero] at this;rw [this];exact ha.nn _ n hn h67
  ·obtain ⟨m0,hm0,rfl⟩:=at_movL_inv hn;have hk0:m0.1=6∨m0.1=7:=h67;obtain ⟨p,q⟩:=hb.one _ m0 hm0 (by omega);obtain ⟨m,hm⟩:=zet hm0 p q;have:=nz_emb eb hb.nok nk b.length _ m (by have:=zb6 hm;omega) hm;simp only [zp6];rw [if_pos (by omega),this];exact hb.nn _ m0 hm0 hk0
 ·obtain ⟨_,rfl⟩:=at_one hn;simp only at h67;omega
theorem wrap_rt {k:Int} {a:List SNode} (ha:Rt a) (hk:k=6∨k=8∨k=9) (hz:k=6→nz a ((a.length:Int)-1)=false):Rt (zkw k a):=by
 have ea:Emb a (zkw k a) 0:=emb_left _;have ta:=ha.tr.emb ea;have tr:Tr (zkw k a) 0 (((zkw k a).length:Int)-1):=by
  have e:(((zkw k a).length:Int)-1)=(a.length:Int):=by rw [wrap_len];omega
  rw [e];refine .one (wrap_root k a) (by simp only;omega) rfl rfl (fun h=>by simp only at h;omega) ?_;rw [Int.add_zero,Int.add_zero] at ta;exact ta
 have nk:=tr.nok;have hr:=ha.tr.le;refine ⟨⟨nk.two,nk.one,nk.rep,nk.kind,nk.ntx,fun i n hn h67=>?_⟩,tr⟩;unfold zkw at hn;have go:∀(A:Int) m,at? a A=some m→nz a A=false→nz (zkw k a) A=false:=fun A m hm hz=>by
  have:=nz_emb ea ha.nok nk a.length _ m (by have:=zb6 hm;omega) hm;rw [Int.add_zero] at this;rw [this];exact hz
 rcases at_app hn with hn | hn
 ·obtain ⟨p,q⟩:=ha.one _ n hn (by omega);obtain ⟨m,hm⟩:=zet hn p q;exact go _ m hm (ha.nn _ n hn h67)
 ·obtain ⟨_,rfl⟩:=at_one hn;simp only at h67 ⊢;obtain ⟨m,hm,_⟩:=zot (xs:=a) (i:=(a.length:Int)-1) hr.2 (by omega);exact go _ m hm (hz (by omega))
theorem leaf_rt {n:SNode} (hk:n.1=1∨n.1=2) (h0:n.2.1=0∧n.2.2.1=0):Rt [n]:=by
 have tr:Tr [n] 0 ((([n]:List SNode).length:Int)-1):=.leaf (e:=n) rfl (by omega) (fun h=>by omega) h0;have nk:=tr.nok;refine ⟨⟨nk.two,nk.one,nk.rep,nk.kind,nk.ntx,fun i m hm h67=>?_⟩,tr⟩;obtain ⟨_,rfl⟩:=at_one hm;omega
def zed (F:List SItem→Nat) (L:List (List SItem)):Nat:=(L.map F).sum
theorem zg3 (F:List SItem→Nat) (A B:List (List SItem)):zed F (A++B)=zed F A+zed F B:=by unfold zed;rw [List.map_append,List.sum_append]
theorem zjq (F:List SItem→Nat) (m:Nat) (L:List (List SItem)):zed F (List.replicate m L).flatten=m*zed F L:=by
 induction m with
 | zero=>simp [zed]
 | succ m ih=>rw [List.replicate_succ,List.flatten_cons,zg3,ih,Nat.succ_mul,Nat.add_comm]
theorem zg2 (F:List SItem→Nat) (g:List SItem→List SItem) (L:List (List SItem)):zed F (L.map g)=zed (fun t=>F (g t)) L:=by unfold zed;rw [List.map_map];rfl
theorem sumF_congr {F G:List SItem→Nat} {L:List (List SItem)} (h:∀t∈L,F t=G t):zed F L=zed G L:=by unfold zed;rw [List.map_congr_left h]
theorem pmI_ne {d:List SNode} (hd:ROk d) (x:SItem):∀p∈pmI d x,p≠[]:=by
 intro p hp e;subst e;have k1:∀i,[] ∉ pm d i:=fun i h=>by
  obtain ⟨y,q,e,_⟩:=PM_rng hd (i.toNat+1) i (by omega) _ h;cases e
 unfold pmI at hp;split at hp
 ·exact k1 _ hp
 ·split at hp
  ·split at hp
   ·split at hp
    ·obtain ⟨q,_,e⟩:=List.mem_map.1 hp;simp at e
    ·cases hp
   ·cases hp
  ·split at hp
   ·cases hp
   ·simp at hp
theorem hds_app {d:List SNode} (hd:ROk d) (F:List SItem→Nat) (r:List SItem):∀s,zed F (hds d (s++r))=zed (fun t=>if t=[] then zed F (hds d r) else F (t++r)) (hds d s)
 | []=>by simp [hds,zed]
 | x::s=>by
  have ih:=hds_app hd F r s;simp only [List.cons_append,hds];rw [zg3,zg3,zjq,zjq,zg2,zg2,ih]
  congr 1
  refine sumF_congr fun p hp=>?_;rw [if_neg (by have:=pmI_ne hd x p hp;simp [this]),List.append_assoc]
theorem lowF_app (s r:List SItem):zeg (s++r)=if (zeg s).2=true∧(zeg r).2=true then ((zeg s).1++(zeg r).1,true) else ([],false):=by
 unfold zeg;rw [List.any_append,List.map_append];cases s.any zlz <;> cases r.any zlz <;> simp
theorem readF_app {d:List SNode} {t:List SItem} (ht:t≠[]) (r:List SItem) (c:Int):zbh d (t++r) c=if (zbh d t c).2=true∧(zeg r).2=true then ((zbh d t c).1++(zeg r).1,true) else ([],false):=by
 cases t with
 | nil=>exact absurd rfl ht
 | cons x rest=>
  have hl:=lowF_app rest r;cases h1:(zeg rest).2
  ·have e1:zbh d (x::rest) c=([],false):=by unfold zbh;simp only;rw [if_pos h1]
   have e2:(zeg (rest++r)).2=false:=by rw [hl,h1];simp
   rw [e1];rw [List.cons_append];unfold zbh;simp only;rw [if_pos e2];simp
  ·cases h2:(zeg r).2
   ·have e2:(zeg (rest++r)).2=false:=by rw [hl,h2];simp
    rw [List.cons_append];have e3:zbh d (x::(rest++r)) c=([],false):=by unfold zbh;simp only;rw [if_pos e2]
    rw [e3,if_neg (by simp)]
   ·have e2:zeg (rest++r)=((zeg rest).1++(zeg r).1,true):=by rw [hl,h1,h2];simp
    rw [List.cons_append];unfold zbh;simp only [e2];rw [if_neg (show ¬ true=false by simp),if_neg (show ¬ (zeg rest).2=false by rw [h1];simp)];cases hn:at? d x.2.1 with
    | none=>simp
    | some n=>
     simp only
     by_cases h3:x.1=3
     ·rw [if_pos h3,if_pos h3];split
      ·simp
      ·simp
     ·rw [if_neg h3,if_neg h3]
      by_cases h4:x.1=4
      ·rw [if_pos h4,if_pos h4];simp
      ·rw [if_neg h4,if_neg h4]
       by_cases h8:n.1=8
       ·rw [if_pos h8,if_pos h8];simp
       ·rw [if_neg h8,if_neg h8]
        by_cases h9:n.1=9
        ·rw [if_pos h9,if_pos h9];simp
        ·rw [if_neg h9,if_neg h9]
         by_cases hh:n.2.2.2.2.2.1.has c.toNat=true
         ·rw [if_pos hh,if_pos hh];simp
         ·rw [if_neg hh,if_neg hh];simp
def lows:Nat→List SItem→Option (List SItem)
 | 0,s=>some s
 | p+1,s=>if (zeg s).2=true then lows p (zeg s).1 else none
theorem zp9 (d:List SNode) (r:Int):hds d [(1,r,0,0)]=pm d r++(List.replicate (nw d r) [[]]).flatten:=by
 have e1:pmI d (1,r,0,0)=pm d r:=rfl;have e2:nwI d (1,r,0,0)=nw d r:=rfl;simp only [hds,e1,e2,List.append_nil];rw [List.map_id']
theorem zht (d:List SNode) (F:List SItem→Nat) (i:Int):zed F (hds d [(1,i,0,0)])=zed F (pm d i)+nw d i*F []:=by
 have e1:pmI d (1,i,0,0)=pm d i:=rfl;have e2:nwI d (1,i,0,0)=nw d i:=rfl;simp only [hds,e1,e2,List.append_nil];rw [List.map_id',zg3,zjq];simp [zed]
theorem znn (d:List SNode) (F:List SItem→Nat) (i:Int) (r:List SItem):zed F (hds d ((1,i,0,0)::r))=zed (fun p=>F (p++r)) (pm d i)+nw d i*zed F (hds d r):=by
 have e1:pmI d (1,i,0,0)=pm d i:=rfl;have e2:nwI d (1,i,0,0)=nw d i:=rfl;simp only [hds,e1,e2];rw [zg3,zjq,zg2]
theorem zrr {d:List SNode} (hd:ROk d) {i:Int} {n:SNode} (hn:at? d i=some n) (h:n.1=6∨n.1=7):nw d n.2.1=0:=by
 obtain ⟨p,q⟩:=hd.one _ n hn (by omega);obtain ⟨m,hm⟩:=zet hn p q;have:=zkn hd (n.2.1.toNat+1) _ m (by omega) hm;rw [hd.nn _ n hn h] at this;rcases Nat.eq_zero_or_pos (nw d n.2.1) with h0 | h0
 ·exact h0
 ·have:=this.1 (by omega);cases this
def NoEnd (s:List SItem):Prop:=∀x∈s,x.1≠5
theorem lowF_plain {s:List SItem} (h:NoEnd s):zeg s=(s,true):=by
 unfold zeg;have h1:s.any zlz=false:=by
  rw [List.any_eq_false];intro x hx;simp [zlz,h x hx]
 rw [h1];simp only [Bool.false_eq_true,if_false,Prod.mk.injEq,and_true];have:∀x∈s,zl5 x=id x:=fun x hx=>by unfold zl5;rw [if_neg (h x hx)];rfl
 rw [List.map_congr_left this,List.map_id]
theorem zfq {s:List SItem} (h:NoEnd s):∀p,lows p s=some s
 | 0=>rfl
 | p+1=>by
  unfold lows;rw [lowF_plain h];simp only [if_true];exact zfq h p
section
variable {d : List SNode} (hd : ROk d) {i : Int} {n : SNode} (hn : at? d i = some n)
include hd hn
theorem zrn (h:n.1=2∨n.1=8∨n.1=9):pm d i=[[(1,i,0,0)]]∧nw d i=0:=by
 have e:=zpn hd hn;rw [if_neg (by omega),if_neg (by omega),if_neg (by omega),if_neg (by omega),if_neg (by omega),if_neg (by omega)] at e;have h1:pm d i=(PM d d.length i).1:=rfl;have h2:nw d i=(PM d d.length i).2:=rfl;rw [h1,h2,e];exact ⟨rfl,rfl⟩
end
end Go.Proofs.YtbojklnokglbhaaGreatDoor.V
namespace Go.Proofs.YtbojklnokglbhaaGreatDoor.V
open Go
set_option linter.unusedVariables false
theorem lows_end (m:Int) (hm:0≤m):∀p:Nat,lows p [(5,0,m,0)]=if (p:Int)≤m then some [(5,0,m-p,0)] else none:=by
 intro p
 induction p generalizing m with
 | zero=>simp [lows,hm]
 | succ p ih=>
  unfold lows
  by_cases h0:m≤0
  ·have e:zeg [(5,0,m,0)]=([],false):=by simp [zeg,zlz,h0]
   rw [e,if_neg (by simp),if_neg (by omega)]
  ·have e:zeg [(5,0,m,0)]=([(5,0,m-1,0)],true):=by simp [zeg,zlz,zl5,h0]
   rw [e];simp only [if_true];rw [ih (m-1) (by omega)]
   by_cases h1:((p+1:Nat):Int)≤m
   ·rw [if_pos (by omega),if_pos h1]
    congr 3
    simp;omega
   ·rw [if_neg (by omega),if_neg h1]
section
variable {d : List SNode} (hd : ROk d)
include hd
variable {i : Int} {n : SNode} (hn : at? d i = some n)
include hn
end
end Go.Proofs.YtbojklnokglbhaaGreatDoor.V
namespace Go.Proofs.YtbojklnokglbhaaGreatDoor.V
open Go
set_option linter.unusedVariables false
theorem heads_few {d:List SNode} {s:List SItem} (h:Sm d s) {B:List SBranch} (hB:Can (fun t=>(hds d s).count t) B):B.length≤10001:=by
 have h0:=zop hB (U:=CS d s) fun t ht=>hds_CS d s t (List.count_pos_iff.1 (by omega));have h1:=CS_few h.rt s;have h3:=h.slen;have h4:s.length*(d.length+1)≤400*25:=Nat.mul_le_mul h3 (by have:=h.len;omega);omega
theorem heads_ok {d:List SNode} {s:List SItem} (h:Sm d s) {t:List SItem} (ht:(hds d s).count t≠0):t.length≤424∧rdy d t=true∧zeh d t=true:=by
 obtain ⟨L,⟨k,hk⟩,hp⟩:=hds_lv h.rt.toROk s h.form;have hm:t∈L:=hp.mem_iff.2 (List.count_pos_iff.1 (by omega));obtain ⟨h1,h2⟩:=lv_vs h.rt.toROk (n0:=400) k s L hk (Vs.start h.form h.slen) t hm;have:=h1.len;have:=h.len;exact ⟨by omega,h2,h1.form⟩
def fB (d:List SNode) (c:Int) (B:List SBranch) (u:List SItem):Nat:=(B.map fun b=>if (zbh d b.1 c).2=true∧(zbh d b.1 c).1=u then b.2.toNat else 0).sum
theorem fB_snoc (d:List SNode) (c:Int) (B:List SBranch) (b:SBranch) (u:List SItem):fB d c (B++[b]) u=fB d c B u+if (zbh d b.1 c).2=true∧(zbh d b.1 c).1=u then b.2.toNat else 0:=by
 simp [fB]
theorem fB_pos {d:List SNode} {c:Int} {B:List SBranch} {u:List SItem} (h:fB d c B u≠0):∃b∈B,(zbh d b.1 c).2=true∧(zbh d b.1 c).1=u:=by
 induction B with
 | nil=>simp [fB] at h
 | cons b B ih=>
  by_cases hb:(zbh d b.1 c).2=true∧(zbh d b.1 c).1=u
  ·exact ⟨b,by simp,hb⟩
  ·have e:fB d c (b::B) u=fB d c B u:=by
    unfold fB;rw [List.map_cons,List.sum_cons,if_neg hb,Nat.zero_add]
   rw [e] at h;obtain ⟨b',h1,h2⟩:=ih h;exact ⟨b',by simp [h1],h2⟩
structure HOk (d:List SNode) (B:List SBranch):Prop where
 few:B.length≤10001
 ok:∀b∈B,b.1.length≤424∧rdy d b.1=true∧zeh d b.1=true
 many:∀b∈B,1≤b.2∧b.2≤2
theorem Sm.hok {d:List SNode} {s:List SItem} (h:Sm d s) {B:List SBranch} (hB:Can (fun t=>(hds d s).count t) B):HOk d B:=
 ⟨heads_few h hB,fun b hb=>heads_ok h (hB.many hb).2.1,fun b hb=>(hB.many hb).2.2⟩
theorem fB_read {d:List SNode} {c:Int} {B:List SBranch} (h:HOk d B) {u:List SItem} (hu:fB d c B u≠0):u.length≤425:=by
 obtain ⟨b,hb,_,rfl⟩:=fB_pos hu;have:=zlf d b.1 c;have:=(h.ok b hb).1;omega
theorem onB_len {d:List SNode} {c:Int} {B:List SBranch} {R:List SBranch} (hR:Can (fB d c B) R):R.length≤B.length:=by
 have:=zop hR (U:=B.map fun b=>(zbh d b.1 c).1) fun u hu=>by
  obtain ⟨b,hb,_,e⟩:=fB_pos hu;exact List.mem_map.2 ⟨b,hb,e⟩
 simpa using this
theorem HOk.take {d:List SNode} {B:List SBranch} (h:HOk d B) (i:Nat):HOk d (B.take i):=
 ⟨by have:=h.few;rw [List.length_take];omega,fun b hb=>h.ok b (List.mem_of_mem_take hb),fun b hb=>h.many b (List.mem_of_mem_take hb)⟩
section
variable {d : List SNode} (hd : ROk d) (hl : d.length ≤ 1000) (ht : ∀ n ∈ d,n.2.2.2.2.2.2.length ≤ 140737488351232) {c : Int} (hc : InR .u8 c) {B : List SBranch} (hB : HOk d B)
include hd hl ht hc hB
theorem ref15_On_l:∃R,(∃k,zc9.l1 d c B (zc9.j1 R) k [] 0)∧Can (fB d c B) R:=by
 have key:∀(m i:Nat) (out:List SBranch),i+m=B.length→Can (fB d c (B.take i)) out→∃(R:List SBranch) (k:Nat),zc9.l1 d c B (zc9.j1 R) k out (i:Int)∧Can (fB d c B) R:=by
  intro m
  induction m with
  | zero=>
   intro i out hi ho;rw [List.take_of_length_le (by omega)] at ho;exact ⟨out,1,⟨fun h=>absurd (dt h) (by omega),fun _=>rfl⟩,ho⟩
  | succ m ih=>
   intro i out hi ho;have hil:i<B.length:=by omega
   have hat:at? B (i:Int)=some B[i]:=by rw [zb2];simp [hil]
   have hbm:=List.getElem_mem hil;obtain ⟨b1,b2,b3⟩:=hB.ok _ hbm;obtain ⟨m1,m2⟩:=hB.many _ hbm;have hrd:=zq3 hd hl ht (by omega) b3 b2 hc;have e:=fB_snoc d c (B.take i) B[i];rw [← List.take_succ_eq_append_getElem hil] at e;have hfew:=hB.few;cases hr:(zbh d B[i].1 c).2
   ·obtain ⟨R,k,hk1,hk2⟩:=ih (i+1) out (by omega) (ho.congr fun t=>by rw [e,hr];simp);exact ⟨R,k+1,⟨fun _=>⟨_,hat,_,hrd,(fun h=>by rw [hr] at h;cases h),fun _=>⟨zj (by omega) (by omega),hk1⟩⟩,fun h=>absurd (by omega) (df h)⟩,hk2⟩
   ·have hn:(B[i].2.toNat:Nat)≠0:=by omega
    have hsat:sat B[i].2.toNat=B[i].2:=by unfold sat;omega
    have hadd:=ho.add (zbh d B[i].1 c).1 hn;rw [hsat] at hadd;have hol:=onB_len ho;have hbo:BrOk out:=ho.brok fun t ht=>by have:=fB_read (hB.take i) ht;omega
    have hrl:=zlf d B[i].1 c;obtain ⟨R,k,hk1,hk2⟩:=ih (i+1) (zmq (zbh d B[i].1 c).1 B[i].2 out) (by omega) (hadd.congr fun t=>by
     rw [e,hr];simp only [true_and,eq_comm])
    exact ⟨R,k+1,⟨fun _=>⟨_,hat,_,hrd,fun _=>⟨_,hat,_,zi9 ho.srt hbo (by rw [List.length_take] at hol;omega) (by omega) ⟨by omega,by omega⟩,zj (by omega) (by omega),hk1⟩,(fun h=>by rw [hr] at h;cases h)⟩,fun h=>absurd (by omega) (df h)⟩,hk2⟩
 obtain ⟨R,k,h1,h2⟩:=key B.length 0 [] (by omega) (Can.nil.congr fun t=>by simp [fB]);exact ⟨R,⟨k,h1⟩,h2⟩
structure MapN (f:List SItem→Nat) (m:List (Str × Int)):Prop where
 kn:KN m
 mem:∀k v,(k,v)∈m↔∃u,k=keyS u∧f u≠0∧v=sat (f u)
omit hd hl ht hc hB in
theorem MapN.get {f:List SItem→Nat} {m} (h:MapN f m) (u:List SItem):zel m (keyS u) (0:Int)=sat (f u):=by
 by_cases hu:f u=0
 ·rw [zh3 fun p hp e=>?_]
  ·rw [hu];rfl
  ·obtain ⟨k,v⟩:=p
   obtain ⟨w,h1,h2,_⟩:=(h.mem k v).1 hp
   simp only at e
   rw [e] at h1
   rw [zgj.1 h1] at hu
   exact h2 hu
 ·have hm:=(h.mem (keyS u) (sat (f u))).2 ⟨u,rfl,hu,rfl⟩
  exact znb h.kn hm (0:Int)
omit hd hl ht hc hB in
theorem MapN.put {f:List SItem→Nat} {m} (h:MapN f m) (u:List SItem) {n:Nat} (hn:n≠0) {v:Int} (hv:v=sat (f u+n)):MapN (fun t=>f t+if t=u then n else 0) (zf5 m (keyS u) v):=by
 refine ⟨mput_kn h.kn _ _,fun k w=>?_⟩
 rw [zrt,h.mem,Prod.mk.injEq]
 constructor
 ·rintro (⟨h1,h2⟩ | ⟨h1,u',h2,h3,h4⟩)
  ·exact ⟨u,h1,by simp;omega,by rw [h2,hv];simp⟩
  ·have hne:u'≠u:=fun e=>h1 (by rw [h2,e])
   exact ⟨u',h2,by simp [hne,h3],by rw [h4];simp [hne]⟩
 ·rintro ⟨u',h1,h2,h3⟩
  by_cases e:u'=u
  ·subst e;exact .inl ⟨h1,by rw [h3,hv];simp⟩
  ·refine .inr ⟨fun e'=>e (zgj.1 (h1.symm.trans e')),u',h1, ?_, ?_⟩
   ·simpa [e] using h2
   ·rw [h3];simp [e]
theorem next_On_l:∃R,(∃k,zbw.l2 d c B (zbw.j2 R) k [] [] 0)∧Can (fB d c B) R:=by
 have hfew:=hB.few;have last:∀(many:List (Str × Int)) (out:List SBranch),MapN (fB d c B) many→(out.map (·.1)).Nodup→(∀u,u∈out.map (·.1)↔fB d c B u≠0)→out.length≤10001→∃R,zbw.j2 R many out∧Can (fB d c B) R:=by
  intro many out hm hn ho hlen;have hlo:∀b∈out,b.1.length≤1000:=fun b hb=>by
   have:=fB_read hB ((ho b.1).1 (List.mem_map.2 ⟨b,hb,rfl⟩));omega
  let out':=out.map fun b=>(b.1,sat (fB d c B b.1))
  have e1:out'.map (·.1)=out.map (·.1):=by simp [out',Function.comp_def]
  have hn':(out'.map (·.1)).Nodup:=by rw [e1];exact hn
  have hcan:Can (fB d c B) (srtB out'):=by
   refine ⟨zm9 hn',fun t m=>?_⟩;rw [(zgo out').mem_iff];constructor
   ·intro h;obtain ⟨b,hb,e⟩:=List.mem_map.1 h;simp only [Prod.mk.injEq] at e;obtain ⟨rfl,rfl⟩:=e;exact ⟨(ho _).1 (List.mem_map.2 ⟨b,hb,rfl⟩),rfl⟩
   ·rintro ⟨h1,h2⟩;obtain ⟨b,hb,e⟩:=List.mem_map.1 ((ho t).2 h1);exact List.mem_map.2 ⟨b,hb,by rw [e,h2]⟩
  refine ⟨srtB out', ?_,hcan⟩;refine zgf (P:=fun k (o:List SBranch) v=>zbw.l1 many out (zbw.j1 (srtB out')) k o v) out.length (fun i o=>o=out'.take i++out.drop i) ?_ ?_ out (by simp)
  ·rintro i o hi rfl;have hl1:(out'.take i).length=i:=by simp [out'];omega
   have hat:at? (out'.take i++out.drop i) (i:Int)=some out[i]:=by
    rw [zb2,List.getElem?_append_right (by omega),hl1,Nat.sub_self];simp [hi]
   have hset:(out'.take i++out.drop i).set i (out[i].1,sat (fB d c B out[i].1))=out'.take (i+1)++out.drop (i+1):=by
    rw [List.set_append_right _ _ (by omega),hl1,Nat.sub_self,List.drop_eq_getElem_cons hi,List.set_cons_zero,List.take_succ_eq_append_getElem (show i<out'.length by simp [out'];exact hi)];simp [out']
   refine .inr ⟨_,rfl,fun k hk=>⟨fun _=>⟨_,hat,_,⟨hlo _ (List.getElem_mem hi),rfl⟩,_,hat,zj (by omega) (by omega), ?_⟩,fun h=>absurd (by omega) (df h)⟩⟩;rw [hm.get,Int.toNat_natCast,hset];exact hk
  ·rintro o rfl k;refine ⟨fun h=>absurd (dt h) (by omega),fun _=>?_⟩;have hl2:out'.length=out.length:=by simp [out']
   rw [List.take_of_length_le (by omega),List.drop_length,List.append_nil];exact ⟨_,⟨hn',fun b hb=>by
    obtain ⟨b',hb',rfl⟩:=List.mem_map.1 hb;exact hlo b' hb',by omega,rfl⟩,rfl⟩
 have key:∀(m i:Nat) (many:List (Str × Int)) (out:List SBranch),i+m=B.length→MapN (fB d c (B.take i)) many→(out.map (·.1)).Nodup→(∀u,u∈out.map (·.1)↔fB d c (B.take i) u≠0)→out.length≤i→∃(R:List SBranch) (k:Nat),zbw.l2 d c B (zbw.j2 R) k many out (i:Int)∧Can (fB d c B) R:=by
  intro m
  induction m with
  | zero=>
   intro i many out hi hm hn ho hlen;rw [List.take_of_length_le (by omega)] at hm ho;obtain ⟨R,h1,h2⟩:=last many out hm hn ho (by omega);exact ⟨R,1,⟨fun h=>absurd (dt h) (by omega),fun _=>h1⟩,h2⟩
  | succ m ih=>
   intro i many out hi hm hn ho hlen;have hil:i<B.length:=by omega
   have hat:at? B (i:Int)=some B[i]:=by rw [zb2];simp [hil]
   have hbm:=List.getElem_mem hil;obtain ⟨b1,b2,b3⟩:=hB.ok _ hbm;obtain ⟨m1,m2⟩:=hB.many _ hbm;have hrd:=next_Read_in hd hl ht (by omega) b3 b2 hc;have hrl:=zlf d B[i].1 c;have e:=fB_snoc d c (B.take i) B[i];rw [← List.take_succ_eq_append_getElem hil] at e;cases hr:(zbh d B[i].1 c).2
   ·have e0:∀u,fB d c (B.take (i+1)) u=fB d c (B.take i) u:=fun u=>by rw [e,hr];simp
    have e0':fB d c (B.take (i+1))=fB d c (B.take i):=funext e0;obtain ⟨R,k,hk1,hk2⟩:=ih (i+1) many out (by omega) (by rw [e0'];exact hm) hn (by rw [e0'];exact ho) (by omega);exact ⟨R,k+1,⟨fun _=>⟨_,hat,_,hrd,fun _=>⟨zj (by omega) (by omega),hk1⟩,(fun h=>by rw [hr] at h;cases h)⟩,fun h=>absurd (by omega) (df h)⟩,hk2⟩
   ·have hn0:B[i].2.toNat≠0:=by omega
    have hg:=hm.get (zbh d B[i].1 c).1;have hv:min (zel many (keyS (zbh d B[i].1 c).1) 0+B[i].2) 2=sat (fB d c (B.take i) (zbh d B[i].1 c).1+B[i].2.toNat):=by
     rw [hg];unfold sat;omega
    have e0':fB d c (B.take (i+1))=fun t=>fB d c (B.take i) t+if t=(zbh d B[i].1 c).1 then B[i].2.toNat else 0:=funext fun u=>by
     rw [e,hr];simp only [true_and,eq_comm]
    have hput:=hm.put (zbh d B[i].1 c).1 hn0 hv;rw [← e0'] at hput;have hin:InR .i64 (zel many (keyS (zbh d B[i].1 c).1) 0+B[i].2):=by rw [hg];unfold sat;exact zj (by omega) (by omega)
    by_cases h0:fB d c (B.take i) (zbh d B[i].1 c).1=0
    ·obtain ⟨R,k,hk1,hk2⟩:=ih (i+1) _ (out++[((zbh d B[i].1 c).1,0)]) (by omega) hput (by
      rw [List.map_append,List.nodup_append];refine ⟨hn,by simp,fun a ha b hb e=>?_⟩;simp at hb;subst hb;subst e;exact (ho _).1 ha h0) (fun u=>by
      rw [e0',List.map_append,List.mem_append,ho]
      by_cases hu:u=(zbh d B[i].1 c).1
      ·subst hu;simp;omega
      ·simp [hu]) (by simp;omega)
     refine ⟨R,k+1,⟨fun _=>⟨_,hat,_,hrd,fun h=>by rw [hr] at h;simp at h,fun _=>⟨_,⟨by omega,rfl⟩,fun _=>⟨by simp;omega,hin,zj (by omega) (by omega),hk1⟩,fun h=>?_⟩⟩,fun h=>absurd (by omega) (df h)⟩,hk2⟩;rw [hg,h0] at h;simp [sat] at h
    ·obtain ⟨R,k,hk1,hk2⟩:=ih (i+1) _ out (by omega) hput hn (fun u=>by
      rw [e0',ho]
      by_cases hu:u=(zbh d B[i].1 c).1
      ·subst hu;simp [h0]
      ·simp [hu]) (by omega)
     refine ⟨R,k+1,⟨fun _=>⟨_,hat,_,hrd,fun h=>by rw [hr] at h;simp at h,fun _=>⟨_,⟨by omega,rfl⟩,fun h=>?_,fun _=>⟨hin,zj (by omega) (by omega),hk1⟩⟩⟩,fun h=>absurd (by omega) (df h)⟩,hk2⟩;exfalso;rw [hg] at h;have:=eq_of_beq h;unfold sat at this;omega
 obtain ⟨R,k,h1,h2⟩:=key B.length 0 [] [] (by omega) ⟨List.nodup_nil,fun k v=>by simp [fB]⟩ (by simp) (by simp [fB]) (by simp);exact ⟨R,⟨k,h1⟩,h2⟩
end
theorem on_both {d:List SNode} {s:List SItem} (h:Sm d s) {c:Int} (hc:InR .u8 c):∃B R,zfs d s B∧Can (fun t=>(hds d s).count t) B∧zbw d s c R∧zc9 d s c R∧Can (fB d c B) R:=by
 obtain ⟨B,b1,b2,b3⟩:=zmn h;have hB:=h.hok b3;have hl:d.length≤1000:=by have:=h.len;omega
 obtain ⟨R,⟨k,h1⟩,h2⟩:=next_On_l h.rt.toROk hl h.txt hc hB;obtain ⟨R',⟨k',h1'⟩,h2'⟩:=ref15_On_l h.rt.toROk hl h.txt hc hB;have e:=h2'.uniq h2;subst e;exact ⟨B,R',b1,b3,⟨B,b1,k,h1⟩,⟨B,b2,k',h1'⟩,h2⟩
end Go.Proofs.YtbojklnokglbhaaGreatDoor.V
namespace Go.Proofs.YtbojklnokglbhaaGreatDoor.V
open Go
set_option linter.unusedVariables false
def zdw (d:List SNode) (c:Int) (s:List SItem):List (List SItem):=(hds d s).filterMap fun t=>if (zbh d t c).2=true then some (zbh d t c).1 else none
def zdh (d:List SNode):List Int→List SItem→List (List SItem)
 | [],s=>[s]
 | c::w,s=>(zdw d c s).flatMap (zdh d w)
theorem zqa (d:List SNode) (c:Int):∀(w:List Int) (s:List SItem),zdh d (w++[c]) s=(zdh d w s).flatMap (zdw d c)
 | [],s=>by
  show (zdw d c s).flatMap (zdh d [])=_;have:zdh d []=fun t=>[t]:=by funext t;rfl
  rw [this];simp
 | e::w,s=>by
  show (zdw d e s).flatMap (zdh d (w++[c]))=((zdw d e s).flatMap (zdh d w)).flatMap (zdw d c);rw [List.flatMap_assoc]
  congr 1
  funext t;exact zqa d c w t
theorem sumF_step (d:List SNode) (c:Int) (G:List SItem→Nat) (s:List SItem):zed G (zdw d c s)=zed (fun t=>if (zbh d t c).2=true then G (zbh d t c).1 else 0) (hds d s):=by
 unfold zdw
 induction hds d s with
 | nil=>rfl
 | cons t L ih=>
  rw [List.filterMap_cons]
  by_cases h:(zbh d t c).2=true
  ·simp only [h,if_true];have:∀x (M:List (List SItem)),zed G (x::M)=G x+zed G M:=fun x M=>by simp [zed]
   rw [this,ih];simp [zed,h]
  ·simp only [h];rw [show zed (fun t=>if (zbh d t c).2=true then G (zbh d t c).1 else 0) (t::L)=zed (fun t=>if (zbh d t c).2=true then G (zbh d t c).1 else 0) L by simp [zed,h]];exact ih
theorem zpt {α:Type} (K:List α):(K.map fun _=>(0:Nat)).sum=0:=by
 induction K with
 | nil=>rfl
 | cons a K ih=>rw [List.map_cons,List.sum_cons,ih]
theorem zps {g:List SItem→Nat} {t:List SItem}:∀{K:List (List SItem)},K.Nodup→t∈K→(K.map fun k=>(if k=t then 1 else 0)*g k).sum=g t
 | [],_,h=>by cases h
 | k::K,hn,h=>by
  rw [List.nodup_cons] at hn;rw [List.map_cons,List.sum_cons]
  by_cases e:k=t
  ·subst e;have z:(K.map fun k'=>(if k'=k then 1 else 0)*g k').sum=0:=by
    have:∀k'∈K,(if k'=k then 1 else 0)*g k'=0:=fun k' hk=>by
     have hne:k'≠k:=fun e'=>hn.1 (by rw [← e'];exact hk);rw [if_neg hne,Nat.zero_mul]
    rw [List.map_congr_left this,zpt]
   rw [z];simp
  ·rw [if_neg e,Nat.zero_mul,Nat.zero_add];exact zps hn.2 ((List.mem_cons.1 h).resolve_left fun h'=>e h'.symm)
theorem sum_by {g:List SItem→Nat} {K:List (List SItem)} (hn:K.Nodup):∀(L:List (List SItem)),(∀t∈L,t∈K)→zed g L=(K.map fun k=>L.count k*g k).sum
 | [],_=>by
  have:∀k∈K,([]:List (List SItem)).count k*g k=0:=fun k _=>by simp
  rw [List.map_congr_left this,zpt];rfl
 | t::L,h=>by
  have ih:=sum_by hn (g:=g) L fun u hu=>h u (by simp [hu]);have e1:zed g (t::L)=g t+zed g L:=by simp [zed]
  have e2:(K.map fun k=>(t::L).count k*g k).sum=(K.map fun k=>L.count k*g k).sum+(K.map fun k=>(if k=t then 1 else 0)*g k).sum:=by
   clear h ih e1 hn
   induction K with
   | nil=>rfl
   | cons a K ih=>
    simp only [List.map_cons,List.sum_cons];rw [ih,List.count_cons,Nat.add_mul];have:(if (t==a)=true then 1 else 0)=(if a=t then 1 else 0):=by
     by_cases h:a=t
     ·subst h;simp
     ·rw [if_neg (by simpa using fun e=>h e.symm),if_neg h]
    rw [this];omega
  rw [e1,ih,e2,zps hn (h t (by simp))];omega
theorem fB_step {d:List SNode} {s:List SItem} {B:List SBranch} (hB:Can (fun t=>(hds d s).count t) B) (c:Int) (u:List SItem):sat (fB d c B u)=sat ((zdw d c s).count u):=by
 have e1:(zdw d c s).count u=zed (fun t=>if t=u then 1 else 0) (zdw d c s):=by
  induction zdw d c s with
  | nil=>rfl
  | cons t L ih=>
   rw [List.count_cons,ih];unfold zed;rw [List.map_cons,List.sum_cons]
   by_cases h:t=u
   ·simp [h];omega
   ·simp [h]
 rw [e1,sumF_step,sum_by hB.nodup (hds d s) fun t ht=>(hB.keys t).2 (by have:=List.count_pos_iff.2 ht;omega),List.map_map];unfold fB;have key:∀b∈B,sat (if (zbh d b.1 c).2=true∧(zbh d b.1 c).1=u then b.2.toNat else 0)=sat ((hds d s).count b.1*if (zbh d b.1 c).2=true then (if (zbh d b.1 c).1=u then 1 else 0) else 0):=fun b hb=>by
  have h1:=(hB.many hb).1
  by_cases h2:(zbh d b.1 c).2=true
  ·by_cases h3:(zbh d b.1 c).1=u
   ·rw [if_pos ⟨h2,h3⟩,if_pos h2,if_pos h3,Nat.mul_one,h1];unfold sat;omega
   ·rw [if_neg fun e=>h3 e.2,if_pos h2,if_neg h3];rfl
  ·rw [if_neg fun e=>h2 e.1,if_neg h2];rfl
 clear hB e1
 induction B with
 | nil=>rfl
 | cons b B ih=>
  have k1:=key b (by simp);have k2:=ih fun b' hb'=>key b' (by simp [hb']);simp only [List.map_cons,List.sum_cons,Function.comp] at k2 ⊢;unfold sat at *;omega
theorem next_Ends_l {B:List SBranch} {f:List SItem→Nat} (hB:Can f B) (hl:B.length≤10001):∃k,zc7.l1 B (sat (f [])) (zc7.j1 (sat (f []))) k 0:=by
 refine zgf (P:=fun k (_:Unit) v=>zc7.l1 B (sat (f [])) _ k v) B.length (fun i _=>∀b∈B.take i,b.1≠[]) ?_ ?_ () (by simp)
 ·intro i _ hi hn;have hat:at? B (i:Int)=some B[i]:=by rw [zb2];simp [hi]
  by_cases h0:B[i].1=[]
  ·refine .inl fun k=>⟨fun _=>⟨_,hat,fun _=>?_,fun h=>by rw [h0] at h;simp at h⟩,fun h=>absurd (by omega) (df h)⟩;have:=(hB.many (List.getElem_mem hi)).1;rw [h0] at this;exact this.symm
  ·refine .inr ⟨(),fun b hb=>?_,fun k hk=>⟨fun _=>⟨_,hat,fun h=>absurd (by simpa using h) h0,fun _=>⟨zj (by omega) (by omega),hk⟩⟩,fun h=>absurd (by omega) (df h)⟩⟩;rw [List.take_succ_eq_append_getElem hi] at hb;rcases List.mem_append.1 hb with hb | hb
   ·exact hn b hb
   ·rw [List.mem_singleton.1 hb];exact h0
 ·intro _ hn k;refine ⟨fun h=>absurd (dt h) (by omega),fun _=>?_⟩;show sat (f [])=0;rw [List.take_length] at hn;have:f []=0:=by
   rcases Nat.eq_zero_or_pos (f []) with h | h
   ·exact h
   ·obtain ⟨b,hb,e⟩:=List.mem_map.1 ((hB.keys []).2 (by omega));exact absurd e (hn b hb)
  rw [this];rfl
theorem ref15_Ends_l {B:List SBranch} {f:List SItem→Nat} (hB:Can f B) (hl:B.length≤10001):∃k,zcp.l1 B (sat (f [])) (zcp.j1 (sat (f []))) k 0:=by
 refine zgf (P:=fun k (_:Unit) v=>zcp.l1 B (sat (f [])) _ k v) B.length (fun i _=>∀b∈B.take i,b.1≠[]) ?_ ?_ () (by simp)
 ·intro i _ hi hn;have hat:at? B (i:Int)=some B[i]:=by rw [zb2];simp [hi]
  by_cases h0:B[i].1=[]
  ·refine .inl fun k=>⟨fun _=>⟨_,hat,fun _=>⟨_,hat, ?_⟩,fun h=>by rw [h0] at h;simp at h⟩,fun h=>absurd (by omega) (df h)⟩;have:=(hB.many (List.getElem_mem hi)).1;rw [h0] at this;exact this.symm
  ·refine .inr ⟨(),fun b hb=>?_,fun k hk=>⟨fun _=>⟨_,hat,fun h=>absurd (by simpa using h) h0,fun _=>⟨zj (by omega) (by omega),hk⟩⟩,fun h=>absurd (by omega) (df h)⟩⟩;rw [List.take_succ_eq_append_getElem hi] at hb;rcases List.mem_append.1 hb with hb | hb
   ·exact hn b hb
   ·rw [List.mem_singleton.1 hb];exact h0
 ·intro _ hn k;refine ⟨fun h=>absurd (dt h) (by omega),fun _=>?_⟩;show sat (f [])=0;rw [List.take_length] at hn;have:f []=0:=by
   rcases Nat.eq_zero_or_pos (f []) with h | h
   ·exact h
   ·obtain ⟨b,hb,e⟩:=List.mem_map.1 ((hB.keys []).2 (by omega));exact absurd e (hn b hb)
  rw [this];rfl
theorem ends_both {d:List SNode} {s:List SItem} (h:Sm d s):zc7 d s (sat ((hds d s).count []))∧zcp d s (sat ((hds d s).count [])):=by
 obtain ⟨B,b1,b2,b3⟩:=zmn h;have hl:=heads_few h b3;exact ⟨⟨B,b1,next_Ends_l b3 hl⟩,⟨B,b2,ref15_Ends_l b3 hl⟩⟩
def sing:List Cl:=(List.range 256).map fun (c:Nat)=>Cl.row ((c:Int) % 256) ((c:Int) % 256)
def clsF (d:List SNode) (t:List SItem):List Cl:=
 match t with
 | []=>[]
 | x::_=>match at? d x.2.1 with
  | none=>[]
  | some n=>if x.1=3 then [Cl.row ((zei n.2.2.2.2.2.2 x.2.2.1).getD 0) ((zei n.2.2.2.2.2.2 x.2.2.1).getD 0)] else if n.1=2 then [n.2.2.2.2.2.1] else sing
def zlu (d:List SNode) (B:List SBranch):List Cl:=B.flatMap fun b=>clsF d b.1
theorem zid:sing.length=256:=by simp [sing]
theorem clsF_len (d:List SNode) (t:List SItem):(clsF d t).length≤256:=by
 unfold clsF;cases t with
 | nil=>simp
 | cons x t=>
  simp only;cases at? d x.2.1 with
  | none=>simp
  | some n=>
   simp only;split
   ·simp
   ·split
    ·simp
    ·rw [zid];exact Nat.le_refl _
theorem zlt (d:List SNode):∀B:List SBranch,(zlu d B).length≤256*B.length
 | []=>by simp [zlu]
 | b::B=>by
  have h1:=clsF_len d b.1;have h2:=zlt d B;unfold zlu at *;simp only [List.flatMap_cons,List.length_append,List.length_cons];omega
theorem clsB_snoc (d:List SNode) (B:List SBranch) (b:SBranch):zlu d (B++[b])=zlu d B++clsF d b.1:=by simp [zlu]
theorem zn8:zb4 sing:=by
 refine zgf (P:=fun k (o:List Cl) v=>zb4.l1 (zb4.j1 sing) k o v) 256 (fun i o=>o=sing.take i) ?_ ?_ [] (by simp)
 ·rintro i o hi rfl;have e:sing.take (i+1)=sing.take i++[Cl.row ((i:Int) % 256) ((i:Int) % 256)]:=by
   rw [List.take_succ_eq_append_getElem (by rw [zid];exact hi)];simp [sing]
  refine .inr ⟨_,rfl,fun k hk=>⟨fun _=>⟨_,zon,by rw [List.length_take];simp;omega,zj (by omega) (by omega), ?_⟩,fun h=>absurd (by omega) (df h)⟩⟩;rw [e] at hk;exact hk
 ·rintro o rfl k;refine ⟨fun h=>absurd (dt h) (by omega),fun _=>?_⟩;show sing=sing.take 256;rw [List.take_of_length_le (by rw [zid];exact Nat.le_refl _)]
theorem zph {d:List SNode} {B:List SBranch} (hB:HOk d B):∃k,zbm.l1 d B (zbm.j1 (zlu d B)) k [] 0:=by
 have hfew:=hB.few;refine zgf (P:=fun k (o:List Cl) v=>zbm.l1 d B (zbm.j1 (zlu d B)) k o v) B.length (fun i o=>o=zlu d (B.take i)) ?_ ?_ [] (by simp [zlu])
 ·rintro i o hi rfl;have hat:at? B (i:Int)=some B[i]:=by rw [zb2];simp [hi]
  obtain ⟨b1,b2,b3⟩:=hB.ok _ (List.getElem_mem hi);have hlen:=zlt d (B.take i);rw [List.length_take] at hlen;have e:zlu d (B.take (i+1))=zlu d (B.take i)++clsF d B[i].1:=by rw [List.take_succ_eq_append_getElem hi,clsB_snoc]
  refine .inr ⟨_,rfl,fun k hk=>⟨fun _=>⟨_,hat,fun h0=>?_,fun h0=>?_⟩,fun h=>absurd (by omega) (df h)⟩⟩
  ·have h1:B[i].1=[]:=by simpa using h0
   rw [e,h1] at hk;simp only [clsF,List.append_nil] at hk;exact ⟨zj (by omega) (by omega),hk⟩
  ·rw [e] at hk;generalize B[i].1=t at *;cases t with
   | nil=>simp at h0
   | cons x rest=>
    obtain ⟨n,hn,hm,hkk⟩:=zjy b3 b2;simp only [clsF,hn] at hk;refine ⟨x,rfl,n,hn,fun h3=>?_,fun h3=>⟨fun h2=>?_,fun h2=>?_⟩⟩
    ·have h3':=eq_of_beq h3;rw [if_pos h3'] at hk;obtain ⟨_,_,h6,h7⟩:n.1=3∧x.2.2.2=0∧0≤x.2.2.1∧x.2.2.1<(n.2.2.2.2.2.2.length:Int):=by
      rcases hkk with ⟨h,_⟩ | ⟨_,h⟩ | ⟨h,_⟩
      ·omega
      ·exact h
      ·omega
     obtain ⟨b,hb2,_⟩:=zoq h6 h7;rw [hb2] at hk;exact ⟨b,hb2,b,hb2,_,zon,by simp;omega,zj (by omega) (by omega),hk⟩
    ·have h3':=ne_of_beq_false h3;rw [if_neg h3',if_pos (eq_of_beq h2)] at hk;exact ⟨by simp;omega,zj (by omega) (by omega),hk⟩
    ·have h3':=ne_of_beq_false h3;rw [if_neg h3',if_neg (ne_of_beq_false h2)] at hk;exact ⟨_,zn8,by rw [zid];omega,zj (by omega) (by omega),hk⟩
 ·rintro o rfl k;refine ⟨fun h=>absurd (dt h) (by omega),fun _=>?_⟩;show zlu d B=_;rw [List.take_length]
theorem znz {d:List SNode} {B:List SBranch} (hB:HOk d B):∃k,zx.l1 d B (zx.j1 (zlu d B)) k [] 0:=by
 have hfew:=hB.few;refine zgf (P:=fun k (o:List Cl) v=>zx.l1 d B (zx.j1 (zlu d B)) k o v) B.length (fun i o=>o=zlu d (B.take i)) ?_ ?_ [] (by simp [zlu])
 ·rintro i o hi rfl;have hat:at? B (i:Int)=some B[i]:=by rw [zb2];simp [hi]
  obtain ⟨b1,b2,b3⟩:=hB.ok _ (List.getElem_mem hi);have hlen:=zlt d (B.take i);rw [List.length_take] at hlen;have e:zlu d (B.take (i+1))=zlu d (B.take i)++clsF d B[i].1:=by rw [List.take_succ_eq_append_getElem hi,clsB_snoc]
  refine .inr ⟨_,rfl,fun k hk=>⟨fun _=>⟨_,hat,fun h0=>?_,fun h0=>?_⟩,fun h=>absurd (by omega) (df h)⟩⟩
  ·have h1:B[i].1=[]:=by simpa using h0
   rw [e,h1] at hk;simp only [clsF,List.append_nil] at hk;exact ⟨zj (by omega) (by omega),hk⟩
  ·rw [e] at hk;refine ⟨_,hat, ?_⟩;generalize B[i].1=t at *;cases t with
   | nil=>simp at h0
   | cons x rest=>
    obtain ⟨n,hn,hm,hkk⟩:=zjy b3 b2;simp only [clsF,hn] at hk;refine ⟨x,rfl,n,hn,fun h3=>?_,fun h3=>⟨fun h2=>?_,fun h2=>?_⟩⟩
    ·have h3':=eq_of_beq h3;rw [if_pos h3'] at hk;obtain ⟨_,_,h6,h7⟩:n.1=3∧x.2.2.2=0∧0≤x.2.2.1∧x.2.2.1<(n.2.2.2.2.2.2.length:Int):=by
      rcases hkk with ⟨h,_⟩ | ⟨_,h⟩ | ⟨h,_⟩
      ·omega
      ·exact h
      ·omega
     obtain ⟨b,hb2,hb3⟩:=zoq h6 h7;rw [hb2] at hk;exact ⟨b,hb2,b,hb2,_,zjb hb3 hb3,by simp;omega,zj (by omega) (by omega),hk⟩
    ·have h3':=ne_of_beq_false h3;simp only [Bool.and_eq_true,beq_iff_eq] at h2;rw [if_neg h3',if_pos h2.2] at hk;exact ⟨by simp;omega,zj (by omega) (by omega),hk⟩
    ·have h3':=ne_of_beq_false h3;have h2':¬ n.1=2:=by
      intro e2;rcases hkk with ⟨h,_⟩ | ⟨h,_⟩ | ⟨h,h',_⟩
      ·simp [h,e2] at h2
      ·exact h3' h
      ·omega
     rw [if_neg h3',if_neg h2'] at hk;refine zgf (P:=fun k' (o:List Cl) v=>zx.l2 (zx.j2 (zx.l1 d B (zx.j1 (zlu d B)) k) (i:Int)) k' o v) 256 (fun j o=>o=zlu d (B.take i)++sing.take j) ?_ ?_ (zlu d (B.take i)) (by simp)
     ·rintro j o hj rfl;have e:sing.take (j+1)=sing.take j++[Cl.row ((j:Int) % 256) ((j:Int) % 256)]:=by
       rw [List.take_succ_eq_append_getElem (by rw [zid];exact hj)];simp [sing]
      have hu8:InR .u8 ((j:Int) % 256):=zgy.2 ⟨by omega,by omega⟩;refine .inr ⟨_,rfl,fun k' hk'=>⟨fun _=>⟨_,zjb hu8 hu8,by rw [List.length_append,List.length_take];simp;omega,zj (by omega) (by omega), ?_⟩,fun h=>absurd (by omega) (df h)⟩⟩;rw [e,← List.append_assoc] at hk';exact hk'
     ·rintro o rfl k';refine ⟨fun h=>absurd (dt h) (by omega),fun _=>⟨zj (by omega) (by omega), ?_⟩⟩;rw [List.take_of_length_le (l:=sing) (by rw [zid];exact Nat.le_refl _)];exact hk
 ·rintro o rfl k;refine ⟨fun h=>absurd (dt h) (by omega),fun _=>?_⟩;show zlu d B=_;rw [List.take_length]
theorem classes_both {d:List SNode} {s:List SItem} (h:Sm d s):∃B,Can (fun t=>(hds d s).count t) B∧zbm d s (zlu d B)∧zx d s (zlu d B):=by
 obtain ⟨B,b1,b2,b3⟩:=zmn h;have hB:=h.hok b3;exact ⟨B,b3,⟨B,b1,zph hB⟩,⟨B,b2,znz hB⟩⟩
def d5:List SNode:=[(2,0,0,0,0,Cl.row 5 6,([]:Str))]
theorem zk3 {d:List SNode} (h:∀n∈d,n.2.2.2.2.2.2=[]):∀n∈d,n.2.2.2.2.2.2.length≤140737488351232:=fun n hn=>by rw [h n hn];simp
def d8:List SNode:=zkw 8 d5
abbrev Txt (d:List SNode):Prop:=∀n∈d,n.2.2.2.2.2.2.length≤140737488351232
theorem byte_u8 {s:Str} {i:Int} {c:Int} (h:zei s i=some c):0≤c∧c≤255:=by
 unfold zei at h;obtain ⟨x,_,rfl⟩:=Option.map_eq_some_iff.1 h;have:=x.toNat_lt;omega
theorem read_same {d:List SNode} {t:List SItem} (hf:zeh d t=true) (hr:rdy d t=true) {a b:Int} (ha:InR .u8 a) (hb:InR .u8 b) (h:∀x∈clsF d t,x.has a.toNat=x.has b.toNat):zbh d t a=zbh d t b:=by
 have ha':=zgy.1 ha;have hb':=zgy.1 hb;cases t with
 | nil=>rfl
 | cons x rest=>
  obtain ⟨n,hn,hm,hk⟩:=zjy hf hr;simp only [clsF,hn] at h;unfold zbh;simp only [hn]
  by_cases hl:(zeg rest).2=false
  ·rw [if_pos hl,if_pos hl]
  ·rw [if_neg hl,if_neg hl]
   by_cases h3:x.1=3
   ·rw [if_pos h3] at h;rw [if_pos h3,if_pos h3];obtain ⟨h6,h7⟩:0≤x.2.2.1∧x.2.2.1<(n.2.2.2.2.2.2.length:Int):=by
     rcases hk with ⟨h,_⟩ | ⟨_,_,_,h⟩ | ⟨h,_⟩
     ·omega
     ·exact h
     ·omega
    obtain ⟨c,hc,_⟩:=zoq h6 h7;have hcr:=byte_u8 hc;have hh:=h _ (List.mem_singleton.2 rfl);rw [hc] at hh ⊢;simp only [Option.getD_some] at hh;rw [zkr (by omega),zkr (by omega)] at hh;have e:(some c=some a)↔(some c=some b):=by
     simp only [Option.some.injEq];have e1:(decide (c≤((a.toNat:Nat):Int))&&decide (((a.toNat:Nat):Int)≤c))=true↔c=a:=by simp only [Bool.and_eq_true,decide_eq_true_eq];omega
     have e2:(decide (c≤((b.toNat:Nat):Int))&&decide (((b.toNat:Nat):Int)≤c))=true↔c=b:=by simp only [Bool.and_eq_true,decide_eq_true_eq];omega
     rw [← e1,← e2,hh]
    by_cases hca:(some c=some a)
    ·rw [if_pos hca,if_pos (e.1 hca)]
    ·rw [if_neg hca,if_neg fun hcb=>hca (e.2 hcb)]
   ·rw [if_neg h3] at h
    by_cases h2:n.1=2
    ·rw [if_pos h2] at h;have h1:x.1=1:=by
      rcases hk with ⟨h,_⟩ | ⟨h,_⟩ | ⟨_,h,_⟩
      ·exact h
      ·exact absurd h h3
      ·omega
     have hh:=h _ (List.mem_singleton.2 rfl);rw [if_neg h3,if_neg (show ¬ x.1=4 by omega),if_neg (show ¬ n.1=8 by omega),if_neg (show ¬ n.1=9 by omega),if_neg h3,if_neg (show ¬ x.1=4 by omega),if_neg (show ¬ n.1=8 by omega),if_neg (show ¬ n.1=9 by omega),hh]
    ·rw [if_neg h2] at h;have hm:Cl.row a a∈sing:=by
      refine List.mem_map.2 ⟨a.toNat,by simp;omega, ?_⟩;have e:((a.toNat:Nat):Int) % 256=a:=by omega
      rw [e]
     have hh:=h _ hm;rw [zkr (by omega),zkr (by omega)] at hh;have e1:(decide (a≤((a.toNat:Nat):Int))&&decide (((a.toNat:Nat):Int)≤a))=true:=by simp only [Bool.and_eq_true,decide_eq_true_eq];omega
     rw [e1] at hh;have hh:=hh.symm;simp only [Bool.and_eq_true,decide_eq_true_eq] at hh;have:a=b:=by omega
     rw [this]
theorem form_low1 {d:List SNode} {x:SItem} (h:ze7 d x=true) (hb:zlz x=false):ze7 d (zl5 x)=true:=by
 unfold zl5;split
 ·rename_i h5
  unfold ze7 at h ⊢;rw [if_pos h5] at h;rw [if_pos (show (x.1,x.2.1,x.2.2.1-1,x.2.2.2).1=5 from h5)];simp only [zlz,h5] at hb;simp at hb;simp only [Bool.and_eq_true,decide_eq_true_eq,beq_iff_eq] at h ⊢;omega
 ·exact h
theorem form_lowF {d:List SNode} {s:List SItem} (h:zeh d s=true):zeh d (zeg s).1=true:=by
 unfold zeg;split
 ·rfl
 ·rename_i hb
  have hb:s.any zlz=false:=by simpa using hb
  unfold zeh at *;rw [List.all_eq_true] at *;intro y hy;obtain ⟨x,hx,rfl⟩:=List.mem_map.1 hy;rw [List.any_eq_false] at hb;exact form_low1 (h x hx) (by simpa using hb x hx)
theorem form_read {d:List SNode} (hd:ROk d) {t:List SItem} (hf:zeh d t=true) (hr:rdy d t=true) {c:Int} (hc:InR .u8 c):zeh d (zbh d t c).1=true:=by
 have hc':=zgy.1 hc;cases t with
 | nil=>rfl
 | cons x rest=>
  obtain ⟨n,hn,hm,hk⟩:=zjy hf hr;have hlow:=form_lowF (zd1 hf).2;have five:∀v:Int,0≤v→v≤65535→ze7 d (5,0,v,0)=true:=fun v h0 h1=>by
   unfold ze7;simp;omega
  unfold zbh;simp only [hn];split
  ·rfl
  ·split
   ·rename_i h3
    split
    ·split
     ·rename_i hlt
      refine zft ?_ hlow;obtain ⟨h4,h6⟩:n.1=3∧0≤x.2.2.1:=by
       rcases hk with ⟨h,_⟩ | ⟨_,h,_,h',_⟩ | ⟨h,_⟩
       ·omega
       ·exact ⟨h,h'⟩
       ·omega
      unfold ze7;simp [hn,h4];omega
     ·exact hlow
    ·rfl
   ·split
    ·rename_i h3 h4
     obtain ⟨h9,h6,h7⟩:n.1=9∧0≤x.2.2.1∧x.2.2.1≤255:=by
      rcases hk with ⟨h,_⟩ | ⟨h,_⟩ | ⟨_,h⟩
      ·omega
      ·omega
      ·exact h
     obtain ⟨p,q⟩:=hd.one _ n hn (by omega);exact zft (zim (zet hn p q)) (zft (five _ (by omega) (by omega)) hlow)
    ·split
     ·rename_i h8
      obtain ⟨p,q⟩:=hd.one _ n hn (by omega);exact zft (zim (zet hn p q)) (zft (five _ (by omega) (by omega)) hlow)
     ·split
      ·rename_i h9
       refine zft ?_ hlow;unfold ze7;simp [hn,h9];omega
      ·split
       ·exact hlow
       ·rfl
theorem step_ok {d:List SNode} (hd:ROk d) {s:List SItem} (hf:zeh d s=true) {c:Int} (hc:InR .u8 c):∀u∈zdw d c s,zeh d u=true∧u.length≤s.length+d.length+1:=by
 intro u hu;obtain ⟨t,h1,h2⟩:=List.mem_filterMap.1 hu;obtain ⟨L,⟨k,hk⟩,hp⟩:=hds_lv hd s hf;obtain ⟨h3,h4⟩:=lv_vs hd (n0:=s.length) k s L hk (Vs.start hf (Nat.le_refl _)) t (hp.mem_iff.2 h1);split at h2
 ·cases h2;have:=h3.len;have:=zlf d t c;exact ⟨form_read hd h3.form h4 hc,by omega⟩
 ·cases h2
theorem ends_ok {d:List SNode} (hd:ROk d):∀(w:List Int) (s:List SItem),(∀c∈w,InR .u8 c)→zeh d s=true→∀u∈zdh d w s,zeh d u=true∧u.length≤s.length+w.length*(d.length+1)
 | [],s,_,hf,u,hu=>by
  rw [zdh,List.mem_singleton] at hu;subst hu;exact ⟨hf,by simp⟩
 | c::w,s,hw,hf,u,hu=>by
  obtain ⟨t,h1,h2⟩:=List.mem_flatMap.1 hu;obtain ⟨h3,h4⟩:=step_ok hd hf (hw c (by simp)) t h1;obtain ⟨h5,h6⟩:=ends_ok hd w t (fun e he=>hw e (by simp [he])) h3 u h2;refine ⟨h5, ?_⟩;rw [List.length_cons,Nat.succ_mul];omega
theorem hds_mem {d:List SNode} (hd:ROk d) (r:List SItem) (t:List SItem):∀s,t∈hds d (s++r)↔(∃t',t'∈hds d s∧t'≠[]∧t=t'++r)∨([]∈hds d s∧t∈hds d r):=by
 intro s;have h:=hds_app hd (fun u=>if u=t then 1 else 0) r s;have cnt1:∀L:List (List SItem),zed (fun u=>if u=t then 1 else 0) L≠0↔t∈L:=fun L=>by
  induction L with
  | nil=>simp [zed]
  | cons u L ih=>
   have e:zed (fun u=>if u=t then 1 else 0) (u::L)=(if u=t then 1 else 0)+zed (fun u=>if u=t then 1 else 0) L:=by simp [zed]
   rw [e,List.mem_cons]
   by_cases hu:u=t
   ·subst hu;simp
   ·rw [if_neg hu,Nat.zero_add,ih];constructor
    ·exact .inr
    ·rintro (e | e)
     ·exact absurd e.symm hu
     ·exact e
 have cnt2:∀(G:List SItem→Nat) (L:List (List SItem)),zed G L≠0↔∃u∈L,G u≠0:=fun G L=>by
  induction L with
  | nil=>simp [zed]
  | cons u L ih=>
   have e:zed G (u::L)=G u+zed G L:=by simp [zed]
   rw [e];constructor
   ·intro h0
    by_cases hu:G u=0
    ·obtain ⟨v,h1,h2⟩:=ih.1 (by omega);exact ⟨v,by simp [h1],h2⟩
    ·exact ⟨u,by simp,hu⟩
   ·rintro ⟨v,h1,h2⟩;rcases List.mem_cons.1 h1 with rfl | h1
    ·omega
    ·have:=ih.2 ⟨v,h1,h2⟩;omega
 rw [← cnt1,h,cnt2];constructor
 ·rintro ⟨u,h1,h2⟩
  by_cases hu:u=[]
  ·subst hu;simp only [if_true] at h2;exact .inr ⟨h1,(cnt1 _).1 h2⟩
  ·simp only [if_neg hu] at h2
   by_cases he:u++r=t
   ·exact .inl ⟨u,h1,hu,he.symm⟩
   ·rw [if_neg he] at h2;exact absurd rfl h2
 ·rintro (⟨u,h1,hu,rfl⟩ | ⟨h1,h2⟩)
  ·exact ⟨u,h1,by simp only [if_neg hu];simp⟩
  ·exact ⟨[],h1,by simp only [if_true];exact (cnt1 _).2 h2⟩
theorem zdx {d:List SNode} {c:Int} {s u:List SItem}:u∈zdw d c s↔∃t∈hds d s,(zbh d t c).2=true∧(zbh d t c).1=u:=by
 unfold zdw;rw [List.mem_filterMap];constructor
 ·rintro ⟨t,h1,h2⟩;split at h2
  ·rename_i h3;cases h2;exact ⟨t,h1,h3,rfl⟩
  ·cases h2
 ·rintro ⟨t,h1,h2,rfl⟩;exact ⟨t,h1,by rw [if_pos h2]⟩
theorem step_app {d:List SNode} (hd:ROk d) {c:Int} {s r u:List SItem} (h:u∈zdw d c (s++r)):(∃u',u'∈zdw d c s∧(zeg r).2=true∧u=u'++(zeg r).1)∨([]∈hds d s∧u∈zdw d c r):=by
 obtain ⟨t,h1,h2,rfl⟩:=zdx.1 h;rcases (hds_mem hd r t s).1 h1 with ⟨t',k1,k2,rfl⟩ | ⟨k1,k2⟩
 ·rw [readF_app k2] at h2 ⊢
  by_cases hc:(zbh d t' c).2=true∧(zeg r).2=true
  ·rw [if_pos hc];exact .inl ⟨_,zdx.2 ⟨t',k1,hc.1,rfl⟩,hc.2,rfl⟩
  ·rw [if_neg hc] at h2;cases h2
 ·exact .inr ⟨k1,zdx.2 ⟨t,k2,h2,rfl⟩⟩
end Go.Proofs.YtbojklnokglbhaaGreatDoor.V
