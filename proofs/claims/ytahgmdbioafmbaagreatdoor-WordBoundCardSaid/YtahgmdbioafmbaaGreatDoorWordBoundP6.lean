/-
  The texts that the law's proof needs, part 6.
-/
import Derived.Carry
import Derived.ChangeSame
import Derived.Deep.Slices
import Derived.Handed
import Derived.KernelRfl
import Derived.LaidHandle
import Derived.LaidLaws
import Derived.LaidMore
import Derived.Laws.BytesArg
import Derived.Lib.LaidTab
import Derived.OpenShut
import Derived.ProofKit
import Derived.RowKit
import Derived.SizedLaws
import Derived.Stop.LaidErr
import Derived.Test.YtahgmdbioafmbaaGreatDoorRows
import Derived.WalkKit
import Derived.WideKeyElems2
import Derived.Test.YtahgmdbioafmbaaGreatDoorWordBoundP5

namespace Go.Proofs.YtahgmdbioafmbaaGreatDoor.V
open Go
set_option linter.unusedVariables false
theorem zo6 {d:List SNode} (h:Rt d) (hl:d.length≤24) (ht:Txt d) {w:List Int} (hw:∀c∈w,InR .u8 c) {c:Int} (hc:InR .u8 c) (hp:pas d.length (w.length+1)≤2000000000):Room d c (zj2 d w):=by
 refine ⟨fun s hs=>(zj1 h hl ht hw hs).1, ?_, ?_⟩
 ·have:=zmi h hw;have:=pas_more d.length w.length;omega
 ·have hw2:∀b∈w++[c],InR .u8 b:=fun b hb=>(List.mem_append.1 hb).elim (hw b) fun e=>by rw [List.mem_singleton.1 e];exact hc
  obtain ⟨K,k1,k2⟩:=after_cov h fun b hb=>(zgy.1 (hw2 b hb)).1;rw [List.length_append,List.length_singleton] at k1;refine ⟨K,by omega,fun s hs t hts=>k2 t ?_⟩;show t∈zdh d (w++[c]) (stS d);rw [← zmh,zf5,zjw];exact ⟨s,hs,hts⟩
theorem zqf {m k m' k':Nat} (h1:m≤m') (h2:k≤k') {n:Nat} (h:pas m' k'≤n):pas m k≤n:=Nat.le_trans (Nat.le_trans (pas_mono h1 k) (pas_long m' h2)) h
theorem pas_16_17:pas 16 17≤2000000000:=pas_le (by decide +kernel)
theorem zps {d:List SNode} (h:Rt d) (hl:d.length≤24) (ht:Txt d) {w:List Int} (hw:∀c∈w,InR .u8 c) (hn:w.length≤1000) (hp:pas d.length w.length≤2000000000):zcw d w (zj2 d w):=by
 refine ⟨_,zkb h.ne (by omega), ?_⟩;refine zhq (P:=fun k l v=>zcw.l1 d w _ k l v) w.length (fun i l=>l=zj2 d (w.take i)) ?_ ?_ _ (by rw [List.take_zero,zq8])
 ·rintro i l hi rfl;have hsn:zj2 d (w.take (i+1))=onS d w[i] (zj2 d (w.take i)):=by rw [List.take_succ_eq_append_getElem hi,zf5]
  have hr:=zo6 h hl ht (w:=w.take i) (fun c hc=>hw c (List.mem_of_mem_take hc)) (hw _ (List.getElem_mem hi)) (zqf (Nat.le_refl _) (by rw [List.length_take];omega) hp);exact .inr ⟨_,rfl,fun k hk=>⟨fun _=>⟨_,zga hi,_,zo4 hr (hw _ (List.getElem_mem hi)),zl (by omega) (by omega),by rw [← hsn];exact hk⟩,fun h=>absurd (by omega) (df h)⟩⟩
 ·rintro l rfl k;refine ⟨fun h=>absurd (dt h) (by omega),fun _=>?_⟩;show zj2 d w=_;rw [List.take_length]
theorem itoa_no47 (n:Int):∀c∈Lib.itoa n,c≠47:=by
 intro c hc he;subst he;unfold Lib.itoa at hc;split at hc
 ·rcases List.mem_cons.1 hc with h | h
  ·exact absurd h (by decide)
  ·have:=(dec_ge _ _ h).1;exact absurd this (by decide)
 ·have:=(dec_ge _ _ hc).1;exact absurd this (by decide)
theorem keyN_no47 (l:List Int):∀c∈zko l,c≠47:=by
 induction l with
 | nil=>intro c hc;simp [zko] at hc
 | cons z l ih=>
  intro c hc;rw [zin,List.mem_append,List.mem_cons] at hc;rcases hc with h | rfl | h
  ·exact itoa_no47 z c h
  ·decide
  ·exact ih c h
theorem cut47 {a b:List UInt8} (ha:∀c∈a,c≠47) (hb:∀c∈b,c≠47) {u v:List UInt8} (h:a++47::u=b++47::v):a=b∧u=v:=by
 induction a generalizing b with
 | nil=>
  cases b with
  | nil=>exact ⟨rfl,(List.cons.inj h).2⟩
  | cons y b=>exact absurd (List.cons.inj h).1.symm (hb y (by simp))
 | cons x a ih=>
  cases b with
  | nil=>exact absurd (List.cons.inj h).1 (ha x (by simp))
  | cons y b=>
   obtain ⟨h1,h2⟩:=List.cons.inj h;obtain ⟨h3,h4⟩:=ih (fun c hc=>ha c (by simp [hc])) (fun c hc=>hb c (by simp [hc])) h2;exact ⟨by rw [h1,h3],h4⟩
theorem zkp (s:List SItem) (l:List (List SItem)):zl4 (s::l)=keyS s++47::zl4 l:=by simp [zl4]
theorem keyL_inj {l m:List (List SItem)} (h:zl4 l=zl4 m):l=m:=by
 induction l generalizing m with
 | nil=>
  cases m with
  | nil=>rfl
  | cons y m=>rw [zkp] at h;simp [zl4] at h
 | cons z l ih=>
  cases m with
  | nil=>rw [zkp] at h;simp [zl4] at h
  | cons y m=>
   rw [zkp,zkp] at h;obtain ⟨h1,h2⟩:=cut47 (keyN_no47 _) (keyN_no47 _) h;rw [zgc.1 h1,ih h2]
def d6:List SNode:=wrapD 6 d5
theorem zmz {l:List (List SItem)} (h1:l.length≤1000000000) (h2:∀s∈l,s.length≤1000):zgv l (zl4 l):=⟨h1,h2,rfl⟩
theorem onS_short {d:List SNode} {c:Int} {l:List (List SItem)} (hl:∀s∈l,Sm d s) (hc:InR .u8 c):∀t∈onS d c l,t.length≤1000:=fun t ht=>by
 obtain ⟨s,h1,h2⟩:=zjw.1 ht;exact zk5 (hl s h1) hc h2
structure Rm (d:List SNode) (l:TS):Prop where
 sm:∀s∈l,Sm d s
 len:l.length≤1000000000
 cls:(zn1 d l).length≤4398046511104
 on:∀c,InR .u8 c→Room d c l
 out:∀c,InR .u8 c→(onS d c l).length≤1000000000
theorem pas_16_10:pas 16 10≤1000000000:=pas_le (by decide +kernel)
theorem pas_16_9b:pas 16 9≤2042975:=pas_le (by decide +kernel)
theorem rm_heavy {d:List SNode} (h:Rt d) (hl:d.length≤16) (ht:Txt d) {w:List Int} (hw:∀c∈w,InR .u8 c) (hwl:w.length≤9):Rm d (zj2 d w):=by
 have l1:=zmi h hw;have p9:pas d.length w.length≤2042975:=zqf (m':=16) (k':=9) (by omega) (by omega) pas_16_9b;have p10:pas d.length (w.length+1)≤1000000000:=zqf (m':=16) (k':=10) (by omega) (by omega) pas_16_10;refine ⟨fun s hs=>(zj1 h (by omega) ht hw hs).1,by omega, ?_,fun c hc=>zo6 h (by omega) ht hw hc (by omega),fun c hc=>?_⟩
 ·have h1:=zq3 h (m:=24) (zj2 d w) fun s hs=>(zj1 h (by omega) ht hw hs).2;have h2:256*(24*(d.length+1)+1)*(zj2 d w).length≤256*(24*17+1)*2042975:=Nat.mul_le_mul (by omega) (by omega);omega
 ·have hw2:∀b∈w++[c],InR .u8 b:=fun b hb=>(List.mem_append.1 hb).elim (hw b) fun e=>by rw [List.mem_singleton.1 e];exact hc
  have:=zmi h hw2;rw [zf5,List.length_append,List.length_singleton] at this;omega
theorem rm_light {d:List SNode} (h:Rt d) (hl:d.length≤24) (ht:Txt d) (hn:NoFr d) (hs:szN d d.length ((d.length:Int)-1)≤1000) {w:List Int} (hw:∀c∈w,InR .u8 c):Rm d (zj2 d w):=by
 obtain ⟨K,k1,k2⟩:=zq9 h hn;have l1:=aftS_few h hn w;refine ⟨fun s hs=>(zj1 h hl ht hw hs).1,by omega, ?_,fun c hc=>⟨fun s hs=>(zj1 h hl ht hw hs).1,by omega,K,by omega,fun s hs t hts=>k2 (w++[c]) t ?_⟩,fun c hc=>?_⟩
 ·have h1:=zq3 h (m:=24) (zj2 d w) fun s hs=>(zj1 h hl ht hw hs).2;have h2:256*(24*(d.length+1)+1)*(zj2 d w).length≤256*(24*25+1)*1001:=Nat.mul_le_mul (by omega) (by omega);omega
 ·rw [zf5,zjw];exact ⟨s,hs,hts⟩
 ·have:=aftS_few h hn (w++[c]);rw [zf5] at this;omega
theorem sets_Bytes_w {d:List SNode} {l:TS} (h:Rm d l) (hd:d.length≤1000):zi2 d l (bytS d l):=by
 have h1:=h.cls;have h2:=h.len;have ho:=once_few d l;exact ⟨_,zm1 h.sm (by omega) (by omega),_,sets_Once_in (by omega) (by omega),_,zn9 (by omega),rfl⟩
theorem bytS_u8 {d:List SNode} {l:TS} {c:Int} (h:c∈bytS d l):InR .u8 c:=bytC_u8 h
def zl0 (d:List SNode) (l:TS):List (Int × TS):=(bytS d l).map fun c=>(c,onS d c l)
def zhg (d:List SNode):Sch TS:=⟨[stS d],zl0 d,endS d⟩
theorem ways_len (d:List SNode) (l:TS):(zl0 d l).length≤256:=by unfold zl0;rw [List.length_map];exact bytC_len _
theorem ways_in {d:List SNode} {l:TS} (h:Rm d l) (hd:d.length≤1000):zbo d l (zl0 d l):=by
 refine ⟨_,sets_Bytes_w h hd, ?_⟩;have hbl:(bytS d l).length≤256:=bytC_len _;refine zhq (P:=fun k out v=>zbo.l1 d l (bytS d l) _ k out v) (bytS d l).length (fun i out=>out=(zl0 d l).take i) ?_ ?_ _ (by simp)
 ·rintro i out hi rfl;have hc:=bytS_u8 (List.getElem_mem hi);have hi2:i<(zl0 d l).length:=by unfold zl0;rw [List.length_map];exact hi
  refine .inr ⟨_,rfl,fun k hk=>⟨fun _=>⟨_,zga hi,_,zo4 (h.on _ hc) hc, ?_,zl (by omega) (by omega), ?_⟩,fun h=>absurd (by omega) (df h)⟩⟩
  ·rw [List.length_take];simp;omega
  ·rw [List.take_succ_eq_append_getElem hi2] at hk;have e:(zl0 d l)[i]=((bytS d l)[i],onS d (bytS d l)[i] l):=by simp [zl0]
   rw [e] at hk;exact hk
 ·rintro out rfl k;refine ⟨fun h=>absurd (dt h) (by omega),fun _=>?_⟩;show zl0 d l=_;rw [List.take_of_length_le (by unfold zl0;rw [List.length_map];omega)]
theorem rn_aft {d:List SNode} {w:List Int} {x:TS} (h:Rn (fun x c y=>InR .u8 c∧y=onS d c x) [stS d] w x):x=zj2 d w∧∀c∈w,InR .u8 c:=by
 induction h with
 | nil=>exact ⟨rfl,fun c hc=>by cases hc⟩
 | snoc h hs ih=>
  obtain ⟨h1,h2⟩:=hs;refine ⟨by rw [h2,ih.1,zf5],fun b hb=>?_⟩;rcases List.mem_append.1 hb with hb | hb
  ·exact ih.2 b hb
  ·rw [List.mem_singleton.1 hb];exact h1
theorem zo5 (d:List SNode):∀(x:TS) (c:Int) (y:TS),(c,y)∈(zhg d).ways x→InR .u8 c∧y=onS d c x:=fun x c y h=>by
 obtain ⟨b,h1,h2⟩:=List.mem_map.1 h;cases h2;exact ⟨bytS_u8 h1,rfl⟩
theorem acc_aft {d:List SNode} {i j:Nat} {q:Qb TS} (h:(zeo (zhg d) i)[j]?=some q):q.1=zj2 d q.2.2.2∧(∀c∈q.2.2.2,InR .u8 c)∧q.2.2.2.length≤j:=by
 obtain ⟨h1,h2⟩:=rn_aft (accB_rn (S:=zhg d) (zo5 d) i j q h);exact ⟨h1,h2,(ziw _ _).wlen j q h⟩
def Lk (d:List SNode) (b:Int):Prop:=(NoFr d∧szN d d.length ((d.length:Int)-1)≤1000)∨b≤10
theorem acc_rm {d:List SNode} (h:Rt d) (hl:d.length≤16) (ht:Txt d) {b:Int} (hk:Lk d b) {i j:Nat} {q:Qb TS} (hq:(zeo (zhg d) i)[j]?=some q) (hj:(j:Int)<b):Rm d q.1:=by
 obtain ⟨h1,h2,h3⟩:=acc_aft hq;rw [h1];rcases hk with ⟨k1,k2⟩ | k1
 ·exact rm_light h (by omega) ht k1 k2 h2
 ·exact rm_heavy h hl ht h2 (by omega)
theorem key_start {d:List SNode}:zgv [stS d] (zl4 [stS d]):=zmz (by simp) fun s hs=>by rw [List.mem_singleton.1 hs];simp [stS]
theorem walk_sets {d:List SNode} (h:Rt d) (hl:d.length≤16) (ht:Txt d) {b:Int} (hb:b≤1000) (hk:Lk d b):
  zj ([stS d],(fun q_=>zgv q_.1 q_.2),(fun q_=>zbo d q_.1 q_.2),(fun q_=>zd0 d q_.1 q_.2)) b (zfm (zjv (zhg d) b)):=by
 refine walkB_in (S:=zhg d) (kf:=zl4) (fun a b e=>keyL_inj e) hb key_start (fun i q hi hq=>?_) fun i q hi hq _=>?_
 ·have hr:=acc_rm h hl ht hk hq hi;exact ⟨_,zlq hr.sm (by have:=hr.len;show q.1.length≤_;omega),rfl⟩
 ·have hr:=acc_rm h hl ht hk hq hi;refine ⟨ways_in hr (by omega),ways_len _ _,fun e he=>?_⟩;obtain ⟨e1,e2⟩:=zo5 d q.1 e.1 e.2 he;rw [e2];exact zmz (hr.out _ e1) (onS_short hr.sm e1)
def zf8 (l:List Int) (x:Int):Int:=if 0≤x∧x<(l.length:Int) then (at? l x).getD 0 else 0
def zov (e:SNode) (a b:Int):Int:=if e.1=7 then (1+max 0 (min e.2.2.2.2.1 1000))*a else if e.1=6∨e.1=8∨e.1=9 then a+1 else if e.1=4∨e.1=5 then a+b else if e.1=3 then 1+min (e.2.2.2.2.2.2.length:Int) 1000 else 1
def wl (d:List SNode):Nat→List Int
 | 0=>[]
 | i+1=>match d[i]? with
  | none=>wl d i
  | some e=>wl d i++[min (zov e (zf8 (wl d i) e.2.1) (zf8 (wl d i) e.2.2.1)) 1000]
theorem zk1 {d:List SNode} {i:Nat} (hi:i<d.length):wl d (i+1)=wl d i++[min (zov d[i] (zf8 (wl d i) d[i].2.1) (zf8 (wl d i) d[i].2.2.1)) 1000]:=by
 show (match d[i]? with | none=>wl d i | some e=>wl d i++[min (zov e (zf8 (wl d i) e.2.1) (zf8 (wl d i) e.2.2.1)) 1000])=_;rw [List.getElem?_eq_getElem hi]
theorem zou {d:List SNode}:∀{i:Nat},i≤d.length→(wl d i).length=i
 | 0,_=>rfl
 | i+1,h=>by rw [zk1 (by omega),List.length_append,zou (by omega)];rfl
theorem mul_few {x a:Int} (hx:0≤x∧x≤1001) (ha:0≤a∧a≤1000):0≤x*a∧x*a≤1001000:=by
 refine ⟨Int.mul_nonneg hx.1 ha.1, ?_⟩;have:=Int.mul_le_mul hx.2 ha.2 ha.1 (by omega);omega
theorem wgt1_ok {e:SNode} {a b:Int} (ha:0≤a∧a≤1000) (hb:0≤b∧b≤1000):0≤zov e a b:=by
 unfold zov;split
 ·exact (mul_few (by omega) ha).1
 ·split
  ·omega
  ·split
   ·omega
   ·split <;> omega
theorem zil {l:List Int} (h:∀x∈l,0≤x∧x≤1000) (x:Int):0≤zf8 l x∧zf8 l x≤1000:=by
 unfold zf8;split
 ·rename_i hx
  obtain ⟨y,hy,hm⟩:=zoq hx.1 hx.2;rw [hy];exact h y hm
 ·omega
theorem wl_ok {d:List SNode}:∀{i:Nat},i≤d.length→∀x∈wl d i,0≤x∧x≤1000
 | 0,_,x,hx=>by cases hx
 | i+1,h,x,hx=>by
  have ih:=wl_ok (d:=d) (i:=i) (by omega);rw [zk1 (by omega)] at hx;rcases List.mem_append.1 hx with hx | hx
  ·exact ih x hx
  ·rw [List.mem_singleton.1 hx];have:=wgt1_ok (e:=d[i]) (zil ih d[i].2.1) (zil ih d[i].2.2.1);omega
theorem w7 {L1:List Int→Int→Prop} {l:List Int} {i:Int} {e:SNode} {a:Int} (hl:l.length≤1000) (hi:0≤i∧i≤1000) (ha:0≤a∧a≤1000) (hb:0≤zf8 l e.2.2.1∧zf8 l e.2.2.1≤1000) (h:L1 (l++[min (zov e a (zf8 l e.2.2.1)) 1000]) (i+1)):zo.j7 L1 l i e a:=by
 have e2:∀w,w=zov e a (zf8 l e.2.2.1)→zo.j2 L1 l i w:=fun w hw=>by
  subst hw;exact ⟨by simp;omega,zl (by omega) (by omega),h⟩
 have e3:∀w,e.1=7∨w=zov e a (zf8 l e.2.2.1)→zo.j3 L1 l i e a w:=fun w hw=>by
  refine ⟨fun h7=>?_,fun h7=>e2 w (hw.resolve_left (by simpa using h7))⟩;have h7:e.1=7:=by simpa using h7
  have:=mul_few (x:=1+max 0 (min e.2.2.2.2.1 1000)) (by omega) ha;exact ⟨zl (by omega) (by omega),zl (by omega) (by omega),e2 _ (by unfold zov;rw [if_pos h7])⟩
 have e4:∀w,e.1=7∨(e.1=6∨e.1=8∨e.1=9)∨w=zov e a (zf8 l e.2.2.1)→zo.j4 L1 l i e a w:=fun w hw=>by
  refine ⟨fun h6=>⟨zl (by omega) (by omega),e3 _ ?_⟩,fun h6=>e3 w ?_⟩
  ·have h6:e.1=6∨e.1=8∨e.1=9:=by simpa [or_assoc] using h6
   refine .inr ?_;unfold zov;rw [if_neg (by omega),if_pos h6]
  ·have h6:¬ (e.1=6∨e.1=8∨e.1=9):=by simpa [or_assoc,and_assoc] using h6
   exact hw.imp id fun h=>h.resolve_left h6
 have e5:∀w,e.1=7∨(e.1=6∨e.1=8∨e.1=9)∨(e.1=4∨e.1=5)∨w=zov e a (zf8 l e.2.2.1)→zo.j5 L1 l i e a (zf8 l e.2.2.1) w:=fun w hw=>by
  refine ⟨fun h4=>⟨zl (by omega) (by omega),e4 _ ?_⟩,fun h4=>e4 w ?_⟩
  ·have h4:e.1=4∨e.1=5:=by simpa using h4
   refine .inr (.inr ?_);unfold zov;rw [if_neg (by omega),if_neg (by omega),if_pos h4]
  ·have h4:¬ (e.1=4∨e.1=5):=by simpa using h4
   exact hw.imp id fun h=>h.imp id fun h=>h.resolve_left h4
 have e6:zo.j6 L1 l i e a (zf8 l e.2.2.1):=by
  refine ⟨fun h3=>⟨zl (by omega) (by omega),e5 _ ?_⟩,fun h3=>e5 1 ?_⟩
  ·have h3:e.1=3:=by simpa using h3
   refine .inr (.inr (.inr ?_));unfold zov;rw [if_neg (by omega),if_neg (by omega),if_neg (by omega),if_pos h3]
  ·have h3:¬ e.1=3:=by simpa using h3
   by_cases k7:e.1=7
   ·exact .inl k7
   by_cases k6:e.1=6∨e.1=8∨e.1=9
   ·exact .inr (.inl k6)
   by_cases k4:e.1=4∨e.1=5
   ·exact .inr (.inr (.inl k4))
   refine .inr (.inr (.inr ?_));unfold zov;rw [if_neg k7,if_neg k6,if_neg k4,if_neg h3]
 refine ⟨_,rfl,fun hc=>?_,fun hc=>?_⟩
 ·simp only [Bool.and_eq_true,decide_eq_true_eq] at hc;obtain ⟨y,hy,_⟩:=zoq hc.1 hc.2;have:zf8 l e.2.2.1=y:=by unfold zf8;rw [if_pos hc,hy];rfl
  rw [this] at e6;exact ⟨y,hy,e6⟩
 ·have:zf8 l e.2.2.1=0:=by
   unfold zf8;rw [if_neg];simp only [Bool.and_eq_false_iff,decide_eq_false_iff_not] at hc;omega
  rw [this] at e6;exact e6
theorem zm6 {d:List SNode} (hl:d.length≤100):zo d (if d.length=0 then 0 else zf8 (wl d d.length) ((d.length:Int)-1)):=by
 refine zhq (P:=fun k l v=>zo.l1 d _ k l v) d.length (fun i l=>l=wl d i) ?_ ?_ [] rfl
 ·rintro i l hi rfl;have hlen:=zou (d:=d) (i:=i) (by omega);have hok:=wl_ok (d:=d) (i:=i) (by omega);refine .inr ⟨_,(zk1 hi).symm,fun k hk=>⟨_,rfl,fun _=>⟨_,zga hi,_,rfl,fun hc=>?_,fun hc=>?_⟩,fun hc=>?_⟩⟩
  ·simp only [Bool.and_eq_true,decide_eq_true_eq] at hc;obtain ⟨y,hy,hm⟩:=zoq hc.1 hc.2;have e:zf8 (wl d i) d[i].2.1=y:=by unfold zf8;rw [if_pos hc,hy];rfl
   rw [e] at hk;exact ⟨y,hy,w7 (by omega) (by omega) (hok y hm) (zil hok _) hk⟩
  ·have e:zf8 (wl d i) d[i].2.1=0:=by
    unfold zf8;rw [if_neg];simp only [Bool.and_eq_false_iff,decide_eq_false_iff_not] at hc;omega
   rw [e] at hk;exact w7 (by omega) (by omega) (by omega) (zil hok _) hk
  ·exfalso;simp only [Bool.and_eq_false_iff,decide_eq_false_iff_not] at hc;omega
 ·rintro l rfl k;have hlen:=zou (d:=d) (i:=d.length) (Nat.le_refl _);refine ⟨_,rfl,fun hc=>?_,fun _=>⟨fun h=>?_,fun h=>?_⟩⟩
  ·exfalso;simp only [Bool.and_eq_true,decide_eq_true_eq] at hc;omega
  ·rw [hlen] at h;rw [if_pos (by have:=eq_of_beq h;omega)]
  ·rw [hlen] at h;have hp:d.length≠0:=by have:=beq_eq_false_iff_ne.1 h;omega
   obtain ⟨y,hy,_⟩:=zoq (xs:=wl d d.length) (i:=(d.length:Int)-1) (by omega) (by omega);refine ⟨zl (by omega) (by omega),y,by rw [hlen];exact hy, ?_⟩;rw [if_neg hp];unfold zf8;rw [if_pos (by omega),hy];rfl
theorem wl_pre {d:List SNode} {i:Nat}:∀{j:Nat},i≤j→j≤d.length→wl d i <+: wl d j
 | 0,h,_=>by rw [Nat.le_zero.1 h];exact List.prefix_refl _
 | j+1,h,hj=>by
  rcases Nat.lt_or_eq_of_le h with h1 | h1
  ·rw [zk1 (by omega)];exact (wl_pre (Nat.le_of_lt_succ h1) (by omega)).trans (List.prefix_append _ _)
  ·rw [h1];exact List.prefix_refl _
theorem zmd {d:List SNode} {i:Nat} (hi:i≤d.length) {x:Int} (h0:0≤x) (h1:x<(i:Int)):zf8 (wl d i) x=zf8 (wl d d.length) x:=by
 have l1:=zou (d:=d) hi;have l2:=zou (d:=d) (i:=d.length) (Nat.le_refl _);obtain ⟨m,rfl⟩:∃m:Nat,x=m:=⟨x.toNat,by omega⟩;unfold zf8;rw [if_pos (by omega),if_pos (by omega),zb2,zb2];obtain ⟨r,hr⟩:=wl_pre (d:=d) hi (Nat.le_refl _);rw [← hr,List.getElem?_append_left (by omega)]
theorem look_at {d:List SNode} {i:Int} {e:SNode} (he:at? d i=some e):zf8 (wl d d.length) i=min (zov e (zf8 (wl d i.toNat) e.2.1) (zf8 (wl d i.toNat) e.2.2.1)) 1000:=by
 obtain ⟨h0,h1⟩:=zb3 he;obtain ⟨m,rfl⟩:∃m:Nat,i=m:=⟨i.toNat,by omega⟩;have hm:m<d.length:=by omega
 have he':d[m]=e:=by
  rw [zb2,List.getElem?_eq_getElem hm] at he;exact Option.some.inj he
 rw [← zmd (d:=d) (i:=m+1) (by omega) (by omega) (by omega)];have l1:=zou (d:=d) (i:=m) (by omega);unfold zf8;rw [if_pos (by rw [zk1 hm,List.length_append,l1];simp;omega),zb2,zk1 hm,List.getElem?_append_right (by omega),l1,Nat.sub_self,he'];simp [zf8]
theorem sz_wgt {d:List SNode} (hn:∀n∈d,n.1≠8∧n.1≠9) {f i:Int} (h:Tr d f i):∀k,zf8 (wl d d.length) i<1000→((szN d k i:Nat):Int)≤zf8 (wl d d.length) i:=by
 have hok:∀x,0≤zf8 (wl d d.length) x∧zf8 (wl d d.length) x≤1000:=fun x=>zil (wl_ok (Nat.le_refl _)) x;have hs:∀{i:Int} {e:SNode} (k:Nat),at? d i=some e→szN d (k+1) i=if e.1=2 then 1 else if e.1=3 then e.2.2.2.2.2.2.length else if e.1=4∨e.1=5 then szN d k e.2.1+szN d k e.2.2.1 else if e.1=6 then szN d k e.2.1 else if e.1=7 then e.2.2.2.2.1.toNat*szN d k e.2.1 else 0:=fun {i e} k he=>by
  simp only [szN,he]
 induction h with
 | leaf he hk hx h0=>
  rename_i i e
  intro k hlt;have hl:=look_at he;rw [hl] at hlt ⊢;cases k with
  | zero=>have:=wgt1_ok (e:=e) (zil (wl_ok (d:=d) (i:=i.toNat) (by have:=zb3 he;omega)) e.2.1) (zil (wl_ok (d:=d) (i:=i.toNat) (by have:=zb3 he;omega)) e.2.2.1);show (0:Int)≤_;omega
  | succ k=>
   rw [hs k he];unfold zov at hlt ⊢;rcases hk with k1 | k1 | k1
   ·simp only [k1] at hlt ⊢;simp;try omega
   ·simp only [k1] at hlt ⊢;simp;try omega
   ·simp only [k1] at hlt ⊢;simp at hlt ⊢;omega
 | one he hk ha hb hr h ih=>
  rename_i f i e
  intro k hlt;have hle:=h.le;have hbd:=zb3 he;have hl:=look_at he;rw [ha,zmd (i:=i.toNat) (by omega) (by omega) (by omega)] at hl;have hA:=hok (i-1);have hw:=wgt1_ok (e:=e) (a:=zf8 (wl d d.length) (i-1)) hA (zil (wl_ok (d:=d) (i:=i.toNat) (by omega)) e.2.2.1);rw [hl] at hlt ⊢;cases k with
  | zero=>show (0:Int)≤_;omega
  | succ k=>
   rw [hs k he,ha];have ih:=ih k;unfold zov at hlt ⊢;rcases hk with k1 | k1 | k1 | k1
   ·simp only [k1] at hlt ⊢;simp at hlt ⊢;have:=ih (by omega);omega
   ·have hr:=hr k1;simp only [k1] at hlt ⊢;simp only [show ¬ ((7:Int)=2) by decide,show ¬ ((7:Int)=3) by decide,show ¬ ((7:Int)=4∨(7:Int)=5) by decide,show ¬ ((7:Int)=6) by decide,if_false,if_true] at hlt ⊢;have hx:1+max 0 (min e.2.2.2.2.1 1000)=1+e.2.2.2.2.1:=by omega
    rw [hx] at hlt ⊢;have hA2:zf8 (wl d d.length) (i-1)<1000:=by
     rcases Int.lt_or_le (zf8 (wl d d.length) (i-1)) 1000 with h | h
     ·exact h
     ·have h2:zf8 (wl d d.length) (i-1)≤(1+e.2.2.2.2.1)*zf8 (wl d d.length) (i-1):=by
       have:=Int.mul_le_mul_of_nonneg_right (show (1:Int)≤1+e.2.2.2.2.1 by omega) hA.1;omega
      omega
    have ih:=ih hA2;have e1:(((e.2.2.2.2.1.toNat*szN d k (i-1):Nat)):Int)=e.2.2.2.2.1*(szN d k (i-1):Int):=by
     rw [Int.natCast_mul,Int.toNat_of_nonneg (by omega)]
    rw [e1];have h3:e.2.2.2.2.1*(szN d k (i-1):Int)≤(1+e.2.2.2.2.1)*zf8 (wl d d.length) (i-1):=Int.mul_le_mul (by omega) ih (by omega) (by omega);omega
   ·exact absurd k1 (hn _ (at_mem he)).1
   ·exact absurd k1 (hn _ (at_mem he)).2
 | two he hk ha hb h1 h2 i1 i2=>
  rename_i f p i e
  intro k hlt;have l1:=h1.le;have l2:=h2.le;have hbd:=zb3 he;have hl:=look_at he;rw [ha,hb,zmd (i:=i.toNat) (by omega) (by omega) (by omega),zmd (i:=i.toNat) (by omega) (by omega) (by omega)] at hl;have hA:=hok (p-1);have hB:=hok (i-1);rw [hl] at hlt ⊢;have hw:zov e (zf8 (wl d d.length) (p-1)) (zf8 (wl d d.length) (i-1))=zf8 (wl d d.length) (p-1)+zf8 (wl d d.length) (i-1):=by
   unfold zov;rw [if_neg (by omega),if_neg (by omega),if_pos hk]
  rw [hw] at hlt ⊢;cases k with
  | zero=>show (0:Int)≤_;omega
  | succ k=>
   rw [hs k he,ha,hb,if_neg (by omega),if_neg (by omega),if_pos hk];have j1:=i1 k (by omega);have j2:=i2 k (by omega);rw [Int.natCast_add];omega
theorem Heavy_ex {d:List SNode} (hl:d.length≤1000):∃r,zb6 d r∧(r=false→∀n∈d,n.1≠8∧n.1≠9):=by
 rcases Classical.em (∀n∈d,n.1≠8∧n.1≠9) with hn | hn
 ·refine ⟨false, ?_,fun _=>hn⟩;refine zhq (P:=fun k (_:Unit) v=>zb6.l1 d false _ k v) d.length (fun _ _=>True) ?_ ?_ () trivial
  ·intro i _ hi _;have:=hn _ (List.getElem_mem hi);refine .inr ⟨(),trivial,fun k hk=>⟨fun _=>⟨_,zga hi,_,fun _=>zga hi,fun h=>?_,fun _=>⟨zl (by omega) (by omega),hk⟩⟩,fun h=>absurd (by omega) (df h)⟩⟩;simp [this.1,this.2] at h
  ·intro _ _ k;exact ⟨fun h=>absurd (dt h) (by omega),fun _=>rfl⟩
 ·refine ⟨true, ?_,(fun h=>by cases h)⟩;refine zhq (P:=fun k (_:Unit) v=>zb6.l1 d true _ k v) d.length (fun i _=>∀n∈d.take i,n.1≠8∧n.1≠9) ?_ ?_ () (by simp)
  ·intro i _ hi hI
   by_cases hb:d[i].1=8∨d[i].1=9
   ·exact .inl fun k=>⟨fun _=>⟨_,zga hi,_,fun _=>zga hi,fun _=>rfl,fun h=>by
     rcases hb with hb | hb <;> simp [hb] at h⟩,fun h=>absurd (by omega) (df h)⟩
   ·refine .inr ⟨(),fun n hnm=>?_,fun k hk=>⟨fun _=>⟨_,zga hi,_,fun _=>zga hi,fun _=>rfl,fun _=>⟨zl (by omega) (by omega),hk⟩⟩,fun h=>absurd (by omega) (df h)⟩⟩;rw [List.take_succ_eq_append_getElem hi,List.mem_append,List.mem_singleton] at hnm;rcases hnm with h | rfl
    ·exact hI n h
    ·omega
  ·intro _ hI k;rw [List.take_length] at hI;exact absurd hI hn
theorem Light_ex {d:List SNode} (hl:d.length≤1000) (b:Int):∃r,zgk d d b r∧(r=true→b≤10∨∀n∈d,n.1≠8∧n.1≠9):=by
 obtain ⟨r,h1,h2⟩:=Heavy_ex hl;refine ⟨_,⟨r,fun _=>h1,r,fun _=>h1,rfl⟩,fun h=>?_⟩;simp only [Bool.or_eq_true,decide_eq_true_eq,Bool.and_eq_true,Bool.not_eq_true'] at h;exact h.imp id fun h=>h2 h.1
theorem few18_ex {d:List SNode} (ht:Txt d):∃r,zkn d r∧(r=true→Rt d∧d.length≤16∧((∀n∈d,n.1≠8∧n.1≠9)→szN d d.length ((d.length:Int)-1)≤60)):=by
 obtain ⟨r3,h3,h3b⟩:=few_ex ht;cases r3
 ·exact ⟨false,⟨false,h3,0,(fun h=>by simp at h),_,rfl,false,(fun h=>by simp at h),by simp⟩,(fun h=>by cases h)⟩
 ·have hl:=h3b rfl;have hw:=zm6 hl;obtain ⟨r9,h9,h9b⟩:=right_ok (d:=d) (by omega) ht;refine ⟨_,⟨true,h3,_,fun _=>hw,_,rfl,r9,fun _=>h9,rfl⟩,fun h=>?_⟩;simp only [Bool.true_and,Bool.and_eq_true,decide_eq_true_eq] at h;obtain ⟨⟨g1,g2⟩,g3⟩:=h;have hR:=h9b g3;refine ⟨hR,by omega,fun hn=>?_⟩;have hp:=List.length_pos_iff.2 hR.ne;rw [if_neg (by omega)] at g2;have:=sz_wgt hn hR.tr d.length (by omega);omega
theorem lk_of {d:List SNode} {b:Int} (h1:b≤10∨∀n∈d,n.1≠8∧n.1≠9) (h2:(∀n∈d,n.1≠8∧n.1≠9)→szN d d.length ((d.length:Int)-1)≤60):Lk d b:=
 h1.elim .inr fun h=>.inl ⟨nf_of h _ _,Nat.le_trans (h2 h) (by omega)⟩
theorem node7 {d:List SNode} (ht:Txt d) {f i:Int} (h:Tr d f i):∃v:Nat,v≤1099511627776∧(∀k,(i-f+1).toNat≤k→z6.n k d i (v:Int))∧(v<256→∀k,nf d k i=true∧szN d k i≤v):=by
 have hs:∀{i:Int} {e:SNode} (k:Nat),at? d i=some e→szN d (k+1) i=if e.1=2 then 1 else if e.1=3 then e.2.2.2.2.2.2.length else if e.1=4∨e.1=5 then szN d k e.2.1+szN d k e.2.2.1 else if e.1=6 then szN d k e.2.1 else if e.1=7 then e.2.2.2.2.1.toNat*szN d k e.2.1 else 0:=fun {i e} k he=>by
  simp only [szN,he]
 have hf:∀{i:Int} {e:SNode} (k:Nat),at? d i=some e→nf d (k+1) i=if e.1=8∨e.1=9 then false else if e.1=4∨e.1=5 then nf d k e.2.1&&nf d k e.2.2.1 else if e.1=6 then nf d k e.2.1 else if e.1=7 then decide (e.2.2.2.2.1≤0)||nf d k e.2.1 else true:=fun {i e} k he=>by
  simp only [nf,he]
 induction h with
 | leaf he hk hx h0=>
  rename_i i e
  have hte:=ht e (at_mem he);rcases hk with k1 | k1 | k1
  ·refine ⟨0,by omega,fun k hk=>?_,fun _ k=>?_⟩
   ·obtain ⟨k,rfl⟩:∃q,k=q+1:=⟨k-1,by omega⟩;refine ⟨e,he,fun h=>by simp [k1] at h,fun _=>?_⟩;simp [z6.j3,z6.j2,z6.j1,k1]
   ·cases k with
    | zero=>exact ⟨rfl,Nat.le_refl _⟩
    | succ k=>rw [hs k he,hf k he];simp [k1]
  ·refine ⟨1,by omega,fun k hk=>?_,fun _ k=>?_⟩
   ·obtain ⟨k,rfl⟩:∃q,k=q+1:=⟨k-1,by omega⟩;refine ⟨e,he,fun h=>by simp [k1] at h,fun _=>?_⟩;simp [z6.j3,z6.j2,z6.j1,k1]
   ·cases k with
    | zero=>exact ⟨rfl,by simp [szN]⟩
    | succ k=>rw [hs k he,hf k he];simp [k1]
  ·refine ⟨min e.2.2.2.2.2.2.length 1099511627776,by omega,fun k hk=>?_,fun hv k=>?_⟩
   ·obtain ⟨k,rfl⟩:∃q,k=q+1:=⟨k-1,by omega⟩;refine ⟨e,he,fun h=>by simp [k1] at h,fun _=>?_⟩;simp [z6.j3,z6.j2,z6.j1,k1,zda];omega
   ·cases k with
    | zero=>exact ⟨rfl,by simp [szN]⟩
    | succ k=>rw [hs k he,hf k he];simp [k1];omega
 | one he hk ha hb hr h ih=>
  rename_i f i e
  have hle:=h.le;obtain ⟨v,hv,hn,ho⟩:=ih;rcases hk with k1 | k1 | k1 | k1
  ·refine ⟨v,hv,fun k hk=>?_,fun hv k=>?_⟩
   ·obtain ⟨k,rfl⟩:∃q,k=q+1:=⟨k-1,by omega⟩;refine ⟨e,he,fun _=>⟨_,by rw [ha];exact hn k (by omega), ?_⟩,fun h=>by simp [k1] at h⟩;simp [z6.j3,z6.j2,z6.j1,k1]
   ·cases k with
    | zero=>exact ⟨rfl,by simp [szN]⟩
    | succ k=>rw [hs k he,hf k he,ha];simp [k1];exact ho hv k
  ·have hr:=hr k1;obtain ⟨m,hm⟩:∃m:Nat,e.2.2.2.2.1=m:=⟨e.2.2.2.2.1.toNat,by omega⟩;have hm2:m≤255:=by omega
   have hmul:v*m≤1099511627776*255:=Nat.mul_le_mul hv hm2;refine ⟨min (v*m) 1099511627776,by omega,fun k hk=>?_,fun hlt k=>?_⟩
   ·obtain ⟨k,rfl⟩:∃q,k=q+1:=⟨k-1,by omega⟩;refine ⟨e,he,fun _=>⟨_,by rw [ha];exact hn k (by omega), ?_⟩,fun h=>by simp [k1] at h⟩;have e1:(v:Int)*e.2.2.2.2.1=((v*m:Nat):Int):=by rw [hm,Int.natCast_mul]
    simp [z6.j3,z6.j2,z6.j1,k1,zda];rw [e1];exact ⟨zl (by omega) (by omega),by omega⟩
   ·cases k with
    | zero=>exact ⟨rfl,by simp [szN]⟩
    | succ k=>
     rw [hs k he,hf k he,ha];simp only [k1,show ¬ ((7:Int)=2) by decide,show ¬ ((7:Int)=3) by decide,show ¬ ((7:Int)=4∨(7:Int)=5) by decide,show ¬ ((7:Int)=6) by decide,show ¬ ((7:Int)=8∨(7:Int)=9) by decide,if_false,if_true];rcases Nat.eq_zero_or_pos m with h0 | h0
     ·subst h0;rw [hm];simp
     ·have hvm:v≤v*m:=Nat.le_mul_of_pos_right v h0;obtain ⟨o1,o2⟩:=ho (by omega) k;rw [hm,o1];refine ⟨by simp, ?_⟩;have:=Nat.mul_le_mul_left m o2;rw [Nat.mul_comm m v] at this;simp only [Int.toNat_natCast];omega
  ·obtain ⟨c,hc⟩:∃c,min (v+1) 1099511627776=c:=⟨_,rfl⟩;have hc1:1≤c∧c≤1099511627776:=by omega
   refine ⟨min (256*c) 1099511627776,Nat.min_le_right _ _,fun k hk=>?_,fun hlt k=>absurd hlt (Nat.not_lt.2 (Nat.le_min.2 ⟨Nat.le_mul_of_pos_right 256 hc1.1,by decide⟩))⟩;have hc2:min ((v:Int)+1) 1099511627776=(c:Int):=by
    rcases Nat.lt_or_ge v 1099511627776 with g | g
    ·rw [Nat.min_eq_left g] at hc;rw [← hc,Int.min_eq_left (by omega)];rfl
    ·rw [Nat.min_eq_right (Nat.le_succ_of_le g)] at hc;rw [← hc,Int.min_eq_right (by omega)];rfl
   obtain ⟨k,rfl⟩:∃q,k=q+1:=⟨k-1,by omega⟩;refine ⟨e,he,fun _=>⟨_,by rw [ha];exact hn k (by omega), ?_⟩,fun h=>by simp [k1] at h⟩;simp [z6.j3,z6.j2,z6.j1,k1,zda];rw [hc2];exact ⟨zl (by omega) (by omega),zl (by omega) (by omega),by omega⟩
  ·obtain ⟨c,hc⟩:∃c,min (v+1) 1099511627776=c:=⟨_,rfl⟩;have hc1:1≤c∧c≤1099511627776:=by omega
   refine ⟨min (256+65536*c) 1099511627776,Nat.min_le_right _ _,fun k hk=>?_,fun hlt k=>absurd hlt (Nat.not_lt.2 (Nat.le_min.2 ⟨Nat.le_add_right _ _,by decide⟩))⟩;have hc2:min ((v:Int)+1) 1099511627776=(c:Int):=by
    rcases Nat.lt_or_ge v 1099511627776 with g | g
    ·rw [Nat.min_eq_left g] at hc;rw [← hc,Int.min_eq_left (by omega)];rfl
    ·rw [Nat.min_eq_right (Nat.le_succ_of_le g)] at hc;rw [← hc,Int.min_eq_right (by omega)];rfl
   obtain ⟨k,rfl⟩:∃q,k=q+1:=⟨k-1,by omega⟩;refine ⟨e,he,fun _=>⟨_,by rw [ha];exact hn k (by omega), ?_⟩,fun h=>by simp [k1] at h⟩;simp [z6.j3,z6.j2,z6.j1,k1,zda];rw [hc2];exact ⟨zl (by omega) (by omega),zl (by omega) (by omega),zl (by omega) (by omega),by omega⟩
 | two he hk ha hb h1 h2 i1 i2=>
  rename_i f p i e
  have l1:=h1.le;have l2:=h2.le;obtain ⟨u,hu,nu,ou⟩:=i1;obtain ⟨v,hv,nv,ov⟩:=i2;refine ⟨min (v+u) 1099511627776,by omega,fun k hk2=>?_,fun hlt k=>?_⟩
  ·obtain ⟨k,rfl⟩:∃q,k=q+1:=⟨k-1,by omega⟩;refine ⟨e,he,fun _=>⟨_,by rw [ha];exact nv k (by omega), ?_⟩,fun h=>by rcases hk with k1 | k1 <;> simp [k1] at h⟩;have hb':=nu k (by omega);rw [← hb] at hb';refine ⟨fun _=>⟨_,hb', ?_⟩,fun h=>by rcases hk with k1 | k1 <;> simp [k1] at h⟩;rcases hk with k1 | k1
   ·simp [z6.j2,z6.j1,k1,zda];exact ⟨zl (by omega) (by omega),by omega⟩
   ·simp [z6.j2,z6.j1,k1,zda];exact ⟨zl (by omega) (by omega),by omega⟩
  ·cases k with
   | zero=>exact ⟨rfl,by simp [szN]⟩
   | succ k=>
    obtain ⟨o1,o2⟩:=ou (by omega) k;obtain ⟨o3,o4⟩:=ov (by omega) k;have g8:¬ (e.1=8∨e.1=9):=by omega
    have g2:¬ e.1=2:=by omega
    have g3:¬ e.1=3:=by omega
    have q1:=hs k he;have q2:=hf k he;rw [if_neg g2,if_neg g3,if_pos hk,ha,hb] at q1;rw [if_neg g8,if_pos hk,ha,hb,o1,o3] at q2;rw [q1,q2];exact ⟨rfl,by omega⟩
theorem of7 {d:List SNode} (h:Rt d) (hl:d.length≤1000) (ht:Txt d):∃n:Nat,1≤n∧n≤1099511627776∧zma d (n:Int)∧(n≤100→NoFr d∧szN d d.length ((d.length:Int)-1)+1≤n):=by
 obtain ⟨v,hv,hn,ho⟩:=node7 ht h.tr;have hp:=List.length_pos_iff.2 h.ne;refine ⟨min (v+1) 1099511627776,by omega,by omega,⟨zl (by omega) (by omega),_,⟨_,hn d.length (by omega)⟩,zl (by omega) (by omega),_,rfl,by omega⟩,fun hlt=>?_⟩;obtain ⟨o1,o2⟩:=ho (by omega) d.length;exact ⟨o1,by omega⟩
theorem zog (n:Nat):zcl (n:Int) (((4 ^ min n 31:Nat)):Int):=by
 have hp:∀i,i≤31→4 ^ i≤4611686018427387904:=fun i hi=>by
  have:=Nat.pow_le_pow_right (n:=4) (by decide) hi;exact Nat.le_trans this (by decide)
 refine zhq (P:=fun k b v=>zcl.l1 (n:Int) _ k b v) (min n 31) (fun i b=>b=((4 ^ i:Nat):Int)) ?_ ?_ 1 rfl
 ·rintro i b hi rfl;have h1:=hp (i+1) (by omega);have e:(4:Int)*((4 ^ i:Nat):Int)=((4 ^ (i+1):Nat):Int):=by
   rw [Nat.pow_succ,Nat.mul_comm,Int.natCast_mul];rfl
  refine .inr ⟨_,rfl,fun k hk=>⟨fun _=>?_,fun hc=>?_⟩⟩
  ·rw [e];generalize 4 ^ (i+1)=P at h1 hk ⊢;exact ⟨zl (by omega) (by omega),zl (by omega) (by omega),hk⟩
  ·exfalso;simp only [Bool.and_eq_false_iff,decide_eq_false_iff_not] at hc;omega
 ·rintro b rfl k;refine ⟨fun hc=>?_,fun _=>rfl⟩;exfalso;simp only [Bool.and_eq_true,decide_eq_true_eq] at hc;omega
def subs {α:Type}:List α→List (List α)
 | []=>[[]]
 | x::l=>subs l++(subs l).map (x :: ·)
theorem subs_len {α:Type}:∀l:List α,(subs l).length=2 ^ l.length
 | []=>rfl
 | x::l=>by
  rw [subs,List.length_append,List.length_map,subs_len l,List.length_cons,Nat.pow_succ];omega
theorem zj0 {α:Type} (p:α→Bool):∀l:List α,l.filter p∈subs l
 | []=>by simp [subs]
 | x::l=>by
  rw [subs,List.filter_cons,List.mem_append];split
  ·exact .inr (List.mem_map.2 ⟨_,zj0 p l,rfl⟩)
  ·exact .inl (zj0 p l)
theorem sets_cov {d:List SNode} (h:Rt d) (hn:NoFr d):∃K:List TS,K.length≤2 ^ (szN d d.length ((d.length:Int)-1)+1)∧∀i q,q∈zeo (zhg d) i→q.1∈K:=by
 obtain ⟨K,k1,k2⟩:=zq9 h hn;refine ⟨subs (zjk K), ?_,fun i q hq=>?_⟩
 ·rw [subs_len];exact Nat.pow_le_pow_right (by decide) (Nat.le_trans (zkc fun x hx=>hx) k1)
 ·obtain ⟨j,hj⟩:=List.getElem?_of_mem hq;obtain ⟨q1,_,_⟩:=acc_aft hj;have:q.1=(zjk K).filter fun t=>decide (t∈zj2 d q.2.2.2):=by
   rw [q1];refine rs_uniq (zq7 d _) ((zff K).sublist List.filter_sublist) fun t=>?_;rw [List.mem_filter,decide_eq_true_iff,zef];exact ⟨fun ht=>⟨k2 _ t ht,ht⟩,fun ht=>ht.2⟩
  rw [this];exact zj0 _ _
theorem zeq {d:List SNode} (h:Rt d) (hl:d.length≤16) (ht:Txt d) {b:Int} (hb:b≤1000) (hk:Lk d b):zdp d b (zfm (zjv (zhg d) b)).1:=⟨_,zkb h.ne (by omega),_,walk_sets h hl ht hb hk,rfl⟩
theorem zot {d:List SNode} (h:Rt d) (hl:d.length≤16) (ht:Txt d) {w:List Int} (hw:∀c∈w,InR .u8 c) (hwl:w.length≤8):zju d w (endS d (zj2 d w)):=by
 have hp:pas d.length w.length≤2000000000:=zqf (m':=16) (k':=17) (by omega) (by omega) pas_16_17;have:=zmi h hw;exact ⟨_,zps h (by omega) ht hw (by omega) hp,_,zlq (fun s hs=>(zj1 h (by omega) ht hw hs).1) (by omega),rfl⟩
theorem text_rt {n:SNode} (hk:n.1=3) (h0:n.2.1=0∧n.2.2.1=0) (hx:n.2.2.2.2.2.2≠[]):Rt [n]:=by
 have tr:Tr [n] 0 ((([n]:List SNode).length:Int)-1):=.leaf (e:=n) rfl (by omega) (fun _=>hx) h0;have nk:=tr.nok;refine ⟨⟨nk.two,nk.one,nk.rep,nk.kind,nk.ntx,fun i m hm h67=>?_⟩,tr⟩;obtain ⟨_,rfl⟩:=at_one hm;omega
def dDot:List SNode:=[(2,0,0,0,0,Cl.row 0 255,([]:Str))]
def dA:List SNode:=[(3,0,0,0,0,(0#256),([97]:Str))]
def dNo:List SNode:=[(2,0,0,0,0,(0#256),([]:Str))]
def dDA:List SNode:=zkj 4 dDot dA
theorem dDot_rt:Rt dDot:=leaf_rt (.inr rfl) ⟨rfl,rfl⟩
theorem dNo_rt:Rt dNo:=leaf_rt (.inr rfl) ⟨rfl,rfl⟩
theorem dA_rt:Rt dA:=text_rt rfl ⟨rfl,rfl⟩ (by decide)
theorem dDA_rt:Rt dDA:=pair_rt dDot_rt dA_rt (.inl rfl)
theorem zq1:Txt dDA:=fun n hn=>by
 have:∀n∈dDA,n.2.2.2.2.2.2.length≤1:=by decide +kernel
 have:=this n hn;omega
theorem dNo_txt:Txt dNo:=small_txt (by decide +kernel)
def setsH (d:List SNode):Sch TS:=⟨[stS d],fun l=>((zgd (zn1 d l)).map fun n:Nat=>(n:Int)).map fun c=>(c,onS d c l),endS d⟩
theorem sets_H (d:List SNode):zhg d=setsH d:=by
 unfold zhg setsH zl0 bytS
 congr 1
 funext l;rw [bytC_eq]
theorem awake18:zgm true:=by
 have u8:∀c:Int,0≤c∧c≤255→InR .u8 c:=fun c h=>zgy.2 h;have w1:zdp dDA 9 (2,[0,97],[],0,0,0,4):=by
  have:=zeq dDA_rt (by decide +kernel) zq1 (b:=9) (by decide) (.inr (by decide))
  rwa [sets_H,show (zfm (zjv (setsH dDA) 9)).1=(2,[0,97],[],0,0,0,4) by decide +kernel] at this
 have w2:zdp dNo 9 (1,[],[],0,0,0,2):=by
  have:=zeq dNo_rt (by decide +kernel) dNo_txt (b:=9) (by decide) (.inr (by decide))
  rwa [sets_H,show (zfm (zjv (setsH dNo) 9)).1=(1,[],[],0,0,0,2) by decide +kernel] at this
 have w3:zdp dDA 1 (3,[],[],0,0,0,1):=by
  have:=zeq dDA_rt (by decide +kernel) zq1 (b:=1) (by decide) (.inr (by decide))
  rwa [sets_H,show (zfm (zjv (setsH dDA) 1)).1=(3,[],[],0,0,0,1) by decide +kernel] at this
 have bs:∀x y:Int,0≤x∧x≤255→0≤y∧y≤255→∀c∈[x,y],InR .u8 c:=fun x y hx hy c hc=>by
  rcases List.mem_cons.1 hc with rfl | hc
  ·exact u8 _ hx
  ·rw [List.mem_singleton.1 hc];exact u8 _ hy
 have i1:zju dDA [120,97] true:=by
  have:=zot dDA_rt (by decide +kernel) zq1 (w:=[120,97]) (bs _ _ (by decide) (by decide)) (by decide)
  rwa [show endS dDA (zj2 dDA [120,97])=true by decide +kernel] at this
 have i2:zju dDA [97,120] false:=by
  have:=zot dDA_rt (by decide +kernel) zq1 (w:=[97,120]) (bs _ _ (by decide) (by decide)) (by decide)
  rwa [show endS dDA (zj2 dDA [97,120])=false by decide +kernel] at this
 refine ⟨Cl.row 0 255,zii (u8 0 (by decide)) (u8 255 (by decide)),dDA,Pair_in dDot_rt.tr dA_rt.tr (by decide) (by decide),_,w1,_,w2,_,fun _=>zg5 (by decide),_,rfl,_,fun _=>w3,_,fun _=>i1,_,fun _=>i2, ?_⟩;decide
theorem zob (a:SVerdict) (h1:a.2.1.length<9223372036854775807) (h2:a.2.2.1.length<9223372036854775807):zi5 a a true:=
 ⟨_,fun _=>zg5 h1,_,fun _=>zg5 h2,_,rfl,_,rfl,by simp⟩
theorem word_len {d:List SNode} {b:Int} {v:Int × List Int × Int × Option TS} (h:OutB (zhg d) b v):v.2.1.length≤b.toNat:=by
 cases h with
 | yes i hb h hno=>simp
 | no i q hb h hh hno=>
  have:=(acc_aft h).2.2;simp only;omega
 | limit _ _=>simp
theorem law18_WordBound_true {d:List SNode} {a b:Int} (ht:Txt d) (ha:InR .u8 a) (hb:InR .u8 b):zgn d a b true:=by
 have ha':=zgy.1 ha;have hb':=zgy.1 hb;obtain ⟨r6,h6,h6b⟩:=few18_ex ht;have hlx:∃r10,(r6=true→zgk d d b r10)∧(r6=true→r10=true→b≤10∨∀n∈d,n.1≠8∧n.1≠9):=by
  cases r6
  ·exact ⟨false,(fun h=>by cases h),(fun h=>by cases h)⟩
  ·obtain ⟨r,h1,h2⟩:=Light_ex (d:=d) (by have:=(h6b rfl).2.1;omega) b;exact ⟨r,fun _=>h1,fun _=>h2⟩
 obtain ⟨r10,h10,h10b⟩:=hlx;refine ⟨true,awake18,r6,fun _=>h6,_,rfl,r10,fun h=>h10 (by simp at h;exact h.1.1),fun _=>⟨true,awake18,rfl⟩,fun hc=>?_⟩;simp only [Bool.not_true,Bool.false_or,Bool.or_eq_false_iff,Bool.not_eq_false',decide_eq_false_iff_not] at hc;obtain ⟨⟨⟨g1,g2⟩,g3⟩,g4⟩:=hc;obtain ⟨hR,hl,hsz⟩:=h6b g1;have hlt:=h10b g1 g4;have lb:Lk d b:=lk_of hlt hsz;have la:Lk d a:=lk_of (hlt.imp (fun h=>by omega) id) hsz;have oa:=zms (zhg d) a;have ob:=zms (zhg d) b;have ma:=oa.made ha'.1;have mb:=ob.made hb'.1;have wa:=word_len oa;have wb:=word_len ob;have b26:((decide (a<(zfm (zjv (zhg d) a)).1.2.2.2.2.2.2))||(decide (b<(zfm (zjv (zhg d) b)).1.2.2.2.2.2.2)))=false:=by
  rw [Bool.or_eq_false_iff];refine ⟨decide_eq_false ?_,decide_eq_false ?_⟩
  ·show ¬ a<(zjv (zhg d) a).2.2.1;omega
  ·show ¬ b<(zjv (zhg d) b).2.2.1;omega
 obtain ⟨n,n1,n2,hof,hn⟩:=of7 hR (by omega) ht;refine ⟨_,zeq hR hl ht (by omega) la,_,zeq hR hl ht (by omega) lb,_,rfl,true,fun h=>?_,fun h=>?_,fun _=>⟨_,hof,_,zog n, ?_⟩⟩
 ·have hk3:(zjv (zhg d) a).1≠3:=by
   have:=h.2;simpa [zfm] using this
  have e:=oa.stays (by omega) ob hk3;rw [e];exact zob _ (by simp only [zfm];omega) (by simp [zfm])
 ·rw [b26] at h;simp at h
 ·by_cases hbig:(300:Int)<((4 ^ min n 31:Nat):Int)
  ·refine ⟨(0,[],[],0,0,0,0),fun h=>?_, ?_⟩
   ·rw [decide_eq_true hbig] at h;cases h
   ·rw [decide_eq_true hbig];rfl
  ·have hn4:n≤4:=by
    rcases Nat.lt_or_ge 4 n with h5 | h5
    ·exfalso;have:=Nat.pow_le_pow_right (n:=4) (by decide) (show 5≤min n 31 by omega);have e:(4:Nat) ^ 5=1024:=by decide
     rw [e] at this;omega
    ·exact h5
   obtain ⟨hnf,hsn⟩:=hn (by omega);have lk:Lk d ((4 ^ min n 31:Nat):Int):=.inl ⟨hnf,by omega⟩;refine ⟨_,fun _=>zeq hR hl ht (by omega) lk, ?_⟩;have o:=zms (zhg d) ((4 ^ min n 31:Nat):Int);obtain ⟨K,k1,k2⟩:=sets_cov hR hnf;have hne:=o.room k2 (by
    have h1:2 ^ (szN d d.length ((d.length:Int)-1)+1)≤2 ^ min n 31:=Nat.pow_le_pow_right (by decide) (by omega);have h2:2 ^ min n 31≤4 ^ min n 31:=Nat.pow_le_pow_left (by decide) _;simp only [Int.toNat_natCast];omega)
   have:((zfm (zjv (zhg d) ((4 ^ min n 31:Nat):Int))).1.1 != 3)=true:=by
    simp only [zfm,bne_iff_ne];exact hne
   rw [this,Bool.or_true]
open Go.ChangeShapes Go.WideShapes Go.RowKit
structure Rd (P:Program) (t:TypeId) {α:Type} (E:En α) (G:α→Prop):Prop where
 sz:P.cellsOf t=E.sz
 rd:∀{H:Type} (enc:TypeId × Value→H) (w:World) (fuel:Nat) (cs:List Value) (x:DataW H × List MemPlace),
  DataW.trod enc P w 0 (fun _=>true) true fuel t cs=some x→(∀n∈x.1.weights P t,n≤reachBytes)→∃y,E.R w (fun b=>b<w.heap.size) cs y∧G y
 vl:∀(w:World) (v:Value),Value.okWide P w .any 0 t v→(∃y,E.R w (fun b=>b<w.heap.size) v.cells.toList y)→v=E.val v.cells.toList
theorem Rd.int {P:Program} {t:TypeId} {k:IntKind} (ht:P.underlying t=some (.int k)) (hc:P.cellsOf t=1):Rd P t (En.int k) (InR k):=by
 refine ⟨hc, ?_, ?_⟩
 ·intro H enc w fuel cs x h _;obtain ⟨n,rfl,_,hw⟩:=DataW.trod_int ht h;have:InR k n:=by simpa [Lit.wf,InR] using hw
  exact ⟨n,⟨rfl,this⟩,this⟩
 ·intro w v hv _;obtain ⟨n,rfl⟩:=okWide_int ht hv;rfl
theorem Rd.str {P:Program} {t:TypeId} (ht:P.underlying t=some .string) (hc:P.cellsOf t=1):Rd P t En.str (fun y=>y.length≤140737488351232):=by
 refine ⟨hc, ?_, ?_⟩
 ·intro H enc w fuel cs x h hwt;obtain ⟨s,rfl,hx,hs⟩:=DataW.trod_string ht h;have hl:s.data.toList.length≤9223372036854775807:=by simpa [maxLen] using hs
  have h2:s.data.toList.length≤140737488351232:=hwt _ (by rw [hx];simp [DataW.weights]);exact ⟨s.data.toList,⟨rfl,hl⟩,h2⟩
 ·intro w v hv _;simp only [Value.okWide,ht,Cell.okWide,Cell.ok] at hv;cases v <;> simp at hv;rfl
theorem zml {H:Type} {P:Program} {e:TypeId}:∀{l:List (DataW H)} {d:DataW H},d∈l→∀n∈d.weights P e,n∈DataW.weightsAll P e l
 | [],_,h,_,_=>by cases h
 | d'::l,d,h,n,hn=>by
  simp only [DataW.weightsAll,List.mem_append];rcases List.mem_cons.1 h with rfl | h
  ·exact .inl hn
  ·exact .inr (zml h n hn)
theorem Rd.slice {P:Program} {t e:TypeId} {α:Type} {E:En α} {G:α→Prop} (ht:P.underlying t=some (.slice e)) (hc:P.cellsOf t=1) (hby:Nat.blt 0 (P.bytesOf e)=true) (he:Rd P e E G):
  Rd P t (En.slice E) (fun xs=>xs.length≤140737488351232∧∀y∈xs,G y):=by
 refine ⟨hc, ?_, ?_⟩
 ·intro H enc w fuel cs x h hwt;rcases Deep.open_slice ht h with ⟨rfl,_⟩ | ⟨a,len,cap,m,n,D,Pl,rfl,hb,hl,hm,hmm,hxe,hx⟩
  ·exact ⟨[],⟨_,rfl,zex E _ _⟩,Nat.zero_le _,by simp⟩
  ·simp only [if_true] at hmm;subst hmm;have hall:∀i,i<len→∃p:α × List Value,w.cells? 0 (a.add (i*P.cellsOf e)) (P.cellsOf e)=some p.2∧E.R w (fun b=>b<w.heap.size) p.2 p.1∧G p.1:=fun i hi=>by
    obtain ⟨cs',h1,h2⟩:=hx i (by omega);obtain ⟨y,h3,h4⟩:=he.rd enc w n cs' _ h2 fun q hq=>hwt q (by
     rw [hxe];simp only [DataW.weights,ht,List.mem_cons,List.mem_append];exact .inr (.inl (zml (List.mem_map.2 ⟨i,by simpa using hi,rfl⟩) q hq)))
    exact ⟨(y,cs'),h1,h3,h4⟩
   have hmax2:len≤140737488351232:=by
    have h1:=hwt ((len+(m-len))*P.bytesOf e) (by rw [hxe];simp [DataW.weights,ht]);have h2:0<P.bytesOf e:=Nat.le_of_ble_eq_true hby;have h3:(len+(m-len))*1≤(len+(m-len))*P.bytesOf e:=Nat.mul_le_mul_left _ h2;have h4:reachBytes=140737488351232:=rfl;omega
   have hmax:len≤lim:=by have:maxLen≤lim:=by decide
                         omega
   by_cases h0:len=0
   ·subst h0;exact ⟨[],⟨_,rfl,some a,m,rfl,Nat.zero_le _,(fun h=>by cases h),Nat.zero_le _,fun h=>absurd rfl h⟩,Nat.zero_le _,by simp⟩
   have hinh:Inhabited (α × List Value):=⟨(hall 0 (by omega)).choose⟩;obtain ⟨f,hf⟩:=Deep.choose_lt hall;have hsz:=E.pos;rw [← he.sz] at hsz;obtain ⟨hcell0,hblk⟩:a.spot=none∧a.block<w.heap.size:=by
    obtain ⟨_,hl2,hcl⟩:=World.cells?_some (hf 0 (by omega)).1;have h2:=hcl 0 hsz;rw [List.getElem?_eq_getElem (by omega)] at h2;simp only [Nat.zero_mul,Addr.add,if_true,World.cell?] at h2;cases hb2:w.heap[a.block]? with
    | none=>simp [hb2] at h2
    | some o=>
     refine ⟨?_,(Array.getElem?_eq_some_iff.1 hb2).1⟩;cases o <;> simp [hb2] at h2;exact h2.1
   refine ⟨(List.range len).map (fun i=>(f i).1),⟨_,rfl,some a,m, ?_,by simpa using hl,(fun h=>by cases h),by simpa using hmax,fun _=>⟨a.block,a.off,(List.range len).map (fun i=>(f i).2), ?_,hblk,⟨by simp, ?_⟩, ?_⟩⟩,by simpa using hmax2, ?_⟩
   ·simp
   ·cases a;simp at hcell0;subst hcell0;rfl
   ·intro i c y hc1 hy1;have hi:i<len:=by have:=(List.getElem?_eq_some_iff.1 hc1).1;simpa using this
    simp [hi] at hc1 hy1;subst hc1;subst hy1;exact (hf i hi).2.1
   ·have hlens:∀c∈(List.range len).map (fun i=>(f i).2),c.length=E.sz:=by
     intro c hc;simp only [List.mem_map,List.mem_range] at hc;obtain ⟨i,hi,rfl⟩:=hc;rw [(World.cells?_some (hf i hi).1).2.1,he.sz]
    intro j u hj;have hjl:j<len*E.sz:=by
     have:=(List.getElem?_eq_some_iff.1 hj).1;rw [zgz hlens] at this;simpa using this
    have hp:0<E.sz:=E.pos;have hi:j / E.sz<len:=Nat.div_lt_of_lt_mul (by rw [Nat.mul_comm];exact hjl);have hk:j % E.sz<E.sz:=Nat.mod_lt _ hp;obtain ⟨_,hl2,hcl⟩:=World.cells?_some (hf _ hi).1;have hcell:=hcl (j % E.sz) (by rw [he.sz];exact hk);rw [he.sz] at hl2;have hg:=zg0 hlens (i:=j / E.sz) (cs:=(f (j / E.sz)).2) (j:=j % E.sz) (u:=(f (j / E.sz)).2[j % E.sz]'(by omega)) (by simp [hi]) (by simp);rw [Nat.mul_comm,Nat.div_add_mod] at hg;rw [hg] at hj;rw [List.getElem?_eq_getElem (by omega),hj,Deep.add_add,he.sz,Nat.mul_comm,Nat.div_add_mod] at hcell;rw [← hcell];cases a;simp at hcell0;subst hcell0;rw [zey]
   ·intro y hy;simp only [List.mem_map,List.mem_range] at hy;obtain ⟨i,hi,rfl⟩:=hy;exact (hf i hi).2.2
 ·intro w v hv _;simp only [Value.okWide,ht,Cell.okWide,Cell.ok] at hv;cases v <;> simp at hv;rfl
theorem u64_word {n:Int} (h:InR .u64 n):∃m:Nat,m<2 ^ 64∧n=m:=by
 simp [InR,IntKind.min,IntKind.max,IntKind.signed,IntKind.bits] at h;exact ⟨n.toNat,by omega,by omega⟩
theorem Rd.cls {P:Program} {t e:TypeId} (ht:P.underlying t=some (.array 4 e)) (hc:P.cellsOf t=4) (he:P.underlying e=some (.int .u64)) (hce:P.cellsOf e=1):Rd P t En.cls (fun _=>True):=by
 refine ⟨hc, ?_, ?_⟩
 ·intro H enc w fuel cs x h _;obtain ⟨xs,m,rfl,rfl,hlen,hn,hx⟩:=DataW.trod_array ht h;rw [hc] at hlen
  match cs,hlen with
  | [u0,u1,u2,u3],_=>
   have hx':∀i (hi:i<4) u,[u0,u1,u2,u3][i]?=some u→∃q:Nat,q<2 ^ 64∧u = .int .u64 q:=by
    intro i hi u hu;have h1:=hx i hi;rw [hce,Nat.mul_one,List.getElem?_eq_getElem (by omega)] at h1;have h2:List.take 1 (List.drop i [u0,u1,u2,u3])=[u]:=by
     match i,hi with
     | 0,_ | 1,_ | 2,_ | 3,_=>simp at hu;subst hu;rfl
    rw [h2] at h1;obtain ⟨n,h3,_,h4⟩:=DataW.trod_int he h1;obtain ⟨q,hq,rfl⟩:=u64_word (n:=n) (by simpa [Lit.wf,InR] using h4);simp at h3;exact ⟨q,hq,h3⟩
   obtain ⟨q0,h0,rfl⟩:=hx' 0 (by omega) u0 rfl;obtain ⟨q1,h1,rfl⟩:=hx' 1 (by omega) u1 rfl;obtain ⟨q2,h2,rfl⟩:=hx' 2 (by omega) u2 rfl;obtain ⟨q3,h3,rfl⟩:=hx' 3 (by omega) u3 rfl;refine ⟨Cl.ofWords q0 q1 q2 q3, ?_,trivial⟩;obtain ⟨e0,e1,e2,e3⟩:=Cl.ofWords_word h0 h1 h2 h3;show _=zb1 _;unfold zb1;rw [e0,e1,e2,e3]
 ·intro w v hv _;simp only [Value.okWide,ht] at hv;obtain ⟨cs,rfl,_⟩:=hv;simp [En.val,En.cls,Value.cells]
structure RdF (P:Program) (fs:List Field) (o:Nat) {α:Type} (E:En α) (G:α→Prop):Prop where
 rd:∀{H:Type} (enc:TypeId × Value→H) (w:World) (fuel:Nat) (cs:List Value) (xs:List (DataW H × List MemPlace)),xs.length=fs.length →
  (∀(i:Nat) (f:Field),fs[i]?=some f→DataW.trod enc P w 0 (fun _=>true) true fuel f.type ((cs.drop f.offset).take (P.cellsOf f.type))=xs[i]?) →
  (∀n∈DataW.weightsEach P (fs.map (·.type)) (xs.map (·.1)),n≤reachBytes)→∃y,E.R w (fun b=>b<w.heap.size) ((cs.drop o).take E.sz) y∧G y
theorem RdF.last {P:Program} {f:Field} {o:Nat} {α:Type} {E:En α} {G:α→Prop} (h:Rd P f.type E G) (ho:f.offset=o):RdF P [f] o E G:=⟨by
 intro H enc w fuel cs xs hl hx hw;obtain ⟨x,rfl⟩:∃x,xs=[x]:=List.length_eq_one_iff.1 hl;have h1:=hx 0 f rfl;rw [ho,h.sz] at h1;exact h.rd enc w fuel _ x h1 fun n hn=>hw n (by simp [DataW.weightsEach,hn])⟩
theorem RdF.solo {P:Program} {fs:List Field} {o:Nat} {α:Type} {E:En α} {G:α→Prop} (h:RdF P fs o E G):RdF P fs o E.solo G:=⟨h.rd⟩
theorem zn3 {xs:List Value} {o m n:Nat}:(xs.drop o).take (m+n)=(xs.drop o).take m++(xs.drop (o+m)).take n:=by
 rw [List.take_add,List.drop_drop]
theorem RdF.cons {P:Program} {f:Field} {fs:List Field} {o:Nat} {α β:Type} {E:En α} {F:En β} {G:α→Prop} {K:β→Prop} (h:Rd P f.type E G) (ho:f.offset=o) (hr:RdF P fs (o+E.sz) F K):RdF P (f::fs) o (E.cat F) (fun x=>G x.1∧K x.2):=⟨by
 intro H enc w fuel cs xs hl hx hw;obtain ⟨x,xs',rfl⟩:∃x xs',xs=x::xs':=by
  cases xs with
  | nil=>simp at hl
  | cons x xs'=>exact ⟨x,xs',rfl⟩
 have h1:=hx 0 f rfl;rw [ho,h.sz] at h1;obtain ⟨y,hy1,hy2⟩:=h.rd enc w fuel _ x h1 fun n hn=>hw n (by simp [DataW.weightsEach,hn]);obtain ⟨z,hz1,hz2⟩:=hr.rd enc w fuel cs xs' (by simpa using hl) (fun i g hg=>by have:=hx (i+1) g (by simpa using hg);simpa using this) fun n hn=>hw n (by
  simp only [List.map_cons,DataW.weightsEach,List.mem_append];exact .inr hn)
 exact ⟨(y,z),⟨_,_,zn3,hy1,hz1⟩,hy2,hz2⟩⟩
theorem Rd.struct {P:Program} {t:TypeId} {fs:Array Field} {α:Type} {E:En α} {G:α→Prop} (ht:P.underlying t=some (.struct fs)) (ha:E.agg=true) (hc:P.cellsOf t=E.sz) (h:RdF P fs.toList 0 E G):Rd P t E G:=by
 refine ⟨hc, ?_, ?_⟩
 ·intro H enc w fuel cs x hx hw;obtain ⟨xs,n,rfl,rfl,hlen,hxl,hf⟩:=DataW.trod_struct ht hx;obtain ⟨y,hy1,hy2⟩:=h.rd enc w n cs xs (by simpa using hxl) (fun i f hi=>hf i f (by simpa using hi)) fun q hq=>hw q (by
   simp only [DataW.weights,ht];exact hq)
  rw [List.drop_zero,List.take_of_length_le (by rw [hlen,hc];exact Nat.le_refl _)] at hy1;exact ⟨y,hy1,hy2⟩
 ·intro w v hv _;obtain ⟨cs,rfl,_⟩:=okWide_struct ht hv;unfold En.val;rw [ha];simp [Value.cells]
theorem Rd.open {P:Program} {t:TypeId} {α:Type} {E:En α} {G:α→Prop} (hr:Rd P t E G) {H:Type} {enc:TypeId × Value→H} {W:World} {v:Value} {d:DataW H} {p:List MemPlace}
  (hv:Value.okWide P W .any 0 t v) (hd:DataW.Trod enc P W 0 (fun _=>true) true t v d p) (hw:∀n∈d.weights P t,n≤reachBytes):∃y,(Pd.rep E y).p ⟨W,fun _=>False,fun _ h=>h.elim⟩ v∧G y:=by
 obtain ⟨fuel,h⟩:=hd;obtain ⟨y,hy,hg⟩:=hr.rd enc W fuel _ _ h hw;refine ⟨y,⟨v.cells.toList,hr.vl W v hv ⟨y,hy⟩, ?_⟩,hg⟩;exact E.mono (fun b hb=>⟨hb,fun h=>h⟩) hy
theorem Ex.below {s s':St} (h:Ex s s'):Below s.w.heap.size s.w s'.w:=⟨h.mv.os,h.mv.tape,h.mv.output,h.mv.size,fun k hk=>h.mv.blk k hk (fun h=>h)⟩
theorem okWide_any {P:Program} {W:World} {b:Nat} {t:TypeId} {v:Value} (h:Value.okWide P W .any b t v):Value.okWide P W .any 0 t v:=by
 unfold Value.okWide Row.okWide Cell.okWide Cell.ok World.has at *;exact h
section
variable {H : Type} {enc : TypeId × Value → H} {P : Program}
theorem stays {W W':World} (hl:laidOutB P=true) (hb:Below W.heap.size W W') {sp:Nat→Bool}:∀{ts:List TypeId} {vs:List Value} {ds:List (DataW H)} {ps:List MemPlace},
  (ts.all fun t=>P.readableRec t&&decide (t<P.types.size))=true→DataW.TrodAll enc P W 0 (fun _=>true) true ts vs ds ps→(∀p∈ps,p.block<W.heap.size)→(∀p∈ps,sp p.block=true) →
  DataW.TrodAll enc P W' 0 sp true ts vs ds ps
 | [],vs,ds,ps,_,h,_,_=>by
  obtain ⟨rfl,rfl,rfl⟩:=trodAll_nil h;exact trodAll_mk0
 | t::ts,vs,ds,ps,ha,h,hlt,hsp=>by
  obtain ⟨v,vs',d,ds',p,q,rfl,rfl,rfl,h1,h2⟩:=trodAll_cons h;simp only [List.all_cons,Bool.and_eq_true,decide_eq_true_eq] at ha;refine trodAll_cons_mk (WideElems.Trod_stays hl ha.1.1 ha.1.2 h1 (fun x hx=>hb.same (hlt x (List.mem_append_left _ hx))) fun x hx=>hsp x (List.mem_append_left _ hx)) ?_;exact stays hl hb (by simpa using ha.2) h2 (fun x hx=>hlt x (List.mem_append_right _ hx)) fun x hx=>hsp x (List.mem_append_right _ hx)
theorem post_law {f:Func} {s:ChangeSpec} {apart fresh handsOn again:Bool} {W W':World} {args:Array Value} {v:Value} {ds gs:List (DataW H)} {before:List MemPlace} {tb:TypeId}
  (hW:DataW.Whole enc P f.params.toList s.vars apart W args.toList ds gs before) (hb:Below W.heap.size W W') (hl:laidOutB P=true)
  (hrd:(f.params.toList.all fun t=>P.readableRec t&&decide (t<P.types.size))=true) (hs:s.vars=[]) (hrt:f.resultTypes = #[tb]) (hub:P.underlying tb=some .bool) (hv:v = .bool true)
  (hres:(s.fn H (ds++gs)).results=[.lit (.bool true)]) (hargs:(s.fn H (ds++gs)).args=ds) (hvars:(s.fn H (ds++gs)).vars=[]):s.post enc P f apart fresh handsOn again W args v W':=by
 subst hv;have hlt:=hW.lt;have hW':=hW;obtain ⟨p,q,hA,hV,rfl,hz,hn⟩:=hW;rw [hs] at hV;obtain ⟨rfl,rfl⟩:=trodVars_none hV;have hsub:∀x∈p,x∈p++([]:List MemPlace):=fun x hx=>by simpa using hx
 have harg:∀sp:Nat→Bool,(∀x∈p++([]:List MemPlace),sp x.block=true)→DataW.TrodAll enc P W' 0 sp true f.params.toList args.toList (s.fn H (ds++[])).args p:=fun sp hsp=>by
  rw [hargs];exact stays hl hb hrd hA (fun x hx=>hlt x (hsub x hx)) fun x hx=>hsp x (hsub x hx)
 have hvar:∀sp:Nat→Bool,DataW.TrodVars enc P W' sp s.vars (s.fn H (ds++[])).vars []:=fun sp=>by rw [hs,hvars];exact rfl
 have hr:∀(b:Nat) (sp:Nat→Bool) (hd:Bool),DataW.TrodAll enc P W' b sp hd f.resultTypes.toList ((Value.bool true).resultList f.resultTypes.size) (s.fn H (ds++[])).results []:=fun b sp hd=>by
  rw [hres,hrt];exact trodAll_cons_mk (shut_bool hub _) trodAll_mk0
 have hold:∀x∈p++([]:List MemPlace),(fun b=>decide (b<W.heap.size)) x.block=true:=fun x hx=>by simpa using hlt x hx
 refine ⟨ds,[],p++[],[],p,[],hW',hr _ _ _,harg _ hold,hvar _,World.keptBut_mono (fun x hx=>⟨hx, ?_⟩) (hb.frame (·∈p++[])),fun _=>?_⟩
 ·simpa using hx
 ·refine ⟨ok_one hrt rfl (okWide_bool_mk hub _),_,_,([]++p)++[],⟨[]++p,[],trodAll_append (harg _ (fun _ _=>rfl)) (hr _ _ _),hvar _,rfl, ?_, ?_⟩, ?_⟩
  ·intro b off hp;have hp':MemPlace.cell b off∈p++([]:List MemPlace):=by simpa using hp
   rw [hb.frozen (p:=⟨b,off,none⟩) (hlt _ hp')];exact hz b off hp'
  ·intro ha;simpa using hn ha
  ·intro x hx _;simpa using hx
end
end Go.Proofs.YtahgmdbioafmbaaGreatDoor.V
namespace Go.Proofs.YtahgmdbioafmbaaGreatDoor.V
open Go Go.ChangeShapes Go.WideShapes Go.RowKit
set_option linter.unusedVariables false
def lst4:List (String × DataW Unit):=[("math/bits.deBruijn32tab",Rows.laid_math_bits_deBruijn32tab),("math/bits.deBruijn64tab",Rows.laid_math_bits_deBruijn64tab),("internal/strconv.uint64pow10",Rows.laid_internal_strconv_uint64pow10),("scantling/heads.readies",Rows.laid_scantling_heads_readies)]
def lst:List (String × DataW Unit):=[("math/bits.deBruijn32tab",Rows.laid_math_bits_deBruijn32tab),("math/bits.deBruijn64tab",Rows.laid_math_bits_deBruijn64tab),("internal/strconv.uint64pow10",Rows.laid_internal_strconv_uint64pow10),("scantling/heads.readies",Rows.laid_scantling_heads_readies),("scantling/next.steps",Rows.laid_scantling_next_steps)]
theorem zop {H:Type} {enc:TypeId × Value→H} {P:Program} {w:World} {base:Nat} {sp:Nat→Bool} {held:Bool} {fuel:Nat} {t e:TypeId} {n:Nat} {cs:List Value} {bs:List Bool} {p:List MemPlace}
  (ht:P.underlying t=some (.array n e)) (he:P.underlying e=some .bool) (hce:P.cellsOf e=1) (hct:P.cellsOf t=n)
  (h:DataW.trod enc P w base sp held fuel t cs=some (.agg (bs.map fun b=>.lit (.bool b)),p)):cs=bs.map Value.bool:=by
 obtain ⟨xs,m,rfl,hx,hl,hn,hf⟩:=DataW.trod_array ht h;have hx1:=congrArg Prod.fst hx;simp only [DataW.agg.injEq] at hx1;have hbl:bs.length=n:=by
  have:=congrArg List.length hx1;simp at this;omega
 apply List.ext_getElem?;intro i
 by_cases hi:i<n
 ·have h1:=hf i hi;rw [hce,Nat.mul_one,List.getElem?_eq_getElem (by omega)] at h1;obtain ⟨b,hc,hb⟩:=DataW.trod_bool he h1;have h2:cs[i]?=some (.bool b):=by
   have:=congrArg (·[0]?) hc;simpa [List.getElem?_take,List.getElem?_drop] using this
  have h3:(bs.map fun b=>(DataW.lit (.bool b):DataW H))[i]?=some (.lit (.bool b)):=by
   rw [hx1,List.getElem?_map,List.getElem?_eq_getElem (by omega),hb];rfl
  rw [List.getElem?_map,Option.map_eq_some_iff] at h3;obtain ⟨b',hb',e⟩:=h3;cases e;rw [h2,List.getElem?_map,hb'];rfl
 ·rw [List.getElem?_eq_none (by omega),List.getElem?_eq_none (by simp;omega)]
def nameB1:List UInt8:=[40,115,99,97,110,116,108,105,110,103,47,110,101,120,116,46,115,116,101,112,41,46,110,111,100,101]
def nameB3:List UInt8:=[40,115,99,97,110,116,108,105,110,103,47,110,101,120,116,46,115,116,101,112,41,46,116,101,120,116]
def nameB4:List UInt8:=[40,115,99,97,110,116,108,105,110,103,47,110,101,120,116,46,115,116,101,112,41,46,104,97,108,102]
def stepsD:DataW Unit:=.map [(.int .i64 1,.iface "func" (.lit (.string nameB1))),(.int .i64 3,.iface "func" (.lit (.string nameB3))),(.int .i64 4,.iface "func" (.lit (.string nameB4)))]
def stepsL:List (Lit × DataW (List UInt8)):=[(.int .i64 1,.held nameB1),(.int .i64 3,.held nameB3),(.int .i64 4,.held nameB4)]
theorem key_int {P:Program} {k:TypeId} (hk:P.underlying k=some (.int .i64)) {v:Value} {l:Lit} (h:keyOf P k v=some l):∃n:Int,v = .int .i64 n∧l = .int .i64 n∧InR .i64 n:=by
 rw [keyOf_int hk] at h;unfold mapKey at h;rw [hk] at h;cases v <;> simp at h;obtain ⟨⟨rfl,h2⟩,rfl⟩:=h;exact ⟨_,rfl,rfl,by simpa [Lit.wf,InR] using h2⟩
theorem zqg {P:Program} {t:TypeId} {ps rs:Array TypeId} {va:Bool} {v:Value} (ht:P.underlying t=some (.func ps rs va)) (h:v.formed P t=true):v.cells.toList=[v]:=by
 cases v <;> simp [Value.formed,ht] at h <;> rfl
def entY (e:MapEntry):Int × Option Nat:=match e.key with | .int _ n=>(n,zea gfmS n none) | _=>(0,none)
def entL (q:Lit × DataW (List UInt8)):Int × Option Nat:=match q.1 with | .int _ n=>(n,zea gfmS n none) | _=>(0,none)
def Steps (W:World):Prop:=∃m t fr es clock ys,W.heap[0]?=some (.cells #[.map (some m)] t fr)∧W.heap[m]?=some (.map es clock)∧Fmst es clock ys∧ys.Perm gfmS
theorem zn4 {W:World} (h:funcsAt Tryz.prog W "scantling/next.steps" stepsD):Steps W:=by
 obtain ⟨g,t,cs,fuel,p,hg,ht,hv,hd⟩:=h;have hg':Tryz.prog.globalNamed "scantling/next.steps"=some 0:=by kernel_rfl
 have hty:(Tryz.prog.globals[0]?).map (·.type)=some 167:=by kernel_rfl
 obtain rfl:=Option.some.inj (hg'.symm.trans hg);obtain rfl:=Option.some.inj (hty.symm.trans ht);have e:DataW.funcsOut stepsD = .map stepsL:=by kernel_rfl
 rw [e] at hd;have hkt:Tryz.prog.underlying 3=some (.int .i64):=Tryz.underlying3;rcases WideElems.open_map Tryz.underlying167 hd with ⟨_,hx⟩ | ⟨m,es,clock,n,rfl,hcs,hb,_,F,hx⟩
 ·simp at hx
 ·simp only [Prod.mk.injEq,DataW.map.injEq] at hx;have hp:stepsL.Perm (es.toList.map (WideElems.rg Tryz.prog 3 (WideElems.elemAt (funcToken Tryz.prog) Tryz.prog W 0 (fun _=>true) true n 165))):=by
   rw [hx.1];exact sorted_perm _
  have ent:∀x∈es.toList,∃i:Int,x.key = .int .i64 i∧InR .i64 i∧entL (WideElems.rg Tryz.prog 3 (WideElems.elemAt (funcToken Tryz.prog) Tryz.prog W 0 (fun _=>true) true n 165) x)=(i,zea gfmS i none)∧x.val=fidV (zea gfmS i none):=by
   intro x hx';obtain ⟨y,hy⟩:=F.reads x hx';have hrg:=WideElems.rg_of hy;have hm:y∈stepsL:=hp.mem_iff.2 (List.mem_map.2 ⟨x,hx',hrg⟩);obtain ⟨i,hk1,hk2,hk3⟩:=key_int hkt (WideElems.rd_key hy);obtain ⟨z,hz1,hz2⟩:=WideElems.rd_val hy;unfold WideElems.elemAt at hz1;split at hz1
   case isFalse=>cases hz1
   rename_i hf
   rw [zqg Tryz.underlying165 hf] at hz1;refine ⟨i,hk1,hk3,by rw [hrg];simp only [entL,hk2], ?_⟩;unfold stepsL at hm;simp only [List.mem_cons,List.not_mem_nil,or_false] at hm;rcases hm with rfl | rfl | rfl
   ·simp only [Lit.int.injEq,true_and] at hk2;subst hk2;obtain ⟨z1,z2⟩:=z;simp only at hz2;subst hz2;exact func_of_trod (f0:=209) Tryz.underlying165 (by kernel_rfl) hz1
   ·simp only [Lit.int.injEq,true_and] at hk2;subst hk2;obtain ⟨z1,z2⟩:=z;simp only at hz2;subst hz2;exact func_of_trod (f0:=210) Tryz.underlying165 (by kernel_rfl) hz1
   ·simp only [Lit.int.injEq,true_and] at hk2;subst hk2;obtain ⟨z1,z2⟩:=z;simp only at hz2;subst hz2;exact func_of_trod (f0:=207) Tryz.underlying165 (by kernel_rfl) hz1
  obtain ⟨o,ho,hcell⟩:∃t fr,W.heap[0]?=some (.cells #[.map (some m)] t fr):=by
   unfold World.var? at hv;rw [hg'] at hv;simp only [Option.bind_some] at hv;split at hv
   ·rename_i cs' t' fr' hc
    refine ⟨t',fr', ?_⟩;rw [hc];simp only [Option.some.injEq] at hv;rw [hv,← Array.toArray_toList (xs:=cs),hcs]
   ·cases hv
  refine ⟨m,o,ho,es,clock,es.toList.map entY,hcell,hb,⟨F.stamped,by simp,fun i e q h1 h2=>?_⟩, ?_⟩
  ·have hm:=List.mem_of_getElem? h1;obtain ⟨j,hk1,hk3,_,hval⟩:=ent e hm;rw [List.getElem?_map,h1] at h2;simp only [Option.map_some,Option.some.injEq] at h2;subst h2;have hr:=zir.1 hk3;simp only [entY,hk1];exact ⟨trivial,hr,hval⟩
  ·have h3:=(hp.map entL).symm;have e1:stepsL.map entL=gfmS:=by kernel_rfl
   rw [e1,List.map_map] at h3;refine List.Perm.trans (List.Perm.of_eq (List.map_congr_left fun x hx'=>?_)) h3;obtain ⟨j,hk1,_,hL,_⟩:=ent x hx';simp only [Function.comp,entY,hk1];exact hL.symm
def Tabs (W:World):Prop:=(Lib.TabIs Tryz.prog W "internal/strconv.uint64pow10" .u64 Lib.pow10Tab∧W.var? Tryz.prog "scantling/heads.readies"=some (gdat1.map Value.bool).toArray)∧Steps W
theorem tab_of_laid {W:World} (h:laidMetH Tryz.prog lst W):Tabs W:=by
 have hs:("scantling/next.steps",(DataW.iface "func table" stepsD:DataW Unit))∈lst:=by
  have e:(Rows.laid_scantling_next_steps:DataW Unit)=DataW.iface "func table" stepsD:=by kernel_rfl
  unfold lst;rw [e];simp
 have h3:=zn4 (h.funcs hs);have e0:laidMetH Tryz.prog lst W=(laidMet Tryz.prog lst4 W∧handlesMet Tryz.prog [("scantling/next.steps",Rows.laid_scantling_next_steps)] W):=by kernel_rfl
 rw [e0] at h;have h':=h.1;unfold lst4 at h';refine ⟨⟨?_, ?_⟩,h3⟩
 ·have e:(Rows.laid_internal_strconv_uint64pow10:DataW Unit)=Lib.tabData .u64 Lib.pow10Tab:=by kernel_rfl
  have h2:=h'.tail.tail;rw [e] at h2;exact Lib.tabIs_of_head (g:=2) (t:=227) (e:=49) (n:=20) (by kernel_rfl) (by kernel_rfl) Tryz.underlying227 Tryz.underlying49 (by kernel_rfl) (by kernel_rfl) h2
 ·have e:(Rows.laid_scantling_heads_readies:DataW Unit) = .agg (gdat1.map fun b=>.lit (.bool b)):=by kernel_rfl
  have h2:=h'.tail.tail.tail;rw [e] at h2;obtain ⟨ps,⟨g',t',cs,fuel,p,q,hg',ht',hvar,hd,_,_⟩,_⟩:=h2;have hg:Tryz.prog.globalNamed "scantling/heads.readies"=some 1:=by kernel_rfl
  have hty:(Tryz.prog.globals[1]?).map (·.type)=some 213:=by kernel_rfl
  obtain rfl:=Option.some.inj (hg.symm.trans hg');obtain rfl:=Option.some.inj (hty.symm.trans ht');rw [hvar,← zop Tryz.underlying213 (e:=4) Tryz.underlying4 (by kernel_rfl) (by kernel_rfl) hd]
theorem gl_of_tab {W:World} (h:Tabs W):Gl ⟨W,fun _=>False,fun _ h=>h.elim⟩:=by
 obtain ⟨⟨h1,h2⟩,h3⟩:=h;refine ⟨fun p hp=>?_,fun p hp=>?_⟩
 ·unfold gtab at hp;rcases List.mem_cons.1 hp with rfl | hp
  ·refine ⟨fun h=>h, ?_⟩;unfold Lib.TabIs World.var? at h1;have hg:Tryz.prog.globalNamed "internal/strconv.uint64pow10"=some 2:=by kernel_rfl
   rw [hg] at h1;simp only [Option.bind_some] at h1;split at h1
   ·rename_i cs t fr hc
    refine ⟨t,fr, ?_⟩;show W.heap[2]?=_;rw [hc];simp only [Option.some.injEq] at h1;rw [h1];simp [Lib.pow10Tab]
   ·cases h1
  ·obtain rfl:=List.mem_singleton.1 hp;refine ⟨fun h=>h, ?_⟩;unfold World.var? at h2;have hg:Tryz.prog.globalNamed "scantling/heads.readies"=some 1:=by kernel_rfl
   rw [hg] at h2;simp only [Option.bind_some] at h2;split at h2
   ·rename_i cs t fr hc
    refine ⟨t,fr, ?_⟩;show W.heap[1]?=_;rw [hc];simp only [Option.some.injEq] at h2;rw [h2]
   ·cases h2
 ·unfold gmap at hp;obtain rfl:=List.mem_singleton.1 hp;obtain ⟨m,t,fr,es,clock,ys,k1,k2,k3,k4⟩:=h3;exact ⟨fun h=>h,m,t,fr,es,clock,ys,k1,fun h=>h,k2,k3,k4⟩
noncomputable def laidWorld (os:Os):World:=World.doorLaid Tryz.prog 400 os
theorem laid_met (os:Os) (args:Array Value):laidMetH Tryz.prog lst ((laidWorld os).forCall (fun _ _=>0) ⟨#[],args,[]⟩).memory:=
 laidMetH_of_parts3 (fuel:=8) (laidMet_of_run' 8 (by kernel_rfl) (by kernel_rfl)) (by kernel_rfl) (by kernel_rfl)
theorem weigh {H:Type} {P:Program} {ts:List TypeId} {ds:List (DataW H)} (h:(DataW.weightsEach P ts ds).all (·≤reachBytes)=true) (j:Nat) {t:TypeId} {d:DataW H} (ht:ts[j]?=some t) (hd:ds[j]?=some d):∀n∈d.weights P t,n≤reachBytes:=fun n hn=>by
 have:=List.all_eq_true.1 h n (DataW.weights_mem_each ht hd n hn);simpa using this
end Go.Proofs.YtahgmdbioafmbaaGreatDoor.V
