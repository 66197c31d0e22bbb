/-
  The texts that the law's proof needs, part 6.
-/
import Derived.Carry
import Derived.ChangeSame
import Derived.Deep.Slices
import Derived.Handed
import Derived.KernelRfl
import Derived.LaidHandle
import Derived.LaidLaws
import Derived.LaidMore
import Derived.Laws.BytesArg
import Derived.Lib.LaidTab
import Derived.OpenShut
import Derived.ProofKit
import Derived.RowKit
import Derived.SizedLaws
import Derived.Stop.LaidErr
import Derived.Test.YtahgmdbioafmbaaGreatDoorRows
import Derived.WalkKit
import Derived.WideKeyElems2
import Derived.Test.YtahgmdbioafmbaaGreatDoorSetsOnceP5
namespace Go.Proofs.YtahgmdbioafmbaaGreatDoor.V
open Go
set_option linter.unusedVariables false
theorem at_lt' {α : Type} {xs : List α} {i : Nat} (h : i < xs.length) : at? xs (i : Int) = some xs[i]:=by rw [at_nat]; exact List.getElem?_eq_getElem h
theorem nodup_perm {α : Type} [DecidableEq α] : ∀ {a b : List α},a.Nodup → b.Nodup → (∀ x,x ∈ a ↔ x ∈ b) → a.Perm b
 | [],b,_,_,h=>by
  cases b with
  | nil=>exact .refl _
  | cons y b=>exact absurd ((h y).2 (by simp)) (by simp)
 | x :: a,b,ha,hb,h=>by
  rw [List.nodup_cons] at ha
  have hx:=(h x).1 (by simp)
  refine (List.Perm.cons x (nodup_perm ha.2 (hb.erase x) fun y=>?_)).trans (List.perm_cons_erase hx).symm
  rw [hb.mem_erase_iff]
  constructor
  ·intro hy
   exact ⟨fun e=>ha.1 (by rw [← e]; exact hy),(h y).1 (by simp [hy])⟩
  ·rintro ⟨h1,h2⟩
   exact (List.mem_cons.1 ((h y).2 h2)).resolve_left h1
theorem item_StartS {d : List SNode} (h : d ≠ []) (hl : d.length ≤ 1000) : item_Start d (stS d):=by
 have:=List.length_pos_iff.2 h
 exact ⟨i64_of (by omega) (by omega),rfl⟩
theorem sets_Start_in {d : List SNode} (h : d ≠ []) (hl : d.length ≤ 1000) : sets_Start d [stS d]:=⟨_,item_StartS h hl,rfl⟩
def mS (L : List (List SItem)) : List (Str × List SItem):=L.foldl (fun m t=>mput m (keyS t) t) []
theorem mS_snoc (L : List (List SItem)) (t : List SItem) : mS (L ++ [t]) = mput (mS L) (keyS t) t:=by unfold mS; rw [List.foldl_append]; rfl
theorem mS_inv (L : List (List SItem)) : ((mS L).map (·.2)).Nodup ∧ ∀ p,p ∈ mS L ↔ p.2 ∈ L ∧ p.1 = keyS p.2:=by
 have : ∀ n (L : List (List SItem)),L.length = n → ((mS L).map (·.2)).Nodup ∧ ∀ p,p ∈ mS L ↔ p.2 ∈ L ∧ p.1 = keyS p.2:=by
  intro n
  induction n with
  | zero=>intro L hL; rw [List.length_eq_zero_iff.1 hL]; exact ⟨List.nodup_nil,by simp [mS]⟩
  | succ n ih=>
   intro L hL
   have hne : L ≠ []:=fun e=>by subst e; simp at hL
   rw [← List.dropLast_concat_getLast hne]
   obtain ⟨i1,i2⟩:=ih L.dropLast (by simp [hL])
   generalize L.dropLast = A at *
   generalize L.getLast hne = t at *
   rw [mS_snoc]
   unfold mput
   cases hh : mhas (mS A) (keyS t)
   ·simp only [cond_false]
    have hno : t ∉ A:=fun h=>by
     have h1:=(i2 (keyS t,t)).2 ⟨h,rfl⟩
     have : mhas (mS A) (keyS t) = true:=by
      unfold mhas
      rw [List.any_eq_true]
      exact ⟨_,h1,by simp⟩
     rw [hh] at this; cases this
    refine ⟨?_,fun p=>?_⟩
    ·rw [List.map_append,List.nodup_append]
     refine ⟨i1,by simp,fun a ha b hb e=>?_⟩
     simp at hb
     subst hb; subst e
     obtain ⟨p,hp,rfl⟩:=List.mem_map.1 ha
     exact hno ((i2 p).1 hp).1
    ·rw [List.mem_append,i2,List.mem_singleton,List.mem_append,List.mem_singleton]
     constructor
     ·rintro (⟨h1,h2⟩ | rfl)
      ·exact ⟨.inl h1,h2⟩
      ·exact ⟨.inr rfl,rfl⟩
     ·rintro ⟨h1 | h1,h2⟩
      ·exact .inl ⟨h1,h2⟩
      ·exact .inr (Prod.ext (by rw [h2,h1]) h1)
   ·have hh':=hh
    unfold mhas at hh'
    rw [List.any_eq_true] at hh'
    obtain ⟨q,hq1,hq2⟩:=hh'
    have hqk : q.1 = keyS t:=by simpa using hq2
    have hq3:=(i2 q).1 hq1
    have hqt : q.2 = t:=keyS_iff.1 (by rw [← hq3.2,hqk])
    have hta : t ∈ A:=by rw [← hqt]; exact hq3.1
    simp only [cond_true]
    have hmap : ∀ f : Str × List SItem → Str × List SItem,(∀ p ∈ mS A,f p = p) → (mS A).map f = mS A:=fun f hf=>by
     conv=>rhs; rw [← List.map_id (mS A)]
     exact List.map_congr_left hf
    rw [hmap _ fun p hp=>?_]
    rotate_left
    ·by_cases hpk : p.1 = keyS t
     ·have hp3:=(i2 p).1 hp
      have : p.2 = t:=keyS_iff.1 (by rw [← hp3.2,hpk])
      have e : p = (keyS t,t):=Prod.ext hpk this
      rw [e]; simp
     ·exact (congrArg (fun b=>bif b then (keyS t,t) else p) (decide_eq_false hpk)).trans rfl
    refine ⟨i1,fun p=>?_⟩
    rw [i2,List.mem_append,List.mem_singleton]
    constructor
    ·rintro ⟨h1,h2⟩; exact ⟨.inl h1,h2⟩
    ·rintro ⟨h1 | h1,h2⟩
     ·exact ⟨h1,h2⟩
     ·exact ⟨by rw [h1]; exact hta,h2⟩
 exact this _ L rfl
structure Room (d : List SNode) (c : Int) (l : List (List SItem)) : Prop where
 sm : ∀ s ∈ l,Sm d s
 len : l.length ≤ 2000000000
 cov : ∃ K : List (List SItem),K.length ≤ 2000000000 ∧ ∀ s ∈ l,∀ t ∈ stepL d c s,t ∈ K
theorem step_short {d : List SNode} {s : List SItem} (h : Sm d s) {c : Int} (hc : InR .u8 c) {t : List SItem} (ht : t ∈ stepL d c s) : t.length ≤ 1000:=by
 have:=(step_ok h.rt.toROk h.form hc t ht).2
 have:=h.slen
 have:=h.len
 omega
theorem sets_On_in {d : List SNode} {l : List (List SItem)} {c : Int} (hr : Room d c l) (hc : InR .u8 c) : sets_On d l c (onS d c l):=by
 have hll:=hr.len
 obtain ⟨K,k1,k2⟩:=hr.cov
 refine uptoK (P:=fun k m v=>sets_On.l1 d l c _ k m v) l.length (fun i m=>m = mS ((l.take i).flatMap fun s=>setOf (stepL d c s))) ?_ ?_ _ (by simp [mS])
 ·rintro i m k hi rfl hk
  have hsm:=hr.sm _ (List.getElem_mem hi)
  obtain ⟨o,o1,_,o3⟩:=on_step hsm hc
  have ho : o.map (·.1) = setOf (stepL d c l[i]):=can_set o3 fun t=>by rw [← List.count_pos_iff]; omega
  have hol : o.length ≤ 2000000000:=by
   have:=setOf_len (A:=stepL d c l[i]) (K:=K) fun t ht=>k2 _ (List.getElem_mem hi) t ht
   rw [← ho,List.length_map] at this
   omega
  refine ⟨fun _=>⟨_,at_lt' hi,o,o1, ?_⟩,fun h=>absurd (by omega) (df h)⟩
  refine uptoK (P:=fun k m v=>sets_On.l2 o _ k m v) o.length (fun j m=>m = mS (((l.take i).flatMap fun s=>setOf (stepL d c s)) ++ (o.map (·.1)).take j)) ?_ ?_ _ (by simp)
  ·rintro j m k' hj rfl hk'
   have hmem : o[j].1 ∈ stepL d c l[i]:=setOf_mem.1 (by rw [← ho]; exact List.mem_map.2 ⟨_,List.getElem_mem hj,rfl⟩)
   have hlen:=step_short hsm hc hmem
   refine ⟨fun _=>⟨_,at_lt' hj,_,item_Key_in hlen,i64_of (by omega) (by omega),hk' _ ?_⟩,fun h=>absurd (by omega) (df h)⟩
   rw [List.take_succ_eq_append_getElem (by simpa using hj),← List.append_assoc,mS_snoc]
   simp
  ·rintro m rfl k'
   refine ⟨fun h=>absurd (dt h) (by omega),fun _=>⟨i64_of (by omega) (by omega),hk _ ?_⟩⟩
   rw [List.take_of_length_le (l:=o.map (·.1)) (by simp),List.take_succ_eq_append_getElem hi,List.flatMap_append,ho]
   simp
 ·rintro m rfl k
  refine ⟨fun h=>absurd (dt h) (by omega),fun _=>?_⟩
  rw [List.take_length]
  obtain ⟨i1,i2⟩:=mS_inv (l.flatMap fun s=>setOf (stepL d c s))
  have hmm : ∀ t,t ∈ (mS (l.flatMap fun s=>setOf (stepL d c s))).map (·.2) ↔ t ∈ onS d c l:=fun t=>by
   rw [onS_mem,List.mem_map]
   constructor
   ·rintro ⟨p,hp,rfl⟩
    obtain ⟨s,h1,h2⟩:=List.mem_flatMap.1 ((i2 p).1 hp).1
    exact ⟨s,h1,setOf_mem.1 h2⟩
   ·rintro ⟨s,h1,h2⟩
    exact ⟨(keyS t,t),(i2 _).2 ⟨List.mem_flatMap.2 ⟨s,h1,setOf_mem.2 h2⟩,rfl⟩,rfl⟩
  refine ⟨fun b hb=>?_, ?_,nodup_perm (rs_nodup (setOf_srt _)) i1 fun t=>(hmm t).symm,setOf_srt _⟩
  ·obtain ⟨s,h1,h2⟩:=onS_mem.1 ((hmm b).1 hb)
   exact step_short (hr.sm s h1) hc h2
  ·have:=len_sub (U:=K) i1 fun t ht=>by
    obtain ⟨s,h1,h2⟩:=onS_mem.1 ((hmm t).1 ht)
    exact k2 s h1 t h2
   omega
theorem idxS_in {s : List (List SItem)} {f : List SItem × Bool → Prop} {g : List SItem → Bool} (hf : ∀ x ∈ s,f (x,g x)) (hl : s.length ≤ 140737488351232) : slices_ContainsFunc_api_State_api_State s f (s.any g):=by
 have key : ∃ i : Int,slices_IndexFunc_api_State_api_State s f i ∧ (decide (0 ≤ i)) = s.any g:=by
  cases hc : s.any g
  ·refine ⟨-1, ?_,by decide⟩
   rw [List.any_eq_false] at hc
   refine upto (P:=fun k (_ : Unit) v=>slices_IndexFunc_api_State_api_State.l1 s f (-1) _ k v) s.length (fun _ _=>True) ?_ ?_ () trivial
   ·intro j _ hj _
    exact .inr ⟨(),trivial,fun k hk=>⟨fun _=>⟨_,at_lt' hj,_,hf _ (List.getElem_mem hj),fun h=>absurd h (hc _ (List.getElem_mem hj)),fun _=>⟨i64_of (by omega) (by omega),hk⟩⟩,fun h=>absurd (by omega) (df h)⟩⟩
   ·intro _ _ k
    exact ⟨fun h=>absurd (dt h) (by omega),fun _=>rfl⟩
  ·rw [List.any_eq_true] at hc
   obtain ⟨x,hx,hgx⟩:=hc
   have hex : ∃ i,∃ (h : i < s.length),g s[i] = true:=by
    obtain ⟨i,hi,rfl⟩:=List.mem_iff_getElem.1 hx
    exact ⟨i,hi,hgx⟩
   obtain ⟨i,⟨hi,hi2⟩,hmin⟩:=exists_least hex
   refine ⟨(i : Int), ?_,by simp⟩
   refine upto (P:=fun k (_ : Unit) v=>slices_IndexFunc_api_State_api_State.l1 s f (i : Int) _ k v) (i + 1) (fun j _=>j ≤ i) ?_ ?_ () (by omega)
   ·intro j _ hj hle
    have hat:=at_lt' (show j < s.length by omega)
    have hfj:=hf _ (List.getElem_mem (show j < s.length by omega))
    by_cases hji : j = i
    ·subst hji
     rw [hi2] at hfj
     exact .inl fun k=>⟨fun _=>⟨_,hat,true,hfj,fun _=>rfl,(fun h=>by cases h)⟩,fun h=>absurd (by omega) (df h)⟩
    ·have hno : g (s[j]'(by omega)) = false:=by
      cases hg : g (s[j]'(by omega))
      ·rfl
      ·have:=hmin j ⟨by omega,hg⟩; omega
     rw [hno] at hfj
     exact .inr ⟨(),by omega,fun k hk=>⟨fun _=>⟨_,hat,false,hfj,(fun h=>by cases h),fun _=>⟨i64_of (by omega) (by omega),hk⟩⟩,fun h=>absurd (by omega) (df h)⟩⟩
   ·intro _ h k; omega
 obtain ⟨i,h1,h2⟩:=key
 exact ⟨i,h1,h2.symm⟩
theorem sat_pos (n : Nat) : decide (0 < sat n) = decide (n ≠ 0):=by
 by_cases h : n = 0
 ·subst h; simp [sat]
 ·rw [decide_eq_true (by unfold sat; omega),decide_eq_true h]
theorem sets_Ends_in {d : List SNode} {l : List (List SItem)} (hl : ∀ s ∈ l,Sm d s) (hn : l.length ≤ 2000000000) : sets_Ends d l (endS d l):=by
 refine ⟨_,idxS_in (g:=fun s=>decide ((hds d s).count [] ≠ 0)) (fun s hs=>⟨_,(ends_both (hl s hs)).1, ?_⟩) (by omega),rfl⟩
 exact (sat_pos _).symm
theorem sets_Classes_in {d : List SNode} {l : List (List SItem)} (hl : ∀ s ∈ l,Sm d s) (hn : l.length ≤ 2000000000) (hc : (clsL d l).length * 32 ≤ 140737488355328) : sets_Classes d l (clsL d l):=by
 refine upto (P:=fun k out v=>sets_Classes.l1 d l _ k out v) l.length (fun i out=>out = clsL d (l.take i)) ?_ ?_ _ (by simp [clsL])
 ·rintro i out hi rfl
  have e : clsL d (l.take (i + 1)) = clsL d (l.take i) ++ clsA d l[i]:=by
   unfold clsL
   rw [List.take_succ_eq_append_getElem hi,List.flatMap_append]; simp
  refine .inr ⟨_,rfl,fun k hk=>⟨fun _=>⟨_,at_lt' hi,_,(clsA_in (hl _ (List.getElem_mem hi))).1, ?_,i64_of (by omega) (by omega),by rw [← e]; exact hk⟩,fun h=>absurd (by omega) (df h)⟩⟩
  have h2 : clsL d l = clsL d (l.take (i + 1)) ++ clsL d (l.drop (i + 1)):=by unfold clsL; rw [← List.flatMap_append,List.take_append_drop]
  have h3:=congrArg List.length h2
  rw [e,List.length_append,List.length_append] at h3
  omega
 ·rintro out rfl k
  refine ⟨fun h=>absurd (dt h) (by omega),fun _=>?_⟩
  show clsL d l = _
  rw [List.take_length]
theorem sets_Once_in {l : List Cl} (hn : l.length ≤ 140737488351232) (ho : (onceL l).length ≤ 2147483647) : sets_Once l (onceL l):=by
 have hpre : ∀ i,(onceL (l.take i)).length ≤ (onceL l).length:=fun i=>by
  refine len_sub (onceL_nodup _) fun x hx=>(onceL_mem l).2 (List.mem_of_mem_take ((onceL_mem _).1 hx))
 refine upto (P:=fun k (s : List (Cl × Bool) × List Cl) v=>sets_Once.l1 l _ k s.1 s.2 v) l.length (fun i s=>s.2 = onceL (l.take i) ∧ ∀ x,mget s.1 x false = decide (x ∈ l.take i)) ?_ ?_ ([],[]) ⟨by simp [onceL],fun x=>by simp [mget]⟩
 ·rintro i ⟨met,out⟩ hi ⟨h1,h2⟩
  simp only at h1 h2
  subst h1
  have htk : l.take (i + 1) = l.take i ++ [l[i]]:=List.take_succ_eq_append_getElem hi
  have hnext : ∀ x,mget (mput met l[i] true) x false = decide (x ∈ l.take (i + 1)):=fun x=>by
   rw [mget_mput,h2,htk]
   by_cases hx : l[i] = x
   ·rw [if_pos hx]
    exact (decide_eq_true (List.mem_append.2 (.inr (by rw [← hx]; exact List.mem_singleton.2 rfl)))).symm
   ·rw [if_neg hx]
    exact decide_eq_decide.2 ⟨fun h=>List.mem_append.2 (.inl h),fun h=>(List.mem_append.1 h).resolve_right fun e=>hx (List.mem_singleton.1 e).symm⟩
  have hp1:=hpre (i + 1)
  by_cases hm : l[i] ∈ l.take i
  ·refine .inr ⟨(mput met l[i] true,onceL (l.take i)),⟨?_,hnext⟩,fun k hk=>⟨fun _=>⟨_,at_lt' hi,fun h=>?_,fun _=>⟨i64_of (by omega) (by omega),hk⟩⟩,fun h=>absurd (by omega) (df h)⟩⟩
   ·rw [htk,onceL_snoc,if_pos ((onceL_mem _).2 hm)]
   ·rw [h2,decide_eq_true hm] at h; cases h
  ·have e : onceL (l.take (i + 1)) = onceL (l.take i) ++ [l[i]]:=by rw [htk,onceL_snoc,if_neg fun h=>hm ((onceL_mem _).1 h)]
   refine .inr ⟨(mput met l[i] true,onceL (l.take i) ++ [l[i]]),⟨e.symm,hnext⟩,fun k hk=>⟨fun _=>⟨_,at_lt' hi,fun _=>⟨?_,i64_of (by omega) (by omega),hk⟩,fun h=>?_⟩,fun h=>absurd (by omega) (df h)⟩⟩
   ·rw [e] at hp1
    simp only [List.length_append,List.length_cons,List.length_nil] at hp1 ⊢
    omega
   ·rw [h2,decide_eq_false hm] at h; cases h
 ·rintro ⟨met,out⟩ ⟨h1,h2⟩ k
  simp only at h1
  subst h1
  refine ⟨fun h=>absurd (dt h) (by omega),fun _=>?_⟩
  show onceL l = _
  rw [List.take_length]
end Go.Proofs.YtahgmdbioafmbaaGreatDoor.V
namespace Go.Proofs.YtahgmdbioafmbaaGreatDoor.V
open Go
set_option linter.unusedVariables false
theorem sets_Bytes_in {d : List SNode} {l : List (List SItem)} (hl : ∀ s ∈ l,Sm d s) (hn : l.length ≤ 2000000000) (hc : (clsL d l).length ≤ 1000000000) : sets_Bytes d l (bytS d l):=by
 have ho:=onceL_len (clsL d l)
 exact ⟨_,sets_Classes_in hl hn (by omega),_,sets_Once_in (by omega) (by omega),_,split_Heads_in (by omega),rfl⟩
theorem room_after {d : List SNode} (h : Rt d) (hl : d.length ≤ 24) (ht : Txt d) {w : List Int} (hw : ∀ c ∈ w,InR .u8 c) {c : Int} (hc : InR .u8 c) (hp : pas d.length (w.length + 1) ≤ 2000000000) : Room d c (aftS d w):=by
 refine ⟨fun s hs=>(aftS_sm h hl ht hw hs).1, ?_, ?_⟩
 ·have:=aftS_len h hw
  have:=pas_more d.length w.length
  omega
 ·have hw2 : ∀ b ∈ w ++ [c],InR .u8 b:=fun b hb=>(List.mem_append.1 hb).elim (hw b) fun e=>by rw [List.mem_singleton.1 e]; exact hc
  obtain ⟨K,k1,k2⟩:=after_cov h fun b hb=>(inR_u8.1 (hw2 b hb)).1
  rw [List.length_append,List.length_singleton] at k1
  refine ⟨K,by omega,fun s hs t hts=>k2 t ?_⟩
  show t ∈ endsL d (w ++ [c]) (stS d)
  rw [← aftS_mem,aftS_snoc,onS_mem]
  exact ⟨s,hs,hts⟩
theorem pas_le2 {m k m' k' : Nat} (h1 : m ≤ m') (h2 : k ≤ k') {n : Nat} (h : pas m' k' ≤ n) : pas m k ≤ n:=Nat.le_trans (Nat.le_trans (pas_mono h1 k) (pas_long m' h2)) h
theorem pas_16_17 : pas 16 17 ≤ 2000000000:=pas_le (by decide +kernel)
theorem sets_After_in {d : List SNode} (h : Rt d) (hl : d.length ≤ 24) (ht : Txt d) {w : List Int} (hw : ∀ c ∈ w,InR .u8 c) (hn : w.length ≤ 1000) (hp : pas d.length w.length ≤ 2000000000) : sets_After d w (aftS d w):=by
 refine ⟨_,sets_Start_in h.ne (by omega), ?_⟩
 refine upto (P:=fun k l v=>sets_After.l1 d w _ k l v) w.length (fun i l=>l = aftS d (w.take i)) ?_ ?_ _ (by rw [List.take_zero,aftS_nil])
 ·rintro i l hi rfl
  have hsn : aftS d (w.take (i + 1)) = onS d w[i] (aftS d (w.take i)):=by rw [List.take_succ_eq_append_getElem hi,aftS_snoc]
  have hr:=room_after h hl ht (w:=w.take i) (fun c hc=>hw c (List.mem_of_mem_take hc)) (hw _ (List.getElem_mem hi)) (pas_le2 (Nat.le_refl _) (by rw [List.length_take]; omega) hp)
  exact .inr ⟨_,rfl,fun k hk=>⟨fun _=>⟨_,at_lt' hi,_,sets_On_in hr (hw _ (List.getElem_mem hi)),i64_of (by omega) (by omega),by rw [← hsn]; exact hk⟩,fun h=>absurd (by omega) (df h)⟩⟩
 ·rintro l rfl k
  refine ⟨fun h=>absurd (dt h) (by omega),fun _=>?_⟩
  show aftS d w = _
  rw [List.take_length]
theorem ref16_Same_in {a b : List (List SItem)} (ha : ∀ x ∈ a,x.length ≤ 1000) (hb : ∀ x ∈ b,x.length ≤ 1000) (hl : a.length ≤ 140737488351232) : ref16_Same a b (decide (a = b)):=by
 by_cases hne : a.length = b.length
 ·refine ⟨fun h=>absurd h (by simp [hne]),fun _=>?_⟩
  refine upto (P:=fun k (_ : Unit) v=>ref16_Same.l1 a b (decide (a = b)) _ k v) a.length (fun i _=>a.take i = b.take i) ?_ ?_ () (by simp)
  ·intro i _ hi ht
   have hib : i < b.length:=by omega
   have hs:=ref13_Same_in (ha _ (List.getElem_mem hi)) (hb _ (List.getElem_mem hib))
   by_cases hab : a[i] = b[i]
   ·refine .inr ⟨(),by rw [List.take_succ_eq_append_getElem hi,List.take_succ_eq_append_getElem hib,ht,hab],fun k hk=>⟨fun _=>⟨_,at_lt' hi,_,at_lt' hib,_,hs,fun h=>?_,fun _=>⟨i64_of (by omega) (by omega),hk⟩⟩,fun h=>absurd (by omega) (df h)⟩⟩
    rw [hab] at h; simp at h
   ·refine .inl fun k=>⟨fun _=>⟨_,at_lt' hi,_,at_lt' hib,_,hs,fun _=>?_,fun h=>?_⟩,fun h=>absurd (by omega) (df h)⟩
    ·simp only [decide_eq_false_iff_not]
     intro e
     subst e; exact hab rfl
    ·simp at h; exact absurd h hab
  ·intro _ ht k
   refine ⟨fun h=>absurd (dt h) (by omega),fun _=>?_⟩
   show decide (a = b) = true
   rw [List.take_length,hne,List.take_length] at ht
   simp [ht]
 ·refine ⟨fun _=>?_,fun h=>absurd (Int.ofNat.inj (by simpa using h)) hne⟩
  simp only [decide_eq_false_iff_not]
  intro e
  subst e; exact hne rfl
def stepK (d : List SNode) (c : Int) (s : List SItem) : List (List SItem):=(setOf (hds d s)).filterMap fun t=>if (readF d t c).2 = true then some (readF d t c).1 else none
theorem stepK_len {d : List SNode} {s : List SItem} (h : Sm d s) (c : Int) : (stepK d c s).length ≤ 10001:=by
 have h1:=heads_few h (canB_can d s)
 unfold canB at h1
 rw [List.length_map] at h1
 exact Nat.le_trans (List.length_filterMap_le _ _) h1
theorem stepK_mem {d : List SNode} {c : Int} {s t : List SItem} (h : t ∈ stepL d c s) : t ∈ stepK d c s:=by
 unfold stepL at h
 obtain ⟨u,h1,h2⟩:=List.mem_filterMap.1 h
 exact List.mem_filterMap.2 ⟨u,setOf_mem.2 h1,h2⟩
theorem flatS_len (f : List SItem → List (List SItem)) (m : Nat) : ∀ l : List (List SItem),(∀ s ∈ l,(f s).length ≤ m) → (l.flatMap f).length ≤ m * l.length
 | [],_=>by simp
 | s :: l,h=>by
  have h1:=h s (by simp)
  have h2:=flatS_len f m l fun u hu=>h u (by simp [hu])
  rw [List.flatMap_cons,List.length_append,List.length_cons,Nat.mul_add]
  omega
theorem room_few {d : List SNode} {l : List (List SItem)} (h : ∀ s ∈ l,Sm d s) (hl : l.length ≤ 100000) (c : Int) : Room d c l:=by
 refine ⟨h,by omega,l.flatMap (stepK d c), ?_,fun s hs t ht=>List.mem_flatMap.2 ⟨s,hs,stepK_mem ht⟩⟩
 have:=flatS_len (stepK d c) 10001 l fun s hs=>stepK_len (h s hs) c
 omega
theorem cls_few {d : List SNode} {l : List (List SItem)} (h : ∀ s ∈ l,Sm d s) (hl : l.length ≤ 300) : (clsL d l).length ≤ 1000000000:=by
 have : ∀ l : List (List SItem),(∀ s ∈ l,Sm d s) → (clsL d l).length ≤ 256 * 10001 * l.length:=by
  intro l
  induction l with
  | nil=>intro _; simp [clsL]
  | cons s l ih=>
   intro h
   have h1:=(clsA_in (h s (by simp))).2.2
   have h2:=ih fun u hu=>h u (by simp [hu])
   have e : clsL d (s :: l) = clsA d s ++ clsL d l:=by simp [clsL]
   rw [e,List.length_append,List.length_cons,Nat.mul_add]
   omega
 have:=this l h
 omega
end Go.Proofs.YtahgmdbioafmbaaGreatDoor.V
namespace Go.Proofs.YtahgmdbioafmbaaGreatDoor.V
open Go
set_option linter.unusedVariables false
def d6 : List SNode:=wrapD 6 d5
theorem d6_rt : Rt d6:=wrap_rt d5_rt (.inl rfl) fun _=>by decide +kernel
theorem d6_txt : Txt d6:=small_txt (by decide +kernel)
theorem d5_txt : Txt d5:=small_txt (by decide +kernel)
theorem d6_sm {s : List SItem} (hf : formS d6 s = true) (hs : s.length ≤ 40) : Sm d6 s:=⟨d6_rt,by decide +kernel,d6_txt,hf,by omega⟩
theorem heads_nil : heads ([] : List Cl) = [0]:=by decide +kernel
theorem bytC_nil : bytC [] = [0]:=by rw [bytC_eq,heads_nil]; rfl
theorem bytS_nil (d : List SNode) : bytS d [] = [0]:=bytC_nil
theorem sets_Key_in {l : List (List SItem)} (h1 : l.length ≤ 1000000000) (h2 : ∀ s ∈ l,s.length ≤ 1000) : sets_Key l (keyL l):=⟨h1,h2,rfl⟩
theorem awake16 : law16_awake true:=by
 have u8 : ∀ c : Int,0 ≤ c ∧ c ≤ 255 → InR .u8 c:=fun c h=>inR_u8.2 h
 have sm : ∀ s ∈ [stS d6],Sm d6 s:=fun s hs=>by
  rw [List.mem_singleton.1 hs]; exact d6_sm (by decide +kernel) (by decide)
 have smN : ∀ s ∈ ([] : List (List SItem)),Sm d6 s:=fun s hs=>by cases hs
 have sm5 : ∀ s ∈ [stS d5],Sm d5 s:=fun s hs=>by
  rw [List.mem_singleton.1 hs]; exact d5_sm (by decide +kernel) (by decide)
 have sm5e : ∀ s ∈ [([] : List SItem)],Sm d5 s:=fun s hs=>by
  rw [List.mem_singleton.1 hs]; exact d5_sm rfl (by decide)
 have o1 : sets_On d6 [stS d6] 5 [stS d6]:=by
  have:=sets_On_in (room_few sm (by decide) 5) (u8 5 (by decide))
  rwa [show onS d6 5 [stS d6] = [stS d6] by decide +kernel] at this
 have o2 : sets_On d6 [stS d6] 7 []:=by
  have:=sets_On_in (room_few sm (by decide) 7) (u8 7 (by decide))
  rwa [show onS d6 7 [stS d6] = [] by decide +kernel] at this
 have e1 : sets_Ends d6 [stS d6] true:=by
  have:=sets_Ends_in sm (by decide)
  rwa [show endS d6 [stS d6] = true by decide +kernel] at this
 have e2 : sets_Ends d6 [] false:=sets_Ends_in smN (by decide)
 have e3 : sets_Ends d5 [stS d5] false:=by
  have:=sets_Ends_in sm5 (by decide)
  rwa [show endS d5 [stS d5] = false by decide +kernel] at this
 have a1 : sets_After d5 [6] [[]]:=by
  have:=sets_After_in d5_rt (by decide) d5_txt (w:=[6]) (fun c hc=>by rw [List.mem_singleton.1 hc]; exact u8 6 (by decide)) (by decide) (pas_le2 (m':=16) (k':=17) (by decide) (by decide) pas_16_17)
  rwa [show aftS d5 [6] = [[]] by decide +kernel] at this
 have e4 : sets_Ends d5 [[]] true:=by
  have:=sets_Ends_in sm5e (by decide)
  rwa [show endS d5 [[]] = true by decide +kernel] at this
 have b1 : sets_Bytes d6 [stS d6] [0,5]:=by
  have:=sets_Bytes_in sm (by decide) (cls_few sm (by decide))
  have e : bytS d6 [stS d6] = [0,5]:=by
   unfold bytS
   rw [bytC_eq,show clsL d6 [stS d6] = [Cl.row 5 6] by decide +kernel,show heads [Cl.row 5 6] = [0,5] by decide +kernel]; rfl
  rwa [e] at this
 have b2 : sets_Bytes d6 [] [0]:=by
  have:=sets_Bytes_in smN (by decide) (cls_few smN (by decide))
  rwa [bytS_nil] at this
 have k1 : sets_Key [stS d6] (keyL [stS d6]):=sets_Key_in (by decide) (by decide)
 have k2 : sets_Key [] (keyL []):=sets_Key_in (by decide) (by decide)
 refine ⟨Cl.row 5 6,ref01_Row_in (u8 5 (by decide)) (u8 6 (by decide)),d6,Wrap_in d5_rt.tr (by decide),[stS d6],sets_Start_in d6_rt.ne (by decide +kernel),_,o1,_,o2,_,rfl,(fun h=>by simp at h),fun _=>⟨_,ref16_Same_in (by decide) (by decide) (by decide),_,fun _=>e1,_,fun _=>e2,_,rfl,_,fun _=>sets_Start_in d5_rt.ne (by decide),_,fun _=>e3,_,fun _=>a1,_,fun _=>e4,_,fun _=>b1,_,fun _=>ref02_Bytes_in (by decide),_,fun _=>b2,_,fun _=>ref02_Bytes_in (by decide),_,fun _=>k1,_,fun _=>k1,_,rfl,_,fun _=>k1,_,fun _=>k2, ?_⟩⟩
 simp [keyL]
theorem onceL_app (a b : List Cl) : ∃ r,onceL (a ++ b) = onceL a ++ r:=by
 refine cl_ind (p:=fun b=>∃ r,onceL (a ++ b) = onceL a ++ r) ⟨[],by simp⟩ (fun b c ih=>?_) b
 obtain ⟨r,hr⟩:=ih
 rw [← List.append_assoc,onceL_snoc]
 split
 ·exact ⟨r,hr⟩
 ·exact ⟨r ++ [c],by rw [hr,List.append_assoc]⟩
theorem law16_SetsOnce_true {l : List Cl} {which : Int} (hw : InR .u8 which) : law16_SetsOnce l which true:=by
 have hw':=inR_u8.1 hw
 refine ⟨true,awake16,fun _=>⟨true,awake16,rfl⟩,fun hb=>?_⟩
 simp only [Bool.not_true,Bool.false_or,decide_eq_false_iff_not] at hb
 have hol:=onceL_len l
 refine ⟨_,sets_Once_in (by omega) (by omega), ?_⟩
 refine uptoK (P:=fun k (a : Int) v=>law16_SetsOnce.l1 l (onceL l) true _ k a v) l.length (fun i a=>a = ((onceL (l.take i)).length : Int)) ?_ ?_ 0 (by simp [onceL])
 ·rintro i a k hi rfl hk
  refine ⟨fun _=>?_,fun h=>absurd (by omega) (df h)⟩
  have htk : l.take (i + 1) = l.take i ++ [l[i]]:=List.take_succ_eq_append_getElem hi
  refine upto (P:=fun k2 f v=>law16_SetsOnce.l2 l (i : Int) _ k2 f v) i (fun j f=>f = decide (l[i] ∉ l.take j)) ?_ ?_ true (by simp)
  ·rintro j f hj rfl
   refine .inr ⟨_, ?_,fun k2 hk2=>⟨fun _=>⟨_,fun _=>at_lt' (show j < l.length by omega),_,fun _=>at_lt' hi,i64_of (by omega) (by omega),hk2⟩,fun h=>absurd (by omega) (df h)⟩⟩
   rw [List.take_succ_eq_append_getElem (show j < l.length by omega),Bool.eq_iff_iff,Bool.and_eq_true,decide_eq_true_iff,decide_eq_true_iff,bne_iff_ne,List.mem_append,List.mem_singleton,not_or]
   exact ⟨fun ⟨h1,h2⟩=>⟨h1,fun e=>h2 e.symm⟩,fun ⟨h1,h2⟩=>⟨h1,fun e=>h2 e.symm⟩⟩
  ·rintro f rfl k2
   refine ⟨fun h=>absurd (dt h) (by omega),fun _=>?_⟩
   by_cases hm : l[i] ∈ l.take i
   ·have e1 : decide (l[i] ∉ l.take i) = false:=decide_eq_false fun h=>h hm
    rw [e1]
    refine ⟨(fun h=>by cases h),fun _=>⟨i64_of (by omega) (by omega),hk _ ?_⟩⟩
    rw [htk,onceL_snoc,if_pos ((onceL_mem _).2 hm)]
   ·have e1 : decide (l[i] ∉ l.take i) = true:=decide_eq_true hm
    rw [e1]
    have e2 : onceL (l.take (i + 1)) = onceL (l.take i) ++ [l[i]]:=by rw [htk,onceL_snoc,if_neg fun h=>hm ((onceL_mem _).1 h)]
    obtain ⟨r,hr⟩:=onceL_app (l.take (i + 1)) (l.drop (i + 1))
    rw [List.take_append_drop,e2] at hr
    have hlt : (onceL (l.take i)).length < (onceL l).length:=by rw [hr,List.length_append,List.length_append,List.length_singleton]; omega
    have hget : at? (onceL l) ((onceL (l.take i)).length : Int) = some l[i]:=by
     rw [at_nat,hr]; simp
    refine ⟨fun _=>⟨_,fun _=>hget,_,fun _=>at_lt' hi,_,rfl,fun h=>?_,fun _=>⟨i64_of (by omega) (by omega),i64_of (by omega) (by omega),hk _ ?_⟩⟩,(fun h=>by cases h)⟩
    ·exfalso
     rw [Bool.or_eq_true,decide_eq_true_eq,bne_iff_ne] at h
     rcases h with h | h
     ·omega
     ·exact h rfl
    ·rw [e2]; simp
 ·rintro a rfl k
  refine ⟨fun h=>absurd (dt h) (by omega),fun _=>?_⟩
  rw [List.take_length]
  refine ⟨fun h=>by simp at h,fun _=>⟨fun _=>rfl,fun h=>?_⟩⟩
  have hpos : 0 < l.length:=by
   rw [beq_eq_false_iff_ne] at h; omega
  have hmod : (which % (l.length : Int)) = ((which.toNat % l.length : Nat) : Int):=by
   rw [Int.natCast_emod,Int.toNat_of_nonneg hw'.1]
  have hlt : which.toNat % l.length < l.length:=Nat.mod_lt _ hpos
  have hmem : l[which.toNat % l.length] ∈ l:=List.getElem_mem hlt
  have hmore : onceL (l ++ [l[which.toNat % l.length]]) = onceL l:=by rw [onceL_snoc,if_pos ((onceL_mem l).2 hmem)]
  have hself : onceL (onceL l) = onceL l:=onceL_self (onceL_nodup l)
  have i1 : sets_Once (l ++ [l[which.toNat % l.length]]) (onceL l):=by
   have:=sets_Once_in (l:=l ++ [l[which.toNat % l.length]]) (by simp; omega) (by rw [hmore]; omega)
   rwa [hmore] at this
  have i2 : sets_Once (onceL l) (onceL l):=by
   have:=sets_Once_in (l:=onceL l) (by omega) (by rw [hself]; omega)
   rwa [hself] at this
  refine ⟨by omega,by omega,hw'.1,_,by rw [hmod]; exact at_lt' hlt,by simp; omega,_,i1,_,ref02_Same_in (by omega),_,fun _=>i2,_,fun _=>ref02_Same_in (by omega),_,fun _=>ref02_Heads_in (by omega),_,fun _=>ref02_Heads_in (by omega),_,fun _=>ref02_Bytes_in ?_, ?_⟩
  ·rw [splitH_mem (m:=l) fun x=>onceL_mem l,splitH_eq,List.length_map]
   have:=heads_len l
   omega
  ·rw [splitH_mem (m:=l) fun x=>onceL_mem l]; simp
end Go.Proofs.YtahgmdbioafmbaaGreatDoor.V
namespace Go.Proofs.YtahgmdbioafmbaaGreatDoor.V
open Go Go.ChangeShapes Go.WideShapes Go.RowKit
set_option linter.unusedVariables false
structure Rd (P : Program) (t : TypeId) {α : Type} (E : En α) (G : α → Prop) : Prop where
 sz : P.cellsOf t = E.sz
 rd : ∀ {H : Type} (enc : TypeId × Value → H) (w : World) (fuel : Nat) (cs : List Value) (x : DataW H × List MemPlace),
  DataW.trod enc P w 0 (fun _=>true) true fuel t cs = some x → (∀ n ∈ x.1.weights P t,n ≤ reachBytes) → ∃ y,E.R w (fun b=>b < w.heap.size) cs y ∧ G y
 vl : ∀ (w : World) (v : Value),Value.okWide P w .any 0 t v → (∃ y,E.R w (fun b=>b < w.heap.size) v.cells.toList y) → v = E.val v.cells.toList
theorem Rd.int {P : Program} {t : TypeId} {k : IntKind} (ht : P.underlying t = some (.int k)) (hc : P.cellsOf t = 1) : Rd P t (En.int k) (InR k):=by
 refine ⟨hc, ?_, ?_⟩
 ·intro H enc w fuel cs x h _
  obtain ⟨n,rfl,_,hw⟩:=DataW.trod_int ht h
  have : InR k n:=by simpa [Lit.wf,InR] using hw
  exact ⟨n,⟨rfl,this⟩,this⟩
 ·intro w v hv _
  obtain ⟨n,rfl⟩:=okWide_int ht hv
  rfl
theorem weights_all {H : Type} {P : Program} {e : TypeId} : ∀ {l : List (DataW H)} {d : DataW H},d ∈ l → ∀ n ∈ d.weights P e,n ∈ DataW.weightsAll P e l
 | [],_,h,_,_=>by cases h
 | d' :: l,d,h,n,hn=>by
  simp only [DataW.weightsAll,List.mem_append]
  rcases List.mem_cons.1 h with rfl | h
  ·exact .inl hn
  ·exact .inr (weights_all h n hn)
theorem Rd.slice {P : Program} {t e : TypeId} {α : Type} {E : En α} {G : α → Prop} (ht : P.underlying t = some (.slice e)) (hc : P.cellsOf t = 1) (hby : Nat.blt 0 (P.bytesOf e) = true) (he : Rd P e E G) :
  Rd P t (En.slice E) (fun xs=>xs.length ≤ 140737488351232 ∧ ∀ y ∈ xs,G y):=by
 refine ⟨hc, ?_, ?_⟩
 ·intro H enc w fuel cs x h hwt
  rcases Deep.open_slice ht h with ⟨rfl,_⟩ | ⟨a,len,cap,m,n,D,Pl,rfl,hb,hl,hm,hmm,hxe,hx⟩
  ·exact ⟨[],⟨_,rfl,slV_nil E _ _⟩,Nat.zero_le _,by simp⟩
  ·simp only [if_true] at hmm
   subst hmm
   have hall : ∀ i,i < len → ∃ p : α × List Value,w.cells? 0 (a.add (i * P.cellsOf e)) (P.cellsOf e) = some p.2 ∧ E.R w (fun b=>b < w.heap.size) p.2 p.1 ∧ G p.1:=fun i hi=>by
    obtain ⟨cs',h1,h2⟩:=hx i (by omega)
    obtain ⟨y,h3,h4⟩:=he.rd enc w n cs' _ h2 fun q hq=>hwt q (by
     rw [hxe]
     simp only [DataW.weights,ht,List.mem_cons,List.mem_append]
     exact .inr (.inl (weights_all (List.mem_map.2 ⟨i,by simpa using hi,rfl⟩) q hq)))
    exact ⟨(y,cs'),h1,h3,h4⟩
   have hmax2 : len ≤ 140737488351232:=by
    have h1:=hwt ((len + (m - len)) * P.bytesOf e) (by rw [hxe]; simp [DataW.weights,ht])
    have h2 : 0 < P.bytesOf e:=Nat.le_of_ble_eq_true hby
    have h3 : (len + (m - len)) * 1 ≤ (len + (m - len)) * P.bytesOf e:=Nat.mul_le_mul_left _ h2
    have h4 : reachBytes = 140737488351232:=rfl
    omega
   have hmax : len ≤ lim:=by have : maxLen ≤ lim:=by decide
                             omega
   by_cases h0 : len = 0
   ·subst h0
    exact ⟨[],⟨_,rfl,some a,m,rfl,Nat.zero_le _,(fun h=>by cases h),Nat.zero_le _,fun h=>absurd rfl h⟩,Nat.zero_le _,by simp⟩
   have hinh : Inhabited (α × List Value):=⟨(hall 0 (by omega)).choose⟩
   obtain ⟨f,hf⟩:=Deep.choose_lt hall
   have hsz:=E.pos
   rw [← he.sz] at hsz
   obtain ⟨hcell0,hblk⟩ : a.spot = none ∧ a.block < w.heap.size:=by
    obtain ⟨_,hl2,hcl⟩:=World.cells?_some (hf 0 (by omega)).1
    have h2:=hcl 0 hsz
    rw [List.getElem?_eq_getElem (by omega)] at h2
    simp only [Nat.zero_mul,Addr.add,if_true,World.cell?] at h2
    cases hb2 : w.heap[a.block]? with
    | none=>simp [hb2] at h2
    | some o=>
     refine ⟨?_,(Array.getElem?_eq_some_iff.1 hb2).1⟩
     cases o <;> simp [hb2] at h2
     exact h2.1
   refine ⟨(List.range len).map (fun i=>(f i).1),⟨_,rfl,some a,m, ?_,by simpa using hl,(fun h=>by cases h),by simpa using hmax,fun _=>⟨a.block,a.off,(List.range len).map (fun i=>(f i).2), ?_,hblk,⟨by simp, ?_⟩, ?_⟩⟩,by simpa using hmax2, ?_⟩
   ·simp
   ·cases a; simp at hcell0; subst hcell0; rfl
   ·intro i c y hc1 hy1
    have hi : i < len:=by have:=(List.getElem?_eq_some_iff.1 hc1).1; simpa using this
    simp [hi] at hc1 hy1
    subst hc1; subst hy1
    exact (hf i hi).2.1
   ·have hlens : ∀ c ∈ (List.range len).map (fun i=>(f i).2),c.length = E.sz:=by
     intro c hc
     simp only [List.mem_map,List.mem_range] at hc
     obtain ⟨i,hi,rfl⟩:=hc
     rw [(World.cells?_some (hf i hi).1).2.1,he.sz]
    intro j u hj
    have hjl : j < len * E.sz:=by
     have:=(List.getElem?_eq_some_iff.1 hj).1
     rw [flat_len hlens] at this; simpa using this
    have hp : 0 < E.sz:=E.pos
    have hi : j / E.sz < len:=Nat.div_lt_of_lt_mul (by rw [Nat.mul_comm]; exact hjl)
    have hk : j % E.sz < E.sz:=Nat.mod_lt _ hp
    obtain ⟨_,hl2,hcl⟩:=World.cells?_some (hf _ hi).1
    have hcell:=hcl (j % E.sz) (by rw [he.sz]; exact hk)
    rw [he.sz] at hl2
    have hg:=flat_get hlens (i:=j / E.sz) (cs:=(f (j / E.sz)).2) (j:=j % E.sz) (u:=(f (j / E.sz)).2[j % E.sz]'(by omega)) (by simp [hi]) (by simp)
    rw [Nat.mul_comm,Nat.div_add_mod] at hg
    rw [hg] at hj
    rw [List.getElem?_eq_getElem (by omega),hj,Deep.add_add,he.sz,Nat.mul_comm,Nat.div_add_mod] at hcell
    rw [← hcell]
    cases a; simp at hcell0; subst hcell0; rw [add_lit]
   ·intro y hy
    simp only [List.mem_map,List.mem_range] at hy
    obtain ⟨i,hi,rfl⟩:=hy
    exact (hf i hi).2.2
 ·intro w v hv _
  simp only [Value.okWide,ht,Cell.okWide,Cell.ok] at hv
  cases v <;> simp at hv
  rfl
theorem u64_word {n : Int} (h : InR .u64 n) : ∃ m : Nat,m < 2 ^ 64 ∧ n = m:=by
 simp [InR,IntKind.min,IntKind.max,IntKind.signed,IntKind.bits] at h
 exact ⟨n.toNat,by omega,by omega⟩
theorem Rd.cls {P : Program} {t e : TypeId} (ht : P.underlying t = some (.array 4 e)) (hc : P.cellsOf t = 4) (he : P.underlying e = some (.int .u64)) (hce : P.cellsOf e = 1) : Rd P t En.cls (fun _=>True):=by
 refine ⟨hc, ?_, ?_⟩
 ·intro H enc w fuel cs x h _
  obtain ⟨xs,m,rfl,rfl,hlen,hn,hx⟩:=DataW.trod_array ht h
  rw [hc] at hlen
  match cs,hlen with
  | [u0,u1,u2,u3],_=>
   have hx' : ∀ i (hi : i < 4) u,[u0,u1,u2,u3][i]? = some u → ∃ q : Nat,q < 2 ^ 64 ∧ u = .int .u64 q:=by
    intro i hi u hu
    have h1:=hx i hi
    rw [hce,Nat.mul_one,List.getElem?_eq_getElem (by omega)] at h1
    have h2 : List.take 1 (List.drop i [u0,u1,u2,u3]) = [u]:=by
     match i,hi with
     | 0,_ | 1,_ | 2,_ | 3,_=>simp at hu; subst hu; rfl
    rw [h2] at h1
    obtain ⟨n,h3,_,h4⟩:=DataW.trod_int he h1
    obtain ⟨q,hq,rfl⟩:=u64_word (n:=n) (by simpa [Lit.wf,InR] using h4)
    simp at h3
    exact ⟨q,hq,h3⟩
   obtain ⟨q0,h0,rfl⟩:=hx' 0 (by omega) u0 rfl
   obtain ⟨q1,h1,rfl⟩:=hx' 1 (by omega) u1 rfl
   obtain ⟨q2,h2,rfl⟩:=hx' 2 (by omega) u2 rfl
   obtain ⟨q3,h3,rfl⟩:=hx' 3 (by omega) u3 rfl
   refine ⟨Cl.ofWords q0 q1 q2 q3, ?_,trivial⟩
   obtain ⟨e0,e1,e2,e3⟩:=Cl.ofWords_word h0 h1 h2 h3
   show _ = clsCells _
   unfold clsCells
   rw [e0,e1,e2,e3]
 ·intro w v hv _
  simp only [Value.okWide,ht] at hv
  obtain ⟨cs,rfl,_⟩:=hv
  simp [En.val,En.cls,Value.cells]
theorem Rd.open {P : Program} {t : TypeId} {α : Type} {E : En α} {G : α → Prop} (hr : Rd P t E G) {H : Type} {enc : TypeId × Value → H} {W : World} {v : Value} {d : DataW H} {p : List MemPlace}
  (hv : Value.okWide P W .any 0 t v) (hd : DataW.Trod enc P W 0 (fun _=>true) true t v d p) (hw : ∀ n ∈ d.weights P t,n ≤ reachBytes) : ∃ y,(Pd.rep E y).p ⟨W,fun _=>False,fun _ h=>h.elim⟩ v ∧ G y:=by
 obtain ⟨fuel,h⟩:=hd
 obtain ⟨y,hy,hg⟩:=hr.rd enc W fuel _ _ h hw
 refine ⟨y,⟨v.cells.toList,hr.vl W v hv ⟨y,hy⟩, ?_⟩,hg⟩
 exact E.mono (fun b hb=>⟨hb,fun h=>h⟩) hy
theorem Ex.below {s s' : St} (h : Ex s s') : Below s.w.heap.size s.w s'.w:=⟨h.mv.os,h.mv.tape,h.mv.output,h.mv.size,fun k hk=>h.mv.blk k hk (fun h=>h)⟩
theorem okWide_any {P : Program} {W : World} {b : Nat} {t : TypeId} {v : Value} (h : Value.okWide P W .any b t v) : Value.okWide P W .any 0 t v:=by
 unfold Value.okWide Row.okWide Cell.okWide Cell.ok World.has at *
 exact h
section
variable {H : Type} {enc : TypeId × Value → H} {P : Program}
theorem stays {W W' : World} (hl : laidOutB P = true) (hb : Below W.heap.size W W') {sp : Nat → Bool} : ∀ {ts : List TypeId} {vs : List Value} {ds : List (DataW H)} {ps : List MemPlace},
  (ts.all fun t=>P.readableRec t && decide (t < P.types.size)) = true → DataW.TrodAll enc P W 0 (fun _=>true) true ts vs ds ps → (∀ p ∈ ps,p.block < W.heap.size) → (∀ p ∈ ps,sp p.block = true) →
  DataW.TrodAll enc P W' 0 sp true ts vs ds ps
 | [],vs,ds,ps,_,h,_,_=>by
  obtain ⟨rfl,rfl,rfl⟩:=trodAll_nil h
  exact trodAll_mk0
 | t :: ts,vs,ds,ps,ha,h,hlt,hsp=>by
  obtain ⟨v,vs',d,ds',p,q,rfl,rfl,rfl,h1,h2⟩:=trodAll_cons h
  simp only [List.all_cons,Bool.and_eq_true,decide_eq_true_eq] at ha
  refine trodAll_cons_mk (WideElems.Trod_stays hl ha.1.1 ha.1.2 h1 (fun x hx=>hb.same (hlt x (List.mem_append_left _ hx))) fun x hx=>hsp x (List.mem_append_left _ hx)) ?_
  exact stays hl hb (by simpa using ha.2) h2 (fun x hx=>hlt x (List.mem_append_right _ hx)) fun x hx=>hsp x (List.mem_append_right _ hx)
theorem post_law {f : Func} {s : ChangeSpec} {apart fresh handsOn again : Bool} {W W' : World} {args : Array Value} {v : Value} {ds gs : List (DataW H)} {before : List MemPlace} {tb : TypeId}
  (hW : DataW.Whole enc P f.params.toList s.vars apart W args.toList ds gs before) (hb : Below W.heap.size W W') (hl : laidOutB P = true)
  (hrd : (f.params.toList.all fun t=>P.readableRec t && decide (t < P.types.size)) = true) (hs : s.vars = []) (hrt : f.resultTypes = #[tb]) (hub : P.underlying tb = some .bool) (hv : v = .bool true)
  (hres : (s.fn H (ds ++ gs)).results = [.lit (.bool true)]) (hargs : (s.fn H (ds ++ gs)).args = ds) (hvars : (s.fn H (ds ++ gs)).vars = []) : s.post enc P f apart fresh handsOn again W args v W':=by
 subst hv
 have hlt:=hW.lt
 have hW':=hW
 obtain ⟨p,q,hA,hV,rfl,hz,hn⟩:=hW
 rw [hs] at hV
 obtain ⟨rfl,rfl⟩:=trodVars_none hV
 have hsub : ∀ x ∈ p,x ∈ p ++ ([] : List MemPlace):=fun x hx=>by simpa using hx
 have harg : ∀ sp : Nat → Bool,(∀ x ∈ p ++ ([] : List MemPlace),sp x.block = true) → DataW.TrodAll enc P W' 0 sp true f.params.toList args.toList (s.fn H (ds ++ [])).args p:=fun sp hsp=>by
  rw [hargs]
  exact stays hl hb hrd hA (fun x hx=>hlt x (hsub x hx)) fun x hx=>hsp x (hsub x hx)
 have hvar : ∀ sp : Nat → Bool,DataW.TrodVars enc P W' sp s.vars (s.fn H (ds ++ [])).vars []:=fun sp=>by rw [hs,hvars]; exact rfl
 have hr : ∀ (b : Nat) (sp : Nat → Bool) (hd : Bool),DataW.TrodAll enc P W' b sp hd f.resultTypes.toList ((Value.bool true).resultList f.resultTypes.size) (s.fn H (ds ++ [])).results []:=fun b sp hd=>by
  rw [hres,hrt]
  exact trodAll_cons_mk (shut_bool hub _) trodAll_mk0
 have hold : ∀ x ∈ p ++ ([] : List MemPlace),(fun b=>decide (b < W.heap.size)) x.block = true:=fun x hx=>by simpa using hlt x hx
 refine ⟨ds,[],p ++ [],[],p,[],hW',hr _ _ _,harg _ hold,hvar _,World.keptBut_mono (fun x hx=>⟨hx, ?_⟩) (hb.frame (· ∈ p ++ [])),fun _=>?_⟩
 ·simpa using hx
 ·refine ⟨ok_one hrt rfl (okWide_bool_mk hub _),_,_,([] ++ p) ++ [],⟨[] ++ p,[],trodAll_append (harg _ (fun _ _=>rfl)) (hr _ _ _),hvar _,rfl, ?_, ?_⟩, ?_⟩
  ·intro b off hp
   have hp' : MemPlace.cell b off ∈ p ++ ([] : List MemPlace):=by simpa using hp
   rw [hb.frozen (p:=⟨b,off,none⟩) (hlt _ hp')]
   exact hz b off hp'
  ·intro ha
   simpa using hn ha
  ·intro x hx _
   simpa using hx
end
end Go.Proofs.YtahgmdbioafmbaaGreatDoor.V
namespace Go.Proofs.YtahgmdbioafmbaaGreatDoor.V
open Go Go.ChangeShapes Go.WideShapes Go.RowKit
set_option linter.unusedVariables false
def lst4 : List (String × DataW Unit):=[("math/bits.deBruijn32tab",Rows.laid_math_bits_deBruijn32tab),("math/bits.deBruijn64tab",Rows.laid_math_bits_deBruijn64tab),("internal/strconv.uint64pow10",Rows.laid_internal_strconv_uint64pow10),("scantling/heads.readies",Rows.laid_scantling_heads_readies)]
def lst : List (String × DataW Unit):=[("math/bits.deBruijn32tab",Rows.laid_math_bits_deBruijn32tab),("math/bits.deBruijn64tab",Rows.laid_math_bits_deBruijn64tab),("internal/strconv.uint64pow10",Rows.laid_internal_strconv_uint64pow10),("scantling/heads.readies",Rows.laid_scantling_heads_readies),("scantling/next.steps",Rows.laid_scantling_next_steps)]
theorem cells_of_bools {H : Type} {enc : TypeId × Value → H} {P : Program} {w : World} {base : Nat} {sp : Nat → Bool} {held : Bool} {fuel : Nat} {t e : TypeId} {n : Nat} {cs : List Value} {bs : List Bool} {p : List MemPlace}
  (ht : P.underlying t = some (.array n e)) (he : P.underlying e = some .bool) (hce : P.cellsOf e = 1) (hct : P.cellsOf t = n)
  (h : DataW.trod enc P w base sp held fuel t cs = some (.agg (bs.map fun b=>.lit (.bool b)),p)) : cs = bs.map Value.bool:=by
 obtain ⟨xs,m,rfl,hx,hl,hn,hf⟩:=DataW.trod_array ht h
 have hx1:=congrArg Prod.fst hx
 simp only [DataW.agg.injEq] at hx1
 have hbl : bs.length = n:=by
  have:=congrArg List.length hx1
  simp at this; omega
 apply List.ext_getElem?
 intro i
 by_cases hi : i < n
 ·have h1:=hf i hi
  rw [hce,Nat.mul_one,List.getElem?_eq_getElem (by omega)] at h1
  obtain ⟨b,hc,hb⟩:=DataW.trod_bool he h1
  have h2 : cs[i]? = some (.bool b):=by
   have:=congrArg (·[0]?) hc
   simpa [List.getElem?_take,List.getElem?_drop] using this
  have h3 : (bs.map fun b=>(DataW.lit (.bool b) : DataW H))[i]? = some (.lit (.bool b)):=by
   rw [hx1,List.getElem?_map,List.getElem?_eq_getElem (by omega),hb]; rfl
  rw [List.getElem?_map,Option.map_eq_some_iff] at h3
  obtain ⟨b',hb',e⟩:=h3
  cases e
  rw [h2,List.getElem?_map,hb']; rfl
 ·rw [List.getElem?_eq_none (by omega),List.getElem?_eq_none (by simp; omega)]
def nameB1 : List UInt8:=[40,115,99,97,110,116,108,105,110,103,47,110,101,120,116,46,115,116,101,112,41,46,110,111,100,101]
def nameB3 : List UInt8:=[40,115,99,97,110,116,108,105,110,103,47,110,101,120,116,46,115,116,101,112,41,46,116,101,120,116]
def nameB4 : List UInt8:=[40,115,99,97,110,116,108,105,110,103,47,110,101,120,116,46,115,116,101,112,41,46,104,97,108,102]
def stepsD : DataW Unit:=.map [(.int .i64 1,.iface "func" (.lit (.string nameB1))),(.int .i64 3,.iface "func" (.lit (.string nameB3))),(.int .i64 4,.iface "func" (.lit (.string nameB4)))]
def stepsL : List (Lit × DataW (List UInt8)):=[(.int .i64 1,.held nameB1),(.int .i64 3,.held nameB3),(.int .i64 4,.held nameB4)]
theorem key_int {P : Program} {k : TypeId} (hk : P.underlying k = some (.int .i64)) {v : Value} {l : Lit} (h : keyOf P k v = some l) : ∃ n : Int,v = .int .i64 n ∧ l = .int .i64 n ∧ InR .i64 n:=by
 rw [keyOf_int hk] at h
 unfold mapKey at h
 rw [hk] at h
 cases v <;> simp at h
 obtain ⟨⟨rfl,h2⟩,rfl⟩:=h
 exact ⟨_,rfl,rfl,by simpa [Lit.wf,InR] using h2⟩
theorem one_of_formed {P : Program} {t : TypeId} {ps rs : Array TypeId} {va : Bool} {v : Value} (ht : P.underlying t = some (.func ps rs va)) (h : v.formed P t = true) : v.cells.toList = [v]:=by
 cases v <;> simp [Value.formed,ht] at h <;> rfl
def entY (e : MapEntry) : Int × Option Nat:=match e.key with | .int _ n=>(n,mget gfmS n none) | _=>(0,none)
def entL (q : Lit × DataW (List UInt8)) : Int × Option Nat:=match q.1 with | .int _ n=>(n,mget gfmS n none) | _=>(0,none)
def Steps (W : World) : Prop:=∃ m t fr es clock ys,W.heap[0]? = some (.cells #[.map (some m)] t fr) ∧ W.heap[m]? = some (.map es clock) ∧ Fmst es clock ys ∧ ys.Perm gfmS
theorem steps_of_funcs {W : World} (h : funcsAt Tryz.prog W "scantling/next.steps" stepsD) : Steps W:=by
 obtain ⟨g,t,cs,fuel,p,hg,ht,hv,hd⟩:=h
 have hg' : Tryz.prog.globalNamed "scantling/next.steps" = some 0:=by kernel_rfl
 have hty : (Tryz.prog.globals[0]?).map (·.type) = some 167:=by kernel_rfl
 obtain rfl:=Option.some.inj (hg'.symm.trans hg)
 obtain rfl:=Option.some.inj (hty.symm.trans ht)
 have e : DataW.funcsOut stepsD = .map stepsL:=by kernel_rfl
 rw [e] at hd
 have hkt : Tryz.prog.underlying 3 = some (.int .i64):=Tryz.underlying3
 rcases WideElems.open_map Tryz.underlying167 hd with ⟨_,hx⟩ | ⟨m,es,clock,n,rfl,hcs,hb,_,F,hx⟩
 ·simp at hx
 ·simp only [Prod.mk.injEq,DataW.map.injEq] at hx
  have hp : stepsL.Perm (es.toList.map (WideElems.rg Tryz.prog 3 (WideElems.elemAt (funcToken Tryz.prog) Tryz.prog W 0 (fun _=>true) true n 165))):=by
   rw [hx.1]; exact sorted_perm _
  have ent : ∀ x ∈ es.toList,∃ i : Int,x.key = .int .i64 i ∧ InR .i64 i ∧ entL (WideElems.rg Tryz.prog 3 (WideElems.elemAt (funcToken Tryz.prog) Tryz.prog W 0 (fun _=>true) true n 165) x) = (i,mget gfmS i none) ∧ x.val = fidV (mget gfmS i none):=by
   intro x hx'
   obtain ⟨y,hy⟩:=F.reads x hx'
   have hrg:=WideElems.rg_of hy
   have hm : y ∈ stepsL:=hp.mem_iff.2 (List.mem_map.2 ⟨x,hx',hrg⟩)
   obtain ⟨i,hk1,hk2,hk3⟩:=key_int hkt (WideElems.rd_key hy)
   obtain ⟨z,hz1,hz2⟩:=WideElems.rd_val hy
   unfold WideElems.elemAt at hz1
   split at hz1
   case isFalse=>cases hz1
   rename_i hf
   rw [one_of_formed Tryz.underlying165 hf] at hz1
   refine ⟨i,hk1,hk3,by rw [hrg]; simp only [entL,hk2], ?_⟩
   unfold stepsL at hm
   simp only [List.mem_cons,List.not_mem_nil,or_false] at hm
   rcases hm with rfl | rfl | rfl
   ·simp only [Lit.int.injEq,true_and] at hk2
    subst hk2
    obtain ⟨z1,z2⟩:=z
    simp only at hz2
    subst hz2
    exact func_of_trod (f0:=209) Tryz.underlying165 (by kernel_rfl) hz1
   ·simp only [Lit.int.injEq,true_and] at hk2
    subst hk2
    obtain ⟨z1,z2⟩:=z
    simp only at hz2
    subst hz2
    exact func_of_trod (f0:=210) Tryz.underlying165 (by kernel_rfl) hz1
   ·simp only [Lit.int.injEq,true_and] at hk2
    subst hk2
    obtain ⟨z1,z2⟩:=z
    simp only at hz2
    subst hz2
    exact func_of_trod (f0:=207) Tryz.underlying165 (by kernel_rfl) hz1
  obtain ⟨o,ho,hcell⟩ : ∃ t fr,W.heap[0]? = some (.cells #[.map (some m)] t fr):=by
   unfold World.var? at hv
   rw [hg'] at hv
   simp only [Option.bind_some] at hv
   split at hv
   ·rename_i cs' t' fr' hc
    refine ⟨t',fr', ?_⟩
    rw [hc]
    simp only [Option.some.injEq] at hv
    rw [hv,← Array.toArray_toList (xs:=cs),hcs]
   ·cases hv
  refine ⟨m,o,ho,es,clock,es.toList.map entY,hcell,hb,⟨F.stamped,by simp,fun i e q h1 h2=>?_⟩, ?_⟩
  ·have hm:=List.mem_of_getElem? h1
   obtain ⟨j,hk1,hk3,_,hval⟩:=ent e hm
   rw [List.getElem?_map,h1] at h2
   simp only [Option.map_some,Option.some.injEq] at h2
   subst h2
   have hr:=inR_i64.1 hk3
   simp only [entY,hk1]
   exact ⟨trivial,hr,hval⟩
  ·have h3:=(hp.map entL).symm
   have e1 : stepsL.map entL = gfmS:=by kernel_rfl
   rw [e1,List.map_map] at h3
   refine List.Perm.trans (List.Perm.of_eq (List.map_congr_left fun x hx'=>?_)) h3
   obtain ⟨j,hk1,_,hL,_⟩:=ent x hx'
   simp only [Function.comp,entY,hk1]
   exact hL.symm
def Tabs (W : World) : Prop:=(Lib.TabIs Tryz.prog W "internal/strconv.uint64pow10" .u64 Lib.pow10Tab ∧ W.var? Tryz.prog "scantling/heads.readies" = some (gdat1.map Value.bool).toArray) ∧ Steps W
theorem tab_of_laid {W : World} (h : laidMetH Tryz.prog lst W) : Tabs W:=by
 have hs : ("scantling/next.steps",(DataW.iface "func table" stepsD : DataW Unit)) ∈ lst:=by
  have e : (Rows.laid_scantling_next_steps : DataW Unit) = DataW.iface "func table" stepsD:=by kernel_rfl
  unfold lst
  rw [e]
  simp
 have h3:=steps_of_funcs (h.funcs hs)
 have e0 : laidMetH Tryz.prog lst W = (laidMet Tryz.prog lst4 W ∧ handlesMet Tryz.prog [("scantling/next.steps",Rows.laid_scantling_next_steps)] W):=by kernel_rfl
 rw [e0] at h
 have h':=h.1
 unfold lst4 at h'
 refine ⟨⟨?_, ?_⟩,h3⟩
 ·have e : (Rows.laid_internal_strconv_uint64pow10 : DataW Unit) = Lib.tabData .u64 Lib.pow10Tab:=by kernel_rfl
  have h2:=h'.tail.tail
  rw [e] at h2
  exact Lib.tabIs_of_head (g:=2) (t:=227) (e:=49) (n:=20) (by kernel_rfl) (by kernel_rfl) Tryz.underlying227 Tryz.underlying49 (by kernel_rfl) (by kernel_rfl) h2
 ·have e : (Rows.laid_scantling_heads_readies : DataW Unit) = .agg (gdat1.map fun b=>.lit (.bool b)):=by kernel_rfl
  have h2:=h'.tail.tail.tail
  rw [e] at h2
  obtain ⟨ps,⟨g',t',cs,fuel,p,q,hg',ht',hvar,hd,_,_⟩,_⟩:=h2
  have hg : Tryz.prog.globalNamed "scantling/heads.readies" = some 1:=by kernel_rfl
  have hty : (Tryz.prog.globals[1]?).map (·.type) = some 213:=by kernel_rfl
  obtain rfl:=Option.some.inj (hg.symm.trans hg')
  obtain rfl:=Option.some.inj (hty.symm.trans ht')
  rw [hvar,← cells_of_bools Tryz.underlying213 (e:=4) Tryz.underlying4 (by kernel_rfl) (by kernel_rfl) hd]
theorem gl_of_tab {W : World} (h : Tabs W) : Gl ⟨W,fun _=>False,fun _ h=>h.elim⟩:=by
 obtain ⟨⟨h1,h2⟩,h3⟩:=h
 refine ⟨fun p hp=>?_,fun p hp=>?_⟩
 ·unfold gtab at hp
  rcases List.mem_cons.1 hp with rfl | hp
  ·refine ⟨fun h=>h, ?_⟩
   unfold Lib.TabIs World.var? at h1
   have hg : Tryz.prog.globalNamed "internal/strconv.uint64pow10" = some 2:=by kernel_rfl
   rw [hg] at h1
   simp only [Option.bind_some] at h1
   split at h1
   ·rename_i cs t fr hc
    refine ⟨t,fr, ?_⟩
    show W.heap[2]? = _
    rw [hc]
    simp only [Option.some.injEq] at h1
    rw [h1]
    simp [Lib.pow10Tab]
   ·cases h1
  ·obtain rfl:=List.mem_singleton.1 hp
   refine ⟨fun h=>h, ?_⟩
   unfold World.var? at h2
   have hg : Tryz.prog.globalNamed "scantling/heads.readies" = some 1:=by kernel_rfl
   rw [hg] at h2
   simp only [Option.bind_some] at h2
   split at h2
   ·rename_i cs t fr hc
    refine ⟨t,fr, ?_⟩
    show W.heap[1]? = _
    rw [hc]
    simp only [Option.some.injEq] at h2
    rw [h2]
   ·cases h2
 ·unfold gmap at hp
  obtain rfl:=List.mem_singleton.1 hp
  obtain ⟨m,t,fr,es,clock,ys,k1,k2,k3,k4⟩:=h3
  exact ⟨fun h=>h,m,t,fr,es,clock,ys,k1,fun h=>h,k2,k3,k4⟩
noncomputable def laidWorld (os : Os) : World:=World.doorLaid Tryz.prog 400 os
theorem laid_met (os : Os) (args : Array Value) : laidMetH Tryz.prog lst ((laidWorld os).forCall (fun _ _=>0) ⟨#[],args,[]⟩).memory:=
 laidMetH_of_parts3 (fuel:=8) (laidMet_of_run' 8 (by kernel_rfl) (by kernel_rfl)) (by kernel_rfl) (by kernel_rfl)
theorem weigh {H : Type} {P : Program} {ts : List TypeId} {ds : List (DataW H)} (h : (DataW.weightsEach P ts ds).all (· ≤ reachBytes) = true) (j : Nat) {t : TypeId} {d : DataW H} (ht : ts[j]? = some t) (hd : ds[j]? = some d) : ∀ n ∈ d.weights P t,n ≤ reachBytes:=fun n hn=>by
 have:=List.all_eq_true.1 h n (DataW.weights_mem_each ht hd n hn)
 simpa using this
end Go.Proofs.YtahgmdbioafmbaaGreatDoor.V
