/-
  The texts that the law's proof needs, part 5.
-/
import Derived.Carry
import Derived.ChangeSame
import Derived.Deep.Slices
import Derived.Handed
import Derived.KernelRfl
import Derived.LaidHandle
import Derived.LaidLaws
import Derived.Laws.BytesArg
import Derived.Lib.LaidTab
import Derived.OpenShut
import Derived.ProofKit
import Derived.RowKit
import Derived.SizedLaws
import Derived.Stop.LaidErr
import Derived.Test.YtdidjelkkanenaaDoorRows
import Derived.WalkKit
import Derived.Test.YtdidjelkkanenaaDoorHeadsWaysP4
namespace Go.Proofs.YtdidjelkkanenaaDoor.V
open Go
set_option linter.unusedVariables false
def CV (d : List SNode) : Nat → Int → List (List SItem)
  | 0, _ => []
  | k + 1, i => match at? d i with
    | none => []
    | some n =>
      if n.1 = 1 then []
      else if n.1 = 3 then [[(3, i, 0, 0)]]
      else if n.1 = 4 then (CV d k n.2.1).map (· ++ [(1, n.2.2.1, 0, 0)]) ++ CV d k n.2.2.1
      else if n.1 = 5 then CV d k n.2.1 ++ CV d k n.2.2.1
      else if n.1 = 6 then (CV d k n.2.1).map (· ++ [(1, i, 0, 0)])
      else if n.1 = 7 then (CV d k n.2.1).map (· ++ [(2, i, max (n.2.2.2.1 - 1) 0, n.2.2.2.2.1 - 1)])
      else [[(1, i, 0, 0)]]
theorem CV_len (d : List SNode) : ∀ (k : Nat) (i : Int), (CV d k i).length ≤ 2 ^ k
  | 0, i => by simp [CV]
  | k + 1, i => by
    have h2 : 2 ^ (k + 1) = 2 ^ k + 2 ^ k := by rw [Nat.pow_succ]; omega
    have hp : 0 < 2 ^ k := Nat.pow_pos (by omega)
    unfold CV
    cases at? d i with
    | none => simp
    | some n =>
      have a := CV_len d k n.2.1
      have b := CV_len d k n.2.2.1
      simp only
      by_cases h1 : n.1 = 1
      · simp [h1]
      · by_cases h3 : n.1 = 3
        · simp [h3]; omega
        · by_cases h4 : n.1 = 4
          · simp [h4]; omega
          · by_cases h5 : n.1 = 5
            · simp [h5]; omega
            · by_cases h6 : n.1 = 6
              · simp [h6]; omega
              · by_cases h7 : n.1 = 7
                · simp [h7]; omega
                · simp [h1, h3, h4, h5, h6, h7]; omega
theorem PM_CV (d : List SNode) : ∀ (k : Nat) (i : Int), ∀ p ∈ (PM d k i).1, p ∈ CV d k i
  | 0, i, p, hp => by simp [PM] at hp
  | k + 1, i, p, hp => by
    unfold PM at hp
    unfold CV
    cases hn : at? d i with
    | none => rw [hn] at hp; simp at hp
    | some n =>
      rw [hn] at hp
      have a := PM_CV d k n.2.1
      have b := PM_CV d k n.2.2.1
      simp only at hp ⊢
      by_cases h1 : n.1 = 1
      · simp [h1] at hp
      · rw [if_neg h1] at hp ⊢
        by_cases h3 : n.1 = 3
        · rw [if_pos h3] at hp ⊢; exact hp
        · rw [if_neg h3] at hp ⊢
          by_cases h4 : n.1 = 4
          · rw [if_pos h4] at hp ⊢
            rcases List.mem_append.1 hp with hp | hp
            · obtain ⟨q, hq, rfl⟩ := List.mem_map.1 hp
              exact List.mem_append.2 (.inl (List.mem_map.2 ⟨q, a q hq, rfl⟩))
            · obtain ⟨l, hl, hp⟩ := List.mem_flatten.1 hp
              rw [List.mem_replicate.1 hl |>.2] at hp
              exact List.mem_append.2 (.inr (b p hp))
          · rw [if_neg h4] at hp ⊢
            by_cases h5 : n.1 = 5
            · rw [if_pos h5] at hp ⊢
              rcases List.mem_append.1 hp with hp | hp
              · exact List.mem_append.2 (.inl (a p hp))
              · exact List.mem_append.2 (.inr (b p hp))
            · rw [if_neg h5] at hp ⊢
              by_cases h6 : n.1 = 6
              · rw [if_pos h6] at hp ⊢
                obtain ⟨q, hq, rfl⟩ := List.mem_map.1 hp
                exact List.mem_map.2 ⟨q, a q hq, rfl⟩
              · rw [if_neg h6] at hp ⊢
                by_cases h7 : n.1 = 7
                · rw [if_pos h7] at hp ⊢
                  simp only at hp
                  split at hp
                  · obtain ⟨q, hq, rfl⟩ := List.mem_map.1 hp
                    exact List.mem_map.2 ⟨q, a q hq, rfl⟩
                  · cases hp
                · rw [if_neg h7] at hp ⊢; exact hp
def CI (d : List SNode) (x : SItem) : List (List SItem) :=
  if x.1 = 1 then CV d d.length x.2.1
  else if x.1 = 2 then (match at? d x.2.1 with | some n => (CV d d.length n.2.1).map (· ++ [(2, x.2.1, max (x.2.2.1 - 1) 0, x.2.2.2 - 1)]) | none => [])
  else [[x]]
theorem CI_len (d : List SNode) (x : SItem) : (CI d x).length ≤ 2 ^ d.length := by
  have hp : 0 < 2 ^ d.length := Nat.pow_pos (by omega)
  unfold CI
  split
  · exact CV_len _ _ _
  · split
    · split
      · rw [List.length_map]; exact CV_len _ _ _
      · simp
    · simp; omega
def CS (d : List SNode) : List SItem → List (List SItem)
  | [] => [[]]
  | x :: rest => (CI d x).map (· ++ rest) ++ CS d rest
theorem CS_len (d : List SNode) : ∀ s : List SItem, (CS d s).length ≤ s.length * 2 ^ d.length + 1
  | [] => by simp [CS]
  | x :: rest => by
    have h1 := CS_len d rest
    have h2 := CI_len d x
    simp only [CS, List.length_append, List.length_map, List.length_cons, Nat.succ_mul]
    omega
theorem pmI_CI (d : List SNode) (x : SItem) : ∀ p ∈ pmI d x, p ∈ CI d x := by
  intro p hp
  unfold pmI at hp
  unfold CI
  by_cases h1 : x.1 = 1
  · rw [if_pos h1] at hp ⊢; exact PM_CV d _ _ p hp
  · rw [if_neg h1] at hp ⊢
    by_cases h2 : x.1 = 2
    · rw [if_pos h2] at hp ⊢
      cases hn : at? d x.2.1 with
      | none => rw [hn] at hp; cases hp
      | some n =>
        rw [hn] at hp
        simp only at hp ⊢
        split at hp
        · obtain ⟨q, hq, rfl⟩ := List.mem_map.1 hp
          exact List.mem_map.2 ⟨q, PM_CV d _ _ q hq, rfl⟩
        · cases hp
    · rw [if_neg h2] at hp ⊢
      split at hp
      · cases hp
      · exact hp
theorem hds_CS (d : List SNode) : ∀ (s : List SItem), ∀ t ∈ hds d s, t ∈ CS d s
  | [], t, ht => ht
  | x :: rest, t, ht => by
    rcases List.mem_append.1 ht with ht | ht
    · obtain ⟨q, hq, rfl⟩ := List.mem_map.1 ht
      exact List.mem_append.2 (.inl (List.mem_map.2 ⟨q, pmI_CI d x q hq, rfl⟩))
    · obtain ⟨l, hl, hp⟩ := List.mem_flatten.1 ht
      rw [List.mem_replicate.1 hl |>.2] at hp
      exact List.mem_append.2 (.inr (hds_CS d rest t hp))
structure BrOk (l : List SBranch) : Prop where
  many : ∀ b ∈ l, 0 ≤ b.2 ∧ b.2 ≤ 2
  len : ∀ b ∈ l, b.1.length ≤ 1000
theorem addB_split {s : List SItem} {many : Int} : ∀ (l : List SBranch) (i : Nat), (∀ b ∈ l.take i, ¬ cmpS s b.1 = 0 ∧ ¬ cmpS s b.1 < 0) → addB s many l = l.take i ++ addB s many (l.drop i)
  | l, 0, _ => rfl
  | [], i + 1, _ => by simp
  | b :: l, i + 1, h => by
    have hb := h b (by simp)
    conv => lhs; unfold addB
    rw [if_neg hb.1, if_neg hb.2, addB_split l i fun c hc => h c (by simp [hc])]
    rfl
theorem ref14_Add_in {l : List SBranch} (hs : l.Pairwise (fun a b => cmpS a.1 b.1 < 0)) (hb : BrOk l) (hl : l.length ≤ 2000000000) {s : List SItem} (hsl : s.length ≤ 1000) {many : Int} (hm : 0 ≤ many ∧ many ≤ 2) : ref14_Add l s many (addB s many l) := by
  refine uptoK (P := fun k (q : List SBranch × Bool) v => ref14_Add.l1 l s many _ k q.1 q.2 v) l.length
    (fun i q => (q.2 = false → q.1 = l.take i ∧ ∀ b ∈ l.take i, ¬ cmpS s b.1 = 0 ∧ ¬ cmpS s b.1 < 0) ∧ (q.2 = true → q.1 ++ l.drop i = addB s many l ∧ ∀ b ∈ l.drop i, cmpS s b.1 < 0)) ?_ ?_ ([], false) ⟨fun _ => ⟨by simp, by simp⟩, (fun h => by cases h)⟩
  · rintro i ⟨out, done⟩ k hi ⟨h1, h2⟩ hk
    have hol : out.length ≤ l.length + 1 := by
      cases done
      · have k1 := (h1 rfl).1
        simp only at k1
        rw [k1]; simp; omega
      · have := congrArg List.length (h2 rfl).1
        have h3 := addB_len s many l
        simp at this; omega
    have hbm : l[i] ∈ l := List.getElem_mem hi
    have hmb := hb.many _ hbm
    have hlb := hb.len _ hbm
    have hat : at? l (i : Int) = some l[i] := by rw [at_nat]; simp [hi]
    have hdr : l.drop i = l[i] :: l.drop (i + 1) := (List.getElem_cons_drop hi).symm
    have htk : l.take (i + 1) = l.take i ++ [l[i]] := List.take_succ_eq_append_getElem hi
    have hsrt : ∀ b ∈ l.drop (i + 1), cmpS l[i].1 b.1 < 0 := by
      have := hs.sublist (List.drop_sublist i l)
      rw [hdr, List.pairwise_cons] at this
      exact this.1
    refine ⟨fun _ => ⟨l[i], hat, _, ref13_Compare_in hsl hlb, fun h0 => ?_, fun h0 => ⟨fun hc => ?_, fun hc => ?_⟩⟩, fun h => absurd (by omega) (df h)⟩
    · have e0 : cmpS s l[i].1 = 0 := by simpa using h0
      refine ⟨l[i], hat, i64_of (by omega) (by omega), by simp; omega, i64_of (by omega) (by omega), hk (out ++ [(s, min 2 (l[i].2 + many))], true) ⟨(fun h => by cases h), fun _ => ?_⟩⟩
      cases done
      · obtain ⟨k1, k2⟩ := h1 rfl
        simp only at k1
        refine ⟨?_, fun b hbb => by rw [cmpS_zero.1 e0]; exact hsrt b hbb⟩
        rw [addB_split l i k2, hdr, k1]
        conv => rhs; unfold addB
        rw [if_pos e0]; simp
      · obtain ⟨k1, k2⟩ := h2 rfl
        have := k2 l[i] (hdr ▸ List.mem_cons_self)
        omega
    · simp only [Bool.and_eq_true, decide_eq_true_eq, Bool.not_eq_true'] at hc
      obtain ⟨c1, c2⟩ := hc
      subst c2
      obtain ⟨k1, k2⟩ := h1 rfl
      simp only at k1
      refine ⟨by simp; omega, l[i], hat, by simp; omega, i64_of (by omega) (by omega), hk (out ++ [(s, many)] ++ [l[i]], true) ⟨(fun h => by cases h), fun _ => ⟨?_, fun b hbb => cmpS_trans c1 (hsrt b hbb)⟩⟩⟩
      rw [addB_split l i k2, hdr, k1]
      conv => rhs; unfold addB
      rw [if_neg (by omega), if_pos c1]; simp
    · have e0 : ¬ cmpS s l[i].1 = 0 := by simpa using h0
      refine ⟨l[i], hat, by simp; omega, i64_of (by omega) (by omega), hk (out ++ [l[i]], done) ⟨fun hd => ?_, fun hd => ?_⟩⟩
      · simp only at hd
        subst hd
        obtain ⟨k1, k2⟩ := h1 rfl
        simp only at k1
        simp only [Bool.not_false, Bool.and_true, decide_eq_false_iff_not] at hc
        refine ⟨by rw [htk, k1], fun b hbb => ?_⟩
        rw [htk] at hbb
        rcases List.mem_append.1 hbb with hbb | hbb
        · exact k2 b hbb
        · rw [List.mem_singleton.1 hbb]; exact ⟨e0, hc⟩
      · simp only at hd
        subst hd
        obtain ⟨k1, k2⟩ := h2 rfl
        refine ⟨?_, fun b hbb => k2 b (hdr ▸ List.mem_cons_of_mem _ hbb)⟩
        rw [← k1, hdr]; simp
  · rintro ⟨out, done⟩ ⟨h1, h2⟩ k
    refine ⟨fun h => absurd (dt h) (by omega), fun _ => ⟨fun hd => ?_, fun hd => ?_⟩⟩
    · have hd' : done = false := by simpa using hd
      subst hd'
      obtain ⟨k1, k2⟩ := h1 rfl
      simp only at k1
      rw [List.take_length] at k1
      refine ⟨by rw [k1]; simp; omega, ?_⟩
      rw [addB_split l l.length k2, k1]
      simp [addB]
    · have hd' : done = true := by simpa using hd
      subst hd'
      obtain ⟨k1, k2⟩ := h2 rfl
      rw [← k1]; simp
theorem Can.brok {f : List SItem → Nat} {B : List SBranch} (h : Can f B) (hl : ∀ t, f t ≠ 0 → t.length ≤ 1000) : BrOk B :=
  ⟨fun b hb => by have := (h.many hb).2.2; omega, fun b hb => hl _ (h.many hb).2.1⟩
theorem into_in {d : List SNode} (hd : ROk d) (hdl : d.length ≤ 400) (hd0 : ∃ n, at? d 0 = some n) (U : List (List SItem)) (hU : U.length ≤ 1000000000) (hU1 : ∀ t ∈ U, t.length ≤ 1000) : ∀ (h : Nat) (s : List SItem) (L : List (List SItem)), lv d h s = some L → Vs d 400 s → ∀ (f : List SItem → Nat) (B : List SBranch), Can f B → (∀ t, f t ≠ 0 → t ∈ U) → (∀ t ∈ L, t ∈ U) → ∃ r, ref14_into.n h d s B r ∧ Can (fun t => f t + L.count t) r
  | 0, s, L, hL, _, _, _, _, _, _ => by simp [lv] at hL
  | h + 1, s, L, hL, hv, f, B, hB, hf, hLU => by
    have hlen := hv.len
    have hBl := can_len hB hf
    have hBo := hB.brok fun t ht => hU1 t (hf t ht)
    cases hr : rdy d s with
    | true =>
      have e : L = [s] := by
        unfold lv at hL
        rw [if_pos hr] at hL; exact (Option.some.inj hL).symm
      subst e
      refine ⟨addB s 1 B, ⟨true, hr ▸ ref14_Ready_in hv.form hd0, fun _ => ⟨s, ahead_in (by simp) (by omega), _, ref14_Add_in hB.srt hBo (by omega) (by omega) (by omega), rfl⟩, (fun h => by cases h)⟩, ?_⟩
      refine (hB.add s (n := 1) (by omega)).congr fun t => ?_
      simp only [List.count_singleton, beq_iff_eq]
      by_cases ht : t = s
      · subst ht; simp
      · simp [ht, Ne.symm ht]
    | false =>
      have hopn := hv.opn hd hr
      obtain ⟨ls, hls, hlf⟩ : ∃ ls, (opn d s).mapM (lv d h) = some ls ∧ ls.flatten = L := by
        unfold lv at hL
        rw [if_neg (by rw [hr]; simp)] at hL
        exact Option.map_eq_some_iff.1 hL
      have hlsl : ls.length = (opn d s).length := mapM_len hls
      have hol := opn_len (d := d) s
      have key : ∀ (m i : Nat) (B' : List SBranch), i + m = (opn d s).length → Can (fun t => f t + (ls.take i).flatten.count t) B' → ∃ (r : List SBranch) (k : Nat), ref14_into.l1 (ref14_into.n h) d (opn d s) (ref14_into.j1 r) k B' (i : Int) ∧ Can (fun t => f t + L.count t) r := by
        intro m
        induction m with
        | zero =>
          intro i B' hi hB'
          refine ⟨B', 1, ⟨fun h => absurd (dt h) (by omega), fun _ => rfl⟩, ?_⟩
          rw [List.take_of_length_le (by omega), hlf] at hB'
          exact hB'
        | succ m ih =>
          intro i B' hi hB'
          have hil : i < (opn d s).length := by omega
          obtain ⟨li, h1, h2⟩ := mapM_at hls hil
          have hsub : ∀ t ∈ li, t ∈ L := fun t ht => by
            rw [← hlf]; exact List.mem_flatten.2 ⟨li, List.mem_of_getElem? h2, ht⟩
          have hsub2 : ∀ t, (ls.take i).flatten.count t ≠ 0 → t ∈ U := fun t ht => by
            have hp : t ∈ (ls.take i).flatten := List.count_pos_iff.1 (by omega)
            obtain ⟨l, hl, ht⟩ := List.mem_flatten.1 hp
            exact hLU t (by rw [← hlf]; exact List.mem_flatten.2 ⟨l, List.mem_of_mem_take hl, ht⟩)
          obtain ⟨r1, hr1, hr2⟩ := into_in hd hdl hd0 U hU hU1 h _ li h1 (hopn _ (List.getElem_mem hil)) _ B' hB' (fun t ht => by
            by_cases h0 : f t = 0
            · exact hsub2 t (by omega)
            · exact hf t h0) (fun t ht => hLU t (hsub t ht))
          obtain ⟨r, k, hk1, hk2⟩ := ih (i + 1) r1 (by omega) (hr2.congr fun t => by rw [take_flat h2, List.count_append, Nat.add_assoc])
          exact ⟨r, k + 1, ⟨fun _ => ⟨_, by rw [at_nat]; simp [hil], r1, hr1, i64_of (by omega) (by omega), by simpa using hk1⟩, fun h => absurd (by omega) (df h)⟩, hk2⟩
      obtain ⟨r, k, hk1, hk2⟩ := key (opn d s).length 0 B (by omega) (hB.congr fun t => by simp)
      exact ⟨r, ⟨false, hr ▸ ref14_Ready_in hv.form hd0, (fun h => by cases h), fun _ => ⟨_, ref14_Open_in hd hv.form hr (by omega) hd0, k, hk1⟩⟩, hk2⟩
theorem nodup_dups {α : Type} [BEq α] [LawfulBEq α] : ∀ (n : Nat) (l : List α), l.length ≤ n → l.eraseDups.Nodup
  | _, [], _ => by simp
  | 0, x :: l, h => by simp at h
  | n + 1, x :: l, h => by
    rw [List.eraseDups_cons, List.nodup_cons]
    refine ⟨fun hx => ?_, nodup_dups n _ (Nat.le_trans (List.length_filter_le _ _) (by simpa using h))⟩
    have := List.mem_eraseDups.1 hx
    simp at this
structure Sm (d : List SNode) (s : List SItem) : Prop where
  rt : Rt d
  len : d.length ≤ 24
  txt : ∀ n ∈ d, n.2.2.2.2.2.2.length ≤ 140737488351232
  form : formS d s = true
  slen : s.length ≤ 40
theorem Sm.dok {d : List SNode} {s : List SItem} (h : Sm d s) : DOk d := ⟨by have := h.len; omega, fun n hn => by have := h.txt n hn; omega⟩
theorem Sm.ne {d : List SNode} {s : List SItem} (h : Sm d s) : ∃ n, at? d 0 = some n := by
  have := h.rt.ne
  cases d with
  | nil => exact absurd rfl this
  | cons n d => exact ⟨n, rfl⟩
theorem Sm.vs {d : List SNode} {s : List SItem} (h : Sm d s) : Vs d 400 s := Vs.start h.form (by have := h.slen; omega)
theorem heads_both {d : List SNode} {s : List SItem} (h : Sm d s) : ∃ B, heads_Heads d s B ∧ ref14_Heads d s B ∧ Can (fun t => (hds d s).count t) B := by
  have hd := h.rt.toROk
  obtain ⟨L, ⟨k, hk⟩, hp⟩ := hds_lv hd s h.form
  have hU : (CS d s).length ≤ 1000000000 := by
    have h1 := CS_len d s
    have h2 : 2 ^ d.length ≤ 2 ^ 24 := Nat.pow_le_pow_right (by omega) h.len
    have h3 := h.slen
    have h4 : s.length * 2 ^ d.length ≤ 40 * 2 ^ 24 := Nat.mul_le_mul h3 h2
    omega
  have hLU : ∀ t ∈ L, t ∈ CS d s := fun t ht => hds_CS d s t (hp.mem_iff.1 ht)
  have hvs := lv_vs hd k s L hk h.vs
  have hLU2 : ∀ t ∈ L, t ∈ L.eraseDups := fun t ht => List.mem_eraseDups.2 ht
  have hUl : L.eraseDups.length ≤ 1000000000 := Nat.le_trans (len_sub (nodup_dups _ L (Nat.le_refl _)) fun t ht => hLU t (List.mem_eraseDups.1 ht)) hU
  have hU1 : ∀ t ∈ L.eraseDups, t.length ≤ 1000 := fun t ht => by
    have := (hvs t (List.mem_eraseDups.1 ht)).1.len
    have := h.len
    omega
  obtain ⟨B, hB1, hB2⟩ := into_in hd (by have := h.len; omega) h.ne L.eraseDups hUl hU1 k s L hk h.vs (fun _ => 0) [] Can.nil (fun t ht => absurd rfl ht) hLU2
  have hB3 : Can (fun t => L.count t) B := hB2.congr fun t => by simp
  have hBl := can_len hB3 (U := L.eraseDups) fun t ht => hLU2 t (List.count_pos_iff.1 (by omega))
  exact ⟨B, ⟨hd, h.dok, by have := h.len; omega, h.rt.ne, h.form, by have := h.slen; omega, by omega, k, L, hk, hB3⟩, ⟨B, ⟨k, hB1⟩, rfl⟩, hB3.congr fun t => by rw [hp.count_eq]⟩
end Go.Proofs.YtdidjelkkanenaaDoor.V
namespace Go.Proofs.YtdidjelkkanenaaDoor.V
open Go
set_option linter.unusedVariables false
def movN (c : Int) (n : SNode) : SNode := (n.1, if 4 ≤ n.1 then n.2.1 + c else n.2.1, if n.1 = 4 ∨ n.1 = 5 then n.2.2.1 + c else n.2.2.1, n.2.2.2.1, n.2.2.2.2.1, n.2.2.2.2.2.1, n.2.2.2.2.2.2)
def movL (c : Int) (l : List SNode) : List SNode := l.map (movN c)
theorem movL_len (c : Int) (l : List SNode) : (movL c l).length = l.length := List.length_map ..
theorem moved_in {l : List SNode} {c : Int} (hl : l.length ≤ 1000) (hr : ∀ n ∈ l, InR .i64 (n.2.1 + c) ∧ InR .i64 (n.2.2.1 + c)) : ref04_moved l c (movL c l) := by
  refine upto (P := fun k (o : List SNode) v => ref04_moved.l1 l c _ k o v) l.length (fun i o => o = movL c (l.take i)) ?_ ?_ [] (by simp [movL])
  · rintro i o hi rfl
    have hat : at? l (i : Int) = some l[i] := by rw [at_nat]; simp [hi]
    obtain ⟨r1, r2⟩ := hr _ (List.getElem_mem hi)
    have e : movL c (l.take (i + 1)) = movL c (l.take i) ++ [movN c l[i]] := by
      unfold movL
      rw [List.take_succ_eq_append_getElem hi, List.map_append]; rfl
    have hll : (movL c (l.take i)).length = i := by rw [movL_len]; simp; omega
    refine .inr ⟨_, rfl, fun k hk => ⟨fun _ => ⟨l[i], hat, ?_⟩, fun h => absurd (by omega) (df h)⟩⟩
    rw [e] at hk
    have last : ∀ w : SNode, w = movN c l[i] → ref04_moved.j2 (ref04_moved.l1 l c (ref04_moved.j1 (movL c l)) k) (movL c (l.take i)) (i : Int) w := by
      rintro w rfl
      exact ⟨by rw [hll]; simp; omega, i64_of (by omega) (by omega), hk⟩
    generalize l[i] = n at *
    obtain ⟨k0, a, b, lo, hi2, cl, tx⟩ := n
    simp only at r1 r2
    refine ⟨fun h4 => ⟨r1, fun h5 => ⟨r2, last _ ?_⟩, fun h5 => last _ ?_⟩, fun h4 => ⟨fun h5 => ?_, fun h5 => last _ ?_⟩⟩
    · have := dt h4
      simp only at this
      simp only [Bool.or_eq_true, beq_iff_eq] at h5
      simp only [movN, if_pos this, if_pos h5]
    · have := dt h4
      simp only at this
      simp only [Bool.or_eq_false_iff, beq_eq_false_iff_ne] at h5
      have h5' : ¬ (k0 = 4 ∨ k0 = 5) := by omega
      simp only [movN, if_pos this, if_neg h5']
    · exfalso
      have := df h4
      simp only at this
      simp only [Bool.or_eq_true, beq_iff_eq] at h5
      omega
    · have := df h4
      simp only at this
      have h5' : ¬ (k0 = 4 ∨ k0 = 5) := by omega
      simp only [movN, if_neg this, if_neg h5']
  · rintro o rfl k
    refine ⟨fun h => absurd (dt h) (by omega), fun _ => ?_⟩
    show movL c l = movL c (l.take l.length)
    rw [List.take_length]
theorem movN_zero (n : SNode) : movN 0 n = n := by
  obtain ⟨k, a, b, r⟩ := n
  simp [movN]
theorem movL_zero (l : List SNode) : movL 0 l = l := by
  unfold movL
  rw [show movN 0 = id from funext movN_zero, List.map_id]
def pairD (k : Int) (a b : List SNode) : List SNode := (a ++ movL (a.length : Int) b) ++ [(k, (a.length : Int) - 1, ((a.length : Int) + (b.length : Int)) - 1, 0, 0, (0#256), ([] : Str))]
def wrapD (k : Int) (a : List SNode) : List SNode := a ++ [(k, (a.length : Int) - 1, 0, 0, 0, (0#256), ([] : Str))]
structure Sma (d : List SNode) : Prop where
  a : ∀ n ∈ d, 0 ≤ n.2.1 ∧ n.2.1 ≤ (d.length : Int)
  b : ∀ n ∈ d, 0 ≤ n.2.2.1 ∧ n.2.2.1 ≤ (d.length : Int)
theorem Tr.parts {l : List SNode} {f i : Int} (h : Tr l f i) {n : SNode} (hn : at? l i = some n) : (0 ≤ n.2.1 ∧ n.2.1 ≤ i) ∧ (0 ≤ n.2.2.1 ∧ n.2.2.1 ≤ i) := by
  have hb := at_bound hn
  cases h with
  | leaf he hk hx h0 => rw [hn] at he; cases he; omega
  | one he hk ha hb hr h => rw [hn] at he; cases he; have := h.le; omega
  | two he hk ha hb h1 h2 => rw [hn] at he; cases he; have := h1.le; have := h2.le; omega
theorem mem_at {α : Type} {l : List α} {x : α} (h : x ∈ l) : ∃ i : Int, at? l i = some x := by
  obtain ⟨i, hi, e⟩ := List.mem_iff_getElem.1 h
  exact ⟨(i : Int), by rw [at_nat]; simp [hi, e]⟩
theorem Tr.sma {d : List SNode} (h : Tr d 0 ((d.length : Int) - 1)) : Sma d := by
  constructor
  all_goals
    intro n hn
    obtain ⟨i, hi⟩ := mem_at hn
    obtain ⟨g, hg⟩ := h.at hi
    have := hg.parts hi
    have := at_bound hi
    omega
theorem moved_ok {d : List SNode} (h : Tr d 0 ((d.length : Int) - 1)) (hl : d.length ≤ 1000) {c : Int} (h0 : 0 ≤ c) (h1 : c ≤ 1000) : ref04_moved d c (movL c d) :=
  moved_in hl fun n hn => by
    have := h.sma.a n hn
    have := h.sma.b n hn
    exact ⟨i64_of (by omega) (by omega), i64_of (by omega) (by omega)⟩
theorem Pair_in {k : Int} {a b : List SNode} (ha : Tr a 0 ((a.length : Int) - 1)) (hb : Tr b 0 ((b.length : Int) - 1)) (la : a.length ≤ 1000) (lb : b.length ≤ 1000) : ref04_Pair k a b (pairD k a b) := by
  refine ⟨_, moved_ok ha la (Int.le_refl 0) (by omega), _, moved_ok hb lb (c := (a.length : Int)) (by omega) (by omega), by rw [movL_len, movL_len]; omega, i64_of (by omega) (by omega), i64_of (by omega) (by omega), i64_of (by omega) (by omega), by rw [List.length_append, movL_len, movL_len]; simp; omega, ?_⟩
  rw [movL_zero]; rfl
theorem Wrap_in {k : Int} {a : List SNode} (ha : Tr a 0 ((a.length : Int) - 1)) (la : a.length ≤ 1000) : ref04_Wrap k 0 0 a (wrapD k a) := by
  refine ⟨_, moved_ok ha la (Int.le_refl 0) (by omega), i64_of (by omega) (by omega), by rw [movL_len]; simp; omega, ?_⟩
  rw [movL_zero]; rfl
structure Emb (l l' : List SNode) (c : Int) : Prop where
  nn : 0 ≤ c
  at' : ∀ i n, at? l i = some n → at? l' (i + c) = some (movN c n)
theorem Tr.emb {l l' : List SNode} {c : Int} (h : Emb l l' c) {f i : Int} (t : Tr l f i) : Tr l' (f + c) (i + c) := by
  induction t with
  | leaf he hk hx h0 =>
    rename_i i e
    have e1 : movN c e = e := by
      obtain ⟨k, a, b, r⟩ := e
      simp only at hk
      simp only [movN, if_neg (show ¬ 4 ≤ k by omega), if_neg (show ¬ (k = 4 ∨ k = 5) by omega)]
    exact .leaf (e1 ▸ h.at' _ _ he) hk hx h0
  | one he hk ha hb hr t ih =>
    rename_i f i e
    refine .one (h.at' _ _ he) hk ?_ ?_ hr (by have e : i - 1 + c = i + c - 1 := by omega
                                               rw [← e]; exact ih)
    · simp only [movN]; rw [if_pos (by omega)]; omega
    · simp only [movN]; rw [if_neg (by omega)]; exact hb
  | two he hk ha hb t1 t2 i1 i2 =>
    rename_i f p i e
    refine .two (p := p + c) (h.at' _ _ he) hk ?_ ?_ (by have e : i - 1 + c = i + c - 1 := by omega
                                                         rw [← e]; exact i1) (by have e : p - 1 + c = p + c - 1 := by omega
                                                                                 rw [← e]; exact i2)
    · simp only [movN]; rw [if_pos (by omega)]; omega
    · simp only [movN]; rw [if_pos (by omega)]; omega
theorem Emb.get {l l' : List SNode} {c : Int} (h : Emb l l' c) {i : Int} {n : SNode} (hn : at? l i = some n) : ∃ m, at? l' (i + c) = some m ∧ m.1 = n.1 ∧ (4 ≤ n.1 → m.2.1 = n.2.1 + c) ∧ (n.1 = 4 ∨ n.1 = 5 → m.2.2.1 = n.2.2.1 + c) ∧ m.2.2.2.1 = n.2.2.2.1 ∧ m.2.2.2.2.1 = n.2.2.2.2.1 :=
  ⟨movN c n, h.at' _ _ hn, rfl, fun h => if_pos h, fun h => if_pos h, rfl, rfl⟩
theorem nz_emb {l l' : List SNode} {c : Int} (h : Emb l l' c) (hl : NOk l) (hl' : NOk l') : ∀ (k : Nat) (i : Int) (n : SNode), i < (k : Int) → at? l i = some n → nz l' (i + c) = nz l i
  | 0, i, n, hi, hn => by have := at_bound hn; omega
  | k + 1, i, n, hi, hn => by
    have ih := nz_emb h hl hl' k
    obtain ⟨m, hm, f1, f2, f3, f4, f5⟩ := h.get hn
    rw [nz_atN hl hn, nz_atN hl' hm, f1, f4]
    by_cases h1 : n.1 = 1
    · rw [if_pos h1, if_pos h1]
    · rw [if_neg h1, if_neg h1]
      by_cases h4 : n.1 = 4
      · obtain ⟨⟨a, b⟩, c', e⟩ := hl.two _ n hn (.inl h4)
        obtain ⟨m1, hm1⟩ := at_lt hn a b
        obtain ⟨m2, hm2⟩ := at_lt hn c' e
        rw [if_pos h4, if_pos h4, f2 (by omega), f3 (.inl h4), ih _ m1 (by omega) hm1, ih _ m2 (by omega) hm2]
      · rw [if_neg h4, if_neg h4]
        by_cases h5 : n.1 = 5
        · obtain ⟨⟨a, b⟩, c', e⟩ := hl.two _ n hn (.inr h5)
          obtain ⟨m1, hm1⟩ := at_lt hn a b
          obtain ⟨m2, hm2⟩ := at_lt hn c' e
          rw [if_pos h5, if_pos h5, f2 (by omega), f3 (.inr h5), ih _ m1 (by omega) hm1, ih _ m2 (by omega) hm2]
        · rw [if_neg h5, if_neg h5]
          by_cases h6 : n.1 = 6
          · rw [if_pos h6, if_pos h6]
          · rw [if_neg h6, if_neg h6]
            by_cases h7 : n.1 = 7
            · obtain ⟨a, b⟩ := hl.one _ n hn (.inr (.inl h7))
              obtain ⟨m1, hm1⟩ := at_lt hn a b
              rw [if_pos h7, if_pos h7, f2 (by omega), ih _ m1 (by omega) hm1]
            · rw [if_neg h7, if_neg h7]
def shI (c : Int) (x : SItem) : SItem := (x.1, x.2.1 + c, x.2.2.1, x.2.2.2)
def shS (c : Int) (s : List SItem) : List SItem := s.map (shI c)
theorem map_app_sh (c : Int) (L : List (List SItem)) (x : SItem) : (L.map (shS c)).map (· ++ [shI c x]) = (L.map (· ++ [x])).map (shS c) := by
  rw [List.map_map, List.map_map]
  exact List.map_congr_left fun s _ => by simp [shS]
theorem rep_sh (c : Int) (m : Nat) (L : List (List SItem)) : (List.replicate m (L.map (shS c))).flatten = ((List.replicate m L).flatten).map (shS c) := (rep_map _ _ _).symm
theorem PM_emb {l l' : List SNode} {c : Int} (h : Emb l l' c) (hl : ROk l) (hl' : ROk l') : ∀ (k : Nat) (i : Int) (n : SNode), i < (k : Int) → at? l i = some n → pm l' (i + c) = (pm l i).map (shS c) ∧ nw l' (i + c) = nw l i
  | 0, i, n, hi, hn => by have := at_bound hn; omega
  | k + 1, i, n, hi, hn => by
    have ih := PM_emb h hl hl' k
    have e1 : pm l i = (PM l l.length i).1 := rfl
    have e2 : nw l i = (PM l l.length i).2 := rfl
    have e3 : pm l' (i + c) = (PM l' l'.length (i + c)).1 := rfl
    have e4 : nw l' (i + c) = (PM l' l'.length (i + c)).2 := rfl
    obtain ⟨m, hm, f1, f2, f3, f4, f5⟩ := h.get hn
    rw [e1, e2, e3, e4, PM_at hl hn, PM_at hl' hm, f1, f4, f5]
    by_cases h1 : n.1 = 1
    · rw [if_pos h1, if_pos h1]; exact ⟨rfl, rfl⟩
    · by_cases h3 : n.1 = 3
      · rw [if_neg h1, if_neg h1, if_pos h3, if_pos h3]; exact ⟨rfl, rfl⟩
      · by_cases h4 : n.1 = 4
        · obtain ⟨⟨a, b⟩, c', e⟩ := hl.two _ n hn (.inl h4)
          obtain ⟨m1, hm1⟩ := at_lt hn a b
          obtain ⟨m2, hm2⟩ := at_lt hn c' e
          obtain ⟨p1, q1⟩ := ih _ m1 (by omega) hm1
          obtain ⟨p2, q2⟩ := ih _ m2 (by omega) hm2
          have hx : ((1 : Int), n.2.2.1 + c, (0 : Int), (0 : Int)) = shI c (1, n.2.2.1, 0, 0) := rfl
          rw [f2 (by omega), f3 (.inl h4)]
          rw [if_neg h1, if_neg h3, if_pos h4, if_neg h1, if_neg h3, if_pos h4]
          refine ⟨?_, by simp only; rw [q1, q2]⟩
          simp only
          rw [p1, p2, q1, hx, map_app_sh, rep_sh, List.map_append]
        · by_cases h5 : n.1 = 5
          · obtain ⟨⟨a, b⟩, c', e⟩ := hl.two _ n hn (.inr h5)
            obtain ⟨m1, hm1⟩ := at_lt hn a b
            obtain ⟨m2, hm2⟩ := at_lt hn c' e
            obtain ⟨p1, q1⟩ := ih _ m1 (by omega) hm1
            obtain ⟨p2, q2⟩ := ih _ m2 (by omega) hm2
            rw [f2 (by omega), f3 (.inr h5)]
            rw [if_neg h1, if_neg h3, if_neg h4, if_pos h5, if_neg h1, if_neg h3, if_neg h4, if_pos h5]
            refine ⟨?_, by simp only; rw [q1, q2]⟩
            simp only
            rw [p1, p2, List.map_append]
          · by_cases h6 : n.1 = 6
            · obtain ⟨a, b⟩ := hl.one _ n hn (.inl h6)
              obtain ⟨m1, hm1⟩ := at_lt hn a b
              obtain ⟨p1, q1⟩ := ih _ m1 (by omega) hm1
              have hx : ((1 : Int), i + c, (0 : Int), (0 : Int)) = shI c (1, i, 0, 0) := rfl
              rw [f2 (by omega)]
              rw [if_neg h1, if_neg h3, if_neg h4, if_neg h5, if_pos h6, if_neg h1, if_neg h3, if_neg h4, if_neg h5, if_pos h6]
              refine ⟨?_, rfl⟩
              simp only
              rw [p1, hx, map_app_sh]
            · by_cases h7 : n.1 = 7
              · obtain ⟨a, b⟩ := hl.one _ n hn (.inr (.inl h7))
                obtain ⟨m1, hm1⟩ := at_lt hn a b
                obtain ⟨p1, q1⟩ := ih _ m1 (by omega) hm1
                have hx : ((2 : Int), i + c, max (n.2.2.2.1 - 1) 0, n.2.2.2.2.1 - 1) = shI c (2, i, max (n.2.2.2.1 - 1) 0, n.2.2.2.2.1 - 1) := rfl
                rw [f2 (by omega)]
                rw [if_neg h1, if_neg h3, if_neg h4, if_neg h5, if_neg h6, if_pos h7, if_neg h1, if_neg h3, if_neg h4, if_neg h5, if_neg h6, if_pos h7]
                refine ⟨?_, rfl⟩
                simp only
                split
                · rw [p1, hx, map_app_sh]
                · rfl
              · rw [if_neg h1, if_neg h3, if_neg h4, if_neg h5, if_neg h6, if_neg h7, if_neg h1, if_neg h3, if_neg h4, if_neg h5, if_neg h6, if_neg h7]; exact ⟨rfl, rfl⟩
theorem PM_rng {d : List SNode} (hd : ROk d) : ∀ (k : Nat) (i : Int), i < (k : Int) → ∀ p ∈ pm d i, ∃ x q, p = x :: q ∧ 0 ≤ x.2.1 ∧ x.2.1 < (d.length : Int)
  | 0, i, hi, p, hp => by
    have : at? d i = none := at_none (.inl (by omega))
    unfold pm at hp
    rw [PM_fuel hd d.length 0 i] at hp
    · simp [PM] at hp
    · omega
    · omega
  | k + 1, i, hi, p, hp => by
    have ih := PM_rng hd k
    cases hn : at? d i with
    | none =>
      exfalso
      unfold pm at hp
      cases hdl : d.length with
      | zero => rw [hdl] at hp; simp [PM] at hp
      | succ m => rw [hdl] at hp; simp [PM, hn] at hp
    | some n =>
      have hb := at_bound hn
      have e1 : pm d i = (PM d d.length i).1 := rfl
      rw [e1, PM_at hd hn] at hp
      have app : ∀ (a : Int) (y : SItem), a < i → p ∈ (pm d a).map (· ++ [y]) → ∃ x q, p = x :: q ∧ 0 ≤ x.2.1 ∧ x.2.1 < (d.length : Int) := by
        intro a y ha h
        obtain ⟨q, hq, rfl⟩ := List.mem_map.1 h
        obtain ⟨x, q', rfl, h1, h2⟩ := ih a (by omega) q hq
        exact ⟨x, q' ++ [y], rfl, h1, h2⟩
      by_cases h1 : n.1 = 1
      · simp [h1] at hp
      · by_cases h3 : n.1 = 3
        · simp [h3] at hp
          subst hp
          exact ⟨_, _, rfl, hb⟩
        · by_cases h4 : n.1 = 4
          · obtain ⟨⟨a, b⟩, c', e⟩ := hd.two _ n hn (.inl h4)
            rw [if_neg h1, if_neg h3, if_pos h4] at hp
            rcases List.mem_append.1 hp with hp | hp
            · exact app _ _ b hp
            · obtain ⟨l, hl, hp⟩ := List.mem_flatten.1 hp
              rw [List.mem_replicate.1 hl |>.2] at hp
              exact ih _ (by omega) p hp
          · by_cases h5 : n.1 = 5
            · obtain ⟨⟨a, b⟩, c', e⟩ := hd.two _ n hn (.inr h5)
              rw [if_neg h1, if_neg h3, if_neg h4, if_pos h5] at hp
              rcases List.mem_append.1 hp with hp | hp
              · exact ih _ (by omega) p hp
              · exact ih _ (by omega) p hp
            · by_cases h6 : n.1 = 6
              · obtain ⟨a, b⟩ := hd.one _ n hn (.inl h6)
                rw [if_neg h1, if_neg h3, if_neg h4, if_neg h5, if_pos h6] at hp
                exact app _ _ b hp
              · by_cases h7 : n.1 = 7
                · obtain ⟨a, b⟩ := hd.one _ n hn (.inr (.inl h7))
                  rw [if_neg h1, if_neg h3, if_neg h4, if_neg h5, if_neg h6, if_pos h7] at hp
                  simp only at hp
                  split at hp
                  · exact app _ _ b hp
                  · cases hp
                · rw [if_neg h1, if_neg h3, if_neg h4, if_neg h5, if_neg h6, if_neg h7] at hp
                  rw [List.mem_singleton] at hp
                  subst hp
                  exact ⟨_, _, rfl, hb⟩
theorem at_left {α : Type} {a b : List α} {i : Int} {x : α} (h : at? a i = some x) : at? (a ++ b) i = some x := by
  obtain ⟨k, rfl, hk⟩ := at_nn h
  rw [at_nat, List.getElem?_append_left (List.getElem?_eq_some_iff.1 hk).1]; exact hk
theorem at_right {α : Type} {a b : List α} {i : Int} {x : α} (h : at? b i = some x) : at? (a ++ b) (i + (a.length : Int)) = some x := by
  obtain ⟨k, rfl, hk⟩ := at_nn h
  have e : (k : Int) + (a.length : Int) = ((k + a.length : Nat) : Int) := by omega
  rw [e, at_nat, List.getElem?_append_right (by omega), Nat.add_sub_cancel]; exact hk
theorem at_app {α : Type} {a b : List α} {i : Int} {x : α} (h : at? (a ++ b) i = some x) : at? a i = some x ∨ at? b (i - (a.length : Int)) = some x := by
  obtain ⟨k, rfl, hk⟩ := at_nn h
  rcases Nat.lt_or_ge k a.length with hlt | hge
  · rw [List.getElem?_append_left hlt] at hk
    exact .inl (by rw [at_nat]; exact hk)
  · rw [List.getElem?_append_right hge] at hk
    have e : (k : Int) - (a.length : Int) = ((k - a.length : Nat) : Int) := by omega
    exact .inr (by rw [e, at_nat]; exact hk)
theorem at_one {α : Type} {x y : α} {i : Int} (h : at? [x] i = some y) : i = 0 ∧ y = x := by
  have hb := at_bound h
  simp at hb
  obtain rfl : i = 0 := by omega
  cases h
  exact ⟨rfl, rfl⟩
theorem at_movL {c : Int} {l : List SNode} {i : Int} {n : SNode} (h : at? l i = some n) : at? (movL c l) i = some (movN c n) := by
  obtain ⟨k, rfl, hk⟩ := at_nn h
  rw [at_nat]
  unfold movL
  rw [List.getElem?_map, hk]; rfl
theorem at_movL_inv {c : Int} {l : List SNode} {i : Int} {n : SNode} (h : at? (movL c l) i = some n) : ∃ m, at? l i = some m ∧ n = movN c m := by
  obtain ⟨k, rfl, hk⟩ := at_nn h
  unfold movL at hk
  rw [List.getElem?_map] at hk
  obtain ⟨m, h1, h2⟩ := Option.map_eq_some_iff.1 hk
  exact ⟨m, by rw [at_nat]; exact h1, h2.symm⟩
theorem emb_left {a : List SNode} (r : List SNode) : Emb a (a ++ r) 0 := ⟨Int.le_refl _, fun i n h => by rw [movN_zero, Int.add_zero]; exact at_left h⟩
theorem emb_mid {a b r : List SNode} : Emb b ((a ++ movL (a.length : Int) b) ++ r) (a.length : Int) := ⟨by omega, fun i n h => at_left (at_right (at_movL h))⟩
theorem pair_len (k : Int) (a b : List SNode) : (pairD k a b).length = a.length + b.length + 1 := by simp [pairD, movL_len]; omega
theorem wrap_len (k : Int) (a : List SNode) : (wrapD k a).length = a.length + 1 := by simp [wrapD]
theorem pair_root (k : Int) (a b : List SNode) : at? (pairD k a b) ((a.length : Int) + (b.length : Int)) = some (k, (a.length : Int) - 1, ((a.length : Int) + (b.length : Int)) - 1, 0, 0, (0#256), ([] : Str)) := by
  have := at_right (a := a ++ movL (a.length : Int) b) (b := [(k, (a.length : Int) - 1, ((a.length : Int) + (b.length : Int)) - 1, 0, 0, (0#256), ([] : Str))]) (i := 0) rfl
  rw [List.length_append, movL_len] at this
  have e : (0 : Int) + ((a.length + b.length : Nat) : Int) = (a.length : Int) + (b.length : Int) := by omega
  rw [e] at this
  exact this
theorem wrap_root (k : Int) (a : List SNode) : at? (wrapD k a) (a.length : Int) = some (k, (a.length : Int) - 1, 0, 0, 0, (0#256), ([] : Str)) := by
  have := at_right (a := a) (b := [(k, (a.length : Int) - 1, 0, 0, 0, (0#256), ([] : Str))]) (i := 0) rfl
  rw [Int.zero_add] at this
  exact this
theorem pair_rt {k : Int} {a b : List SNode} (ha : Rt a) (hb : Rt b) (hk : k = 4 ∨ k = 5) : Rt (pairD k a b) := by
  have ea : Emb a (pairD k a b) 0 := by unfold pairD; rw [List.append_assoc]; exact emb_left _
  have eb : Emb b (pairD k a b) (a.length : Int) := emb_mid
  have ta := ha.tr.emb ea
  have tb := hb.tr.emb eb
  have tr : Tr (pairD k a b) 0 (((pairD k a b).length : Int) - 1) := by
    have e : (((pairD k a b).length : Int) - 1) = (a.length : Int) + (b.length : Int) := by rw [pair_len]; omega
    rw [e]
    refine .two (p := (a.length : Int)) (pair_root k a b) hk rfl rfl ?_ ?_
    · have e1 : (b.length : Int) - 1 + (a.length : Int) = (a.length : Int) + (b.length : Int) - 1 := by omega
      rw [e1, Int.zero_add] at tb; exact tb
    · rw [Int.add_zero, Int.add_zero] at ta; exact ta
  have nk := tr.nok
  refine ⟨⟨nk.two, nk.one, nk.rep, nk.kind, nk.ntx, fun i n hn h67 => ?_⟩, tr⟩
  unfold pairD at hn
  rcases at_app hn with hn | hn
  · rcases at_app hn with hn | hn
    · obtain ⟨p, q⟩ := ha.one _ n hn (by omega)
      obtain ⟨m, hm⟩ := at_lt hn p q
      have := nz_emb ea ha.nok nk a.length _ m (by have := at_bound hm; omega) hm
      rw [Int.add_zero] at this
      rw [this]
      exact ha.nn _ n hn h67
    · obtain ⟨m0, hm0, rfl⟩ := at_movL_inv hn
      have hk0 : m0.1 = 6 ∨ m0.1 = 7 := h67
      obtain ⟨p, q⟩ := hb.one _ m0 hm0 (by omega)
      obtain ⟨m, hm⟩ := at_lt hm0 p q
      have := nz_emb eb hb.nok nk b.length _ m (by have := at_bound hm; omega) hm
      simp only [movN]
      rw [if_pos (by omega), this]
      exact hb.nn _ m0 hm0 hk0
  · obtain ⟨_, rfl⟩ := at_one hn
    simp only at h67; omega
theorem wrap_rt {k : Int} {a : List SNode} (ha : Rt a) (hk : k = 6 ∨ k = 8 ∨ k = 9) (hz : k = 6 → nz a ((a.length : Int) - 1) = false) : Rt (wrapD k a) := by
  have ea : Emb a (wrapD k a) 0 := emb_left _
  have ta := ha.tr.emb ea
  have tr : Tr (wrapD k a) 0 (((wrapD k a).length : Int) - 1) := by
    have e : (((wrapD k a).length : Int) - 1) = (a.length : Int) := by rw [wrap_len]; omega
    rw [e]
    refine .one (wrap_root k a) (by simp only; omega) rfl rfl (fun h => by simp only at h; omega) ?_
    rw [Int.add_zero, Int.add_zero] at ta; exact ta
  have nk := tr.nok
  have hr := ha.tr.le
  refine ⟨⟨nk.two, nk.one, nk.rep, nk.kind, nk.ntx, fun i n hn h67 => ?_⟩, tr⟩
  unfold wrapD at hn
  have go : ∀ (A : Int) m, at? a A = some m → nz a A = false → nz (wrapD k a) A = false := fun A m hm hz => by
    have := nz_emb ea ha.nok nk a.length _ m (by have := at_bound hm; omega) hm
    rw [Int.add_zero] at this
    rw [this]; exact hz
  rcases at_app hn with hn | hn
  · obtain ⟨p, q⟩ := ha.one _ n hn (by omega)
    obtain ⟨m, hm⟩ := at_lt hn p q
    exact go _ m hm (ha.nn _ n hn h67)
  · obtain ⟨_, rfl⟩ := at_one hn
    simp only at h67 ⊢
    obtain ⟨m, hm, _⟩ := at_in (xs := a) (i := (a.length : Int) - 1) hr.2 (by omega)
    exact go _ m hm (hz (by omega))
theorem leaf_rt {n : SNode} (hk : n.1 = 1 ∨ n.1 = 2) (h0 : n.2.1 = 0 ∧ n.2.2.1 = 0) : Rt [n] := by
  have tr : Tr [n] 0 ((([n] : List SNode).length : Int) - 1) := .leaf (e := n) rfl (by omega) (fun h => by omega) h0
  have nk := tr.nok
  refine ⟨⟨nk.two, nk.one, nk.rep, nk.kind, nk.ntx, fun i m hm h67 => ?_⟩, tr⟩
  obtain ⟨_, rfl⟩ := at_one hm
  omega
end Go.Proofs.YtdidjelkkanenaaDoor.V
namespace Go.Proofs.YtdidjelkkanenaaDoor.V
open Go
set_option linter.unusedVariables false
abbrev Txt (d : List SNode) : Prop := ∀ n ∈ d, n.2.2.2.2.2.2.length ≤ 140737488351232
theorem guard14 {d : List SNode} (ht : Txt d) : ∃ r6 r8 : Bool, ref04_Few d r6 ∧ (r6 = true → d.length ≤ 100) ∧ (r6 = true → ref08_Right d r8) ∧ (r6 = true → r8 = true → Rt d) := by
  obtain ⟨r6, h6, h6b⟩ := few_ex ht
  cases r6
  · exact ⟨false, false, h6, (fun h => by cases h), (fun h => by cases h), (fun h => by cases h)⟩
  · obtain ⟨r8, h8, h8b⟩ := right_ok (d := d) (by have := h6b rfl; omega) ht
    exact ⟨true, r8, h6, h6b, fun _ => h8, fun _ => h8b⟩
theorem can_of {L : List (List SItem)} {B : List SBranch} (hs : B.Pairwise (fun a b => cmpS a.1 b.1 < 0)) (h1 : ∀ b ∈ B, b.1 ∈ L ∧ b.2 = sat (L.count b.1)) (h2 : ∀ t ∈ L, t ∈ B.map (·.1)) : Can (fun t => L.count t) B := by
  refine ⟨hs, fun t m => ⟨fun h => ?_, fun ⟨h3, h4⟩ => ?_⟩⟩
  · obtain ⟨h3, h4⟩ := h1 _ h
    exact ⟨by have := List.count_pos_iff.2 h3; simp only at this ⊢; omega, h4⟩
  · obtain ⟨b, hb, e⟩ := List.mem_map.1 (h2 t (List.count_pos_iff.1 (by omega)))
    obtain ⟨_, h6⟩ := h1 _ hb
    have : b = (t, m) := Prod.ext e (by rw [h6, h4, e])
    rw [← this]; exact hb
def dB : List SNode := [(2, 0, 0, 0, 0, (0#256), ([] : Str))]
def dE : List SNode := [(1, 0, 0, 0, 0, (0#256), ([] : Str))]
theorem dB_rt : Rt dB := leaf_rt (.inr rfl) ⟨rfl, rfl⟩
theorem dE_rt : Rt dE := leaf_rt (.inl rfl) ⟨rfl, rfl⟩
theorem sm_mk {d : List SNode} {s : List SItem} (h : Rt d) (hl : d.length ≤ 24) (ht : Txt d) (hf : formS d s = true) (hs : s.length ≤ 40) : Sm d s := ⟨h, hl, ht, hf, hs⟩
theorem txt_small {d : List SNode} (h : ∀ n ∈ d, n.2.2.2.2.2.2 = []) : Txt d := fun n hn => by rw [h n hn]; simp
def dS : List SNode := wrapD 6 dB
def dT : List SNode := pairD 5 dE dE
theorem dS_rt : Rt dS := wrap_rt dB_rt (.inl rfl) fun _ => by decide
theorem dT_rt : Rt dT := pair_rt dE_rt dE_rt (.inr rfl)
theorem dS_sm {s : List SItem} (hf : formS dS s = true) (hs : s.length ≤ 40) : Sm dS s := sm_mk dS_rt (by decide) (txt_small (by decide)) hf hs
theorem dT_sm {s : List SItem} (hf : formS dT s = true) (hs : s.length ≤ 40) : Sm dT s := sm_mk dT_rt (by decide) (txt_small (by decide)) hf hs
def hS : List SBranch := [([], 1), ([(1, 0, 0, 0), (1, 1, 0, 0)], 1)]
def hT : List SBranch := [([], 2)]
theorem hS_in : heads_Heads dS [(1, 1, 0, 0)] hS := by
  obtain ⟨B, h1, _, h3⟩ := heads_both (dS_sm (s := [(1, 1, 0, 0)]) (by decide) (by decide))
  have : B = hS := h3.uniq (can_of (by decide) (by decide) (by decide))
  rw [← this]; exact h1
theorem hT_in : heads_Heads dT [(1, 2, 0, 0)] hT := by
  obtain ⟨B, h1, _, h3⟩ := heads_both (dT_sm (s := [(1, 2, 0, 0)]) (by decide) (by decide))
  have : B = hT := h3.uniq (can_of (by decide) (by decide) (by decide))
  rw [← this]; exact h1
theorem awake14 : law14_awake true := by
  have o1 : heads_Open dS [(1, 1, 0, 0)] [[], [(1, 0, 0, 0), (1, 1, 0, 0)]] := heads_Open_in dS_rt.toROk (s := [(1, 1, 0, 0)]) (by decide) (by decide) (by decide) ⟨_, rfl⟩
  have o2 : heads_Open dS [(5, 0, 1, 0)] [] := heads_Open_in dS_rt.toROk (s := [(5, 0, 1, 0)]) (by decide) (by decide) (by decide) ⟨_, rfl⟩
  have hst : ∀ d : List SNode, d.length ≤ 100 → law14_start d [(1, (d.length : Int) - 1, 0, 0)] := fun d hd => ⟨i64_of (by omega) (by omega), rfl⟩
  refine ⟨dS, Wrap_in dB_rt.tr (by decide), dT, Pair_in dE_rt.tr dE_rt.tr (by decide) (by decide), _, hst dS (by decide), hS, hS_in, _, hst dT (by decide), hT, hT_in, _, hst dS (by decide), _, o1, _, o2, _, rfl, (fun h => by simp [hS, hT] at h), fun _ => ⟨([], 1), rfl, ([], 1), fun _ => rfl, ([(1, 0, 0, 0), (1, 1, 0, 0)], 1), fun _ => rfl, _, rfl, ([(1, 0, 0, 0), (1, 1, 0, 0)], 1), fun _ => rfl, (1, 0, 0, 0), fun _ => rfl, ([], 2), fun _ => rfl, [], fun _ => rfl, _, rfl, [(1, 0, 0, 0), (1, 1, 0, 0)], fun _ => rfl, ([(1, 0, 0, 0), (1, 1, 0, 0)], 1), fun _ => rfl, _, fun _ => ref13_Same_in (by decide) (by decide), true, fun _ => heads_Ready_in dS_rt.toROk (s := []) rfl, _, rfl, _, fun _ => hst dS (by decide), false, fun _ => heads_Ready_in dS_rt.toROk (s := [(1, 1, 0, 0)]) (by decide), _, fun _ => hst dB (by decide), true, fun _ => heads_Ready_in dB_rt.toROk (s := [(1, 0, 0, 0)]) (by decide), ?_⟩⟩
  decide
theorem heads_len {d : List SNode} {s : List SItem} (h : Sm d s) {B : List SBranch} (hB : Can (fun t => (hds d s).count t) B) : B.length ≤ 700000000 := by
  have h0 := can_len hB (U := CS d s) fun t ht => hds_CS d s t (List.count_pos_iff.1 (by omega))
  have h1 := CS_len d s
  have h2 : 2 ^ d.length ≤ 2 ^ 24 := Nat.pow_le_pow_right (by omega) h.len
  have h3 := h.slen
  have h4 : s.length * 2 ^ d.length ≤ 40 * 2 ^ 24 := Nat.mul_le_mul h3 h2
  omega
theorem can_one (s : List SItem) : Can (fun t => [s].count t) [(s, 1)] := can_of (by simp) (by simp [sat]) (by simp)
theorem rdy_heads {d : List SNode} {s : List SItem} (h : Sm d s) (hr : rdy d s = true) {B : List SBranch} (hB : Can (fun t => (hds d s).count t) B) : B = [(s, 1)] := by
  have hp := lv_hds h.rt.toROk h.form (Lv.ready hr)
  exact hB.uniq ((can_one s).congr fun t => by rw [hp.count_eq])
theorem hds_start (d : List SNode) (r : Int) : hds d [(1, r, 0, 0)] = pm d r ++ List.replicate (nw d r) [] := by
  have e1 : pmI d (1, r, 0, 0) = pm d r := rfl
  have e2 : nwI d (1, r, 0, 0) = nw d r := rfl
  simp only [hds, e1, e2, List.append_nil]
  rw [List.map_id']
  congr 1
  generalize nw d r = m
  induction m with
  | zero => rfl
  | succ m ih => rw [List.replicate_succ, List.flatten_cons, ih, List.replicate_succ]; rfl
theorem pm_nil {d : List SNode} (hd : ROk d) (r : Int) : (pm d r).count [] = 0 := by
  rw [List.count_eq_zero]
  intro h
  obtain ⟨x, q, e, _⟩ := PM_rng hd (r.toNat + 1) r (by omega) _ h
  cases e
theorem start_nil {d : List SNode} (hd : ROk d) (r : Int) : (hds d [(1, r, 0, 0)]).count [] = nw d r := by
  rw [hds_start, List.count_append, pm_nil hd, List.count_replicate_self, Nat.zero_add]
theorem start_cons {d : List SNode} (r : Int) {t : List SItem} (ht : t ≠ []) : (hds d [(1, r, 0, 0)]).count t = (pm d r).count t := by
  rw [hds_start, List.count_append, List.count_replicate, if_neg (by simpa using ht), Nat.add_zero]
theorem sm_start {d : List SNode} (h : Rt d) (hl : d.length ≤ 24) (ht : Txt d) : Sm d [(1, (d.length : Int) - 1, 0, 0)] := by
  have hr := h.tr.le
  obtain ⟨m, hm, _⟩ := at_in (xs := d) (i := (d.length : Int) - 1) hr.2 (by omega)
  exact ⟨h, hl, ht, by simp only [formS, List.all_cons, List.all_nil, Bool.and_true]; exact form_one ⟨m, hm⟩, by simp⟩
theorem start_in {d : List SNode} (hl : d.length ≤ 1000) : law14_start d [(1, (d.length : Int) - 1, 0, 0)] := ⟨i64_of (by omega) (by omega), rfl⟩
theorem start_ways {d : List SNode} (h : Rt d) (hl : d.length ≤ 1000) : ref08_Ways d ((d.length : Int) - 1) (sat (nw d ((d.length : Int) - 1))) := by
  have hr := h.tr.le
  obtain ⟨m, hm, _⟩ := at_in (xs := d) (i := (d.length : Int) - 1) hr.2 (by omega)
  have e := wv_nw h.toROk d.length _ m (by omega) hm
  obtain ⟨j, hj⟩ : ∃ j : Nat, (d.length : Int) - 1 = (j : Int) := ⟨((d.length : Int) - 1).toNat, by omega⟩
  have := ref08_Ways_in (i := j) hl h.toROk.nok (by omega)
  rw [← hj, e] at this
  exact this
end Go.Proofs.YtdidjelkkanenaaDoor.V
namespace Go.Proofs.YtdidjelkkanenaaDoor.V
open Go
set_option linter.unusedVariables false
def neB (B : List SBranch) : List SBranch := B.filter fun b => !b.1.isEmpty
def zB (n : Nat) : List SBranch := if n = 0 then [] else [([], sat n)]
def shB (c : Int) (b : SBranch) : SBranch := (shS c b.1, b.2)
theorem ne_mem {d : List SNode} (hd : ROk d) {r : Int} {B : List SBranch} (h : Can (fun t => (hds d [(1, r, 0, 0)]).count t) B) (t : List SItem) (m : Int) : (t, m) ∈ neB B ↔ (pm d r).count t ≠ 0 ∧ m = sat ((pm d r).count t) := by
  unfold neB
  rw [List.mem_filter, h.mem]
  cases t with
  | nil => rw [pm_nil hd]; simp
  | cons x q => rw [start_cons r (by simp)]; simp
theorem nodup_of_fst {B : List SBranch} (h : (B.map (·.1)).Nodup) : B.Nodup := by
  unfold List.Nodup at *
  rw [List.pairwise_map] at h
  exact h.imp fun {a b} hab e => hab (by rw [e])
theorem split_perm {d : List SNode} (hd : ROk d) {r : Int} {B : List SBranch} (h : Can (fun t => (hds d [(1, r, 0, 0)]).count t) B) : B.Perm (neB B ++ zB (nw d r)) := by
  have hn := nodup_of_fst h.nodup
  refine (List.perm_ext_iff_of_nodup hn ?_).2 fun ⟨t, m⟩ => ?_
  · rw [List.nodup_append]
    refine ⟨hn.sublist List.filter_sublist, by unfold zB; split <;> simp, fun a ha b hb e => ?_⟩
    subst e
    unfold zB at hb
    split at hb
    · cases hb
    · rw [List.mem_singleton] at hb
      subst hb
      simp [neB] at ha
  · rw [List.mem_append, ne_mem hd h, h.mem]
    cases t with
    | nil =>
      rw [start_nil hd, pm_nil hd]
      unfold zB
      by_cases h0 : nw d r = 0
      · simp [h0]
      · simp [h0]
    | cons x q =>
      rw [start_cons r (by simp)]
      unfold zB
      split <;> simp
theorem shI_inj {c : Int} {x y : SItem} (h : shI c x = shI c y) : x = y := by
  obtain ⟨a, b, e, f⟩ := x
  obtain ⟨a', b', e', f'⟩ := y
  simp only [shI, Prod.mk.injEq] at h
  simp only [Prod.mk.injEq]
  omega
theorem shS_inj {c : Int} : ∀ {s t : List SItem}, shS c s = shS c t → s = t
  | [], [], _ => rfl
  | [], _ :: _, h => by simp [shS] at h
  | _ :: _, [], h => by simp [shS] at h
  | x :: s, y :: t, h => by
    simp only [shS, List.map_cons, List.cons.injEq] at h
    rw [shI_inj h.1, shS_inj (s := s) (t := t) h.2]
theorem count_sh (c : Int) (L : List (List SItem)) (t : List SItem) : (L.map (shS c)).count (shS c t) = L.count t := by
  induction L with
  | nil => rfl
  | cons u L ih =>
    rw [List.map_cons, List.count_cons, List.count_cons, ih]
    congr 1
    by_cases h : u = t
    · subst h; simp
    · have : shS c u ≠ shS c t := fun e => h (shS_inj e)
      simp [h, this]
def sumB (l : List SBranch) : Int := (l.map (·.2)).sum
theorem sumB_app (a b : List SBranch) : sumB (a ++ b) = sumB a + sumB b := by unfold sumB; rw [List.map_append, List.sum_append]
theorem sumB_perm {a b : List SBranch} (h : a.Perm b) : sumB a = sumB b := by
  unfold sumB
  induction h with
  | nil => rfl
  | cons x _ ih => simp only [List.map_cons, List.sum_cons, ih]
  | swap x y l => simp only [List.map_cons, List.sum_cons]; omega
  | trans _ _ i1 i2 => rw [i1, i2]
theorem sumB_sh (c : Int) (l : List SBranch) : sumB (l.map (shB c)) = sumB l := by unfold sumB; rw [List.map_map]; rfl
theorem sumB_le : ∀ {l : List SBranch}, (∀ b ∈ l, 0 ≤ b.2 ∧ b.2 ≤ 2) → 0 ≤ sumB l ∧ sumB l ≤ 2 * (l.length : Int)
  | [], _ => by simp [sumB]
  | x :: l, h => by
    have h1 := h x (by simp)
    have h2 := sumB_le (l := l) fun b hb => h b (by simp [hb])
    simp only [sumB, List.map_cons, List.sum_cons, List.length_cons] at h2 ⊢
    omega
theorem sum_in {l : List SBranch} (hl : l.length ≤ 700000000) (h : ∀ b ∈ l, 0 ≤ b.2 ∧ b.2 ≤ 2) : law14_sum l (sumB l) := by
  refine upto (P := fun k (n : Int) v => law14_sum.l1 l _ k n v) l.length (fun i n => n = sumB (l.take i)) ?_ ?_ 0 (by simp [sumB])
  · rintro i n hi rfl
    have hat : at? l (i : Int) = some l[i] := by rw [at_nat]; simp [hi]
    have h1 := h _ (List.getElem_mem hi)
    have h2 := sumB_le (l := l.take i) fun b hb => h b (List.mem_of_mem_take hb)
    have h3 : (l.take i).length = i := by simp; omega
    have e : sumB (l.take (i + 1)) = sumB (l.take i) + l[i].2 := by
      rw [List.take_succ_eq_append_getElem hi, sumB_app]; simp [sumB]
    refine .inr ⟨_, rfl, fun k hk => ⟨fun _ => ⟨_, hat, i64_of (by omega) (by omega), i64_of (by omega) (by omega), ?_⟩, fun h => absurd (by omega) (df h)⟩⟩
    rw [e] at hk
    exact hk
  · rintro n rfl k
    refine ⟨fun h => absurd (dt h) (by omega), fun _ => ?_⟩
    show sumB l = _
    rw [List.take_length]
theorem zB_len (n : Nat) : (zB n).length = if n = 0 then 0 else 1 := by unfold zB; split <;> simp
theorem zB_sum (n : Nat) : sumB (zB n) = sat n := by unfold zB sumB; split <;> simp_all [sat]
theorem or_perm {a b : List SNode} (ha : Rt a) (hb : Rt b) {A B C : List SBranch}
    (hA : Can (fun t => (hds a [(1, (a.length : Int) - 1, 0, 0)]).count t) A) (hB : Can (fun t => (hds b [(1, (b.length : Int) - 1, 0, 0)]).count t) B)
    (hC : Can (fun t => (hds (pairD 5 a b) [(1, (((pairD 5 a b).length : Nat) : Int) - 1, 0, 0)]).count t) C) :
    C.Perm ((neB A ++ (neB B).map (shB (a.length : Int))) ++ zB (nw a ((a.length : Int) - 1) + nw b ((b.length : Int) - 1))) := by
  have hp := pair_rt ha hb (.inr rfl)
  have ea : Emb a (pairD 5 a b) 0 := by unfold pairD; rw [List.append_assoc]; exact emb_left _
  have eb : Emb b (pairD 5 a b) (a.length : Int) := emb_mid
  have la := ha.tr.le
  have lb := hb.tr.le
  obtain ⟨ma, hma, _⟩ := at_in (xs := a) (i := (a.length : Int) - 1) la.2 (by omega)
  obtain ⟨mb, hmb, _⟩ := at_in (xs := b) (i := (b.length : Int) - 1) lb.2 (by omega)
  obtain ⟨pa, na⟩ := PM_emb ea ha.toROk hp.toROk a.length _ ma (by omega) hma
  obtain ⟨pb, nb⟩ := PM_emb eb hb.toROk hp.toROk b.length _ mb (by omega) hmb
  have e0 : (b.length : Int) - 1 + (a.length : Int) = (a.length : Int) + (b.length : Int) - 1 := by omega
  have z0 : (pm a ((a.length : Int) - 1)).map (shS 0) = pm a ((a.length : Int) - 1) := by
    rw [show shS 0 = id from funext fun s => by
      unfold shS
      rw [show shI 0 = id from funext fun x => by obtain ⟨p, q, u, v⟩ := x; simp [shI], List.map_id]; rfl, List.map_id]
  rw [Int.add_zero, z0] at pa
  rw [Int.add_zero] at na
  rw [e0] at pb nb
  have er : (((pairD 5 a b).length : Nat) : Int) - 1 = (a.length : Int) + (b.length : Int) := by rw [pair_len]; omega
  rw [er] at hC
  have hroot := PM_at hp.toROk (pair_root 5 a b)
  have p1 : pm (pairD 5 a b) ((a.length : Int) + (b.length : Int)) = pm a ((a.length : Int) - 1) ++ (pm b ((b.length : Int) - 1)).map (shS (a.length : Int)) := by
    unfold pm at pa pb ⊢
    rw [hroot]
    simp only [show ¬ (5 : Int) = 1 by decide, show ¬ (5 : Int) = 3 by decide, show ¬ (5 : Int) = 4 by decide, if_true, if_false]
    unfold pm
    rw [pa, pb]
  have n1 : nw (pairD 5 a b) ((a.length : Int) + (b.length : Int)) = nw a ((a.length : Int) - 1) + nw b ((b.length : Int) - 1) := by
    unfold nw at na nb ⊢
    rw [hroot]
    simp only [show ¬ (5 : Int) = 1 by decide, show ¬ (5 : Int) = 3 by decide, show ¬ (5 : Int) = 4 by decide, if_true, if_false]
    unfold nw
    rw [na, nb]
  have hs := split_perm hp.toROk hC
  rw [n1] at hs
  refine hs.trans (List.Perm.append_right _ ?_)
  have rngA : ∀ p ∈ pm a ((a.length : Int) - 1), ∃ x q, p = x :: q ∧ 0 ≤ x.2.1 ∧ x.2.1 < (a.length : Int) := PM_rng ha.toROk a.length _ (by omega)
  have rngB : ∀ p ∈ (pm b ((b.length : Int) - 1)).map (shS (a.length : Int)), ∃ x q, p = x :: q ∧ (a.length : Int) ≤ x.2.1 := by
    intro p hp
    obtain ⟨u, hu, rfl⟩ := List.mem_map.1 hp
    obtain ⟨x, q, rfl, h0, _⟩ := PM_rng hb.toROk b.length _ (by omega) u hu
    exact ⟨shI (a.length : Int) x, shS (a.length : Int) q, rfl, by show (a.length : Int) ≤ x.2.1 + (a.length : Int); omega⟩
  have dis : ∀ t, (pm a ((a.length : Int) - 1)).count t ≠ 0 → ((pm b ((b.length : Int) - 1)).map (shS (a.length : Int))).count t ≠ 0 → False := by
    intro t h1 h2
    obtain ⟨x, q, e, _, h3⟩ := rngA t (List.count_pos_iff.1 (by omega))
    obtain ⟨y, q', e', h4⟩ := rngB t (List.count_pos_iff.1 (by omega))
    rw [e] at e'
    injection e' with e1 e2
    rw [e1] at h3; omega
  have memB : ∀ t m, (t, m) ∈ (neB B).map (shB (a.length : Int)) ↔ ((pm b ((b.length : Int) - 1)).map (shS (a.length : Int))).count t ≠ 0 ∧ m = sat (((pm b ((b.length : Int) - 1)).map (shS (a.length : Int))).count t) := by
    intro t m
    constructor
    · intro h
      obtain ⟨⟨u, k⟩, hu, e⟩ := List.mem_map.1 h
      simp only [shB, Prod.mk.injEq] at e
      obtain ⟨rfl, rfl⟩ := e
      rw [count_sh]
      exact (ne_mem hb.toROk hB u k).1 hu
    · rintro ⟨h1, h2⟩
      obtain ⟨u, hu, rfl⟩ := List.mem_map.1 (List.count_pos_iff.1 (Nat.pos_of_ne_zero h1))
      rw [count_sh] at h1 h2
      exact List.mem_map.2 ⟨(u, m), (ne_mem hb.toROk hB u m).2 ⟨h1, h2⟩, rfl⟩
  refine (List.perm_ext_iff_of_nodup ((nodup_of_fst hC.nodup).sublist List.filter_sublist) ?_).2 fun ⟨t, m⟩ => ?_
  · rw [List.nodup_append]
    refine ⟨(nodup_of_fst hA.nodup).sublist List.filter_sublist, ?_, fun x hx y hy e => ?_⟩
    · unfold List.Nodup
      rw [List.pairwise_map]
      refine ((nodup_of_fst hB.nodup).sublist List.filter_sublist).imp fun {x y} hxy e => hxy ?_
      obtain ⟨p, q⟩ := x
      obtain ⟨p', q'⟩ := y
      simp only [shB, Prod.mk.injEq] at e
      rw [shS_inj e.1, e.2]
    · subst e
      obtain ⟨t, m⟩ := x
      exact dis t ((ne_mem ha.toROk hA t m).1 hx).1 ((memB t m).1 hy).1
  · show (t, m) ∈ neB C ↔ _
    rw [List.mem_append, ne_mem hp.toROk hC, ne_mem ha.toROk hA, memB, p1, List.count_append]
    have := dis t
    by_cases h1 : (pm a ((a.length : Int) - 1)).count t = 0
    · simp [h1]
    · have h2 : ((pm b ((b.length : Int) - 1)).map (shS (a.length : Int))).count t = 0 := by
        rcases Nat.eq_zero_or_pos (((pm b ((b.length : Int) - 1)).map (shS (a.length : Int))).count t) with h | h
        · exact h
        · exact (dis t h1 (by omega)).elim
      simp [h2]
theorem seq_perm {b : List SNode} (hb : Rt b) {B C : List SBranch} (hB : Can (fun t => (hds b [(1, (b.length : Int) - 1, 0, 0)]).count t) B)
    (hC : Can (fun t => (hds (pairD 4 dE b) [(1, (((pairD 4 dE b).length : Nat) : Int) - 1, 0, 0)]).count t) C) : C.Perm (B.map (shB 1)) := by
  have hp := pair_rt dE_rt hb (.inl rfl)
  have ea : Emb dE (pairD 4 dE b) 0 := by unfold pairD; rw [List.append_assoc]; exact emb_left _
  have eb : Emb b (pairD 4 dE b) 1 := emb_mid (a := dE)
  have lb := hb.tr.le
  obtain ⟨mb, hmb, _⟩ := at_in (xs := b) (i := (b.length : Int) - 1) lb.2 (by omega)
  obtain ⟨pa, na⟩ := PM_emb ea dE_rt.toROk hp.toROk 1 0 _ (by omega) rfl
  obtain ⟨pb, nb⟩ := PM_emb eb hb.toROk hp.toROk b.length _ mb (by omega) hmb
  have pa' : pm (pairD 4 dE b) 0 = [] := pa
  have na' : nw (pairD 4 dE b) 0 = 1 := na
  have e0 : (b.length : Int) - 1 + 1 = 1 + (b.length : Int) - 1 := by omega
  rw [e0] at pb nb
  have er : (((pairD 4 dE b).length : Nat) : Int) - 1 = 1 + (b.length : Int) := by rw [pair_len]; show ((1 + b.length + 1 : Nat) : Int) - 1 = _; omega
  rw [er] at hC
  have hroot : at? (pairD 4 dE b) (1 + (b.length : Int)) = some (4, 0, 1 + (b.length : Int) - 1, 0, 0, (0#256), ([] : Str)) := pair_root 4 dE b
  have hroot := PM_at hp.toROk hroot
  have p1 : pm (pairD 4 dE b) (1 + (b.length : Int)) = (pm b ((b.length : Int) - 1)).map (shS 1) := by
    unfold pm at pa' pb ⊢
    rw [hroot]
    simp only [show ¬ (4 : Int) = 1 by decide, show ¬ (4 : Int) = 3 by decide, if_true, if_false]
    rw [na']
    unfold pm
    rw [pa', pb]
    simp
  have n1 : nw (pairD 4 dE b) (1 + (b.length : Int)) = nw b ((b.length : Int) - 1) := by
    unfold nw at na' nb ⊢
    rw [hroot]
    simp only [show ¬ (4 : Int) = 1 by decide, show ¬ (4 : Int) = 3 by decide, if_true, if_false]
    unfold nw
    rw [na', nb, Nat.one_mul]
  have h1 := split_perm hp.toROk hC
  have h2 := (split_perm hb.toROk hB).map (shB 1)
  rw [n1] at h1
  refine h1.trans (List.Perm.trans ?_ h2.symm)
  rw [List.map_append]
  have ez : (zB (nw b ((b.length : Int) - 1))).map (shB 1) = zB (nw b ((b.length : Int) - 1)) := by unfold zB; split <;> rfl
  rw [ez]
  refine List.Perm.append_right _ ?_
  refine (List.perm_ext_iff_of_nodup ((nodup_of_fst hC.nodup).sublist List.filter_sublist) ?_).2 fun ⟨t, m⟩ => ?_
  · unfold List.Nodup
    rw [List.pairwise_map]
    refine ((nodup_of_fst hB.nodup).sublist List.filter_sublist).imp fun {x y} hxy e => hxy ?_
    obtain ⟨p, q⟩ := x
    obtain ⟨p', q'⟩ := y
    simp only [shB, Prod.mk.injEq] at e
    rw [shS_inj e.1, e.2]
  · show (t, m) ∈ neB C ↔ _
    rw [ne_mem hp.toROk hC, p1]
    constructor
    · rintro ⟨h1, h2⟩
      obtain ⟨u, hu, rfl⟩ := List.mem_map.1 (List.count_pos_iff.1 (Nat.pos_of_ne_zero h1))
      rw [count_sh] at h1 h2
      exact List.mem_map.2 ⟨(u, m), (ne_mem hb.toROk hB u m).2 ⟨h1, h2⟩, rfl⟩
    · intro h
      obtain ⟨⟨u, k⟩, hu, e⟩ := List.mem_map.1 h
      simp only [shB, Prod.mk.injEq] at e
      obtain ⟨rfl, rfl⟩ := e
      rw [count_sh]
      exact (ne_mem hb.toROk hB u k).1 hu
theorem txt_pair {k : Int} {a b : List SNode} (ha : Txt a) (hb : Txt b) : Txt (pairD k a b) := by
  intro n hn
  unfold pairD at hn
  rcases List.mem_append.1 hn with hn | hn
  · rcases List.mem_append.1 hn with hn | hn
    · exact ha n hn
    · obtain ⟨m, hm, rfl⟩ := List.mem_map.1 hn
      exact hb m hm
  · rw [List.mem_singleton] at hn
    subst hn; simp
theorem txt_wrap {k : Int} {a : List SNode} (ha : Txt a) : Txt (wrapD k a) := by
  intro n hn
  rcases List.mem_append.1 hn with hn | hn
  · exact ha n hn
  · rw [List.mem_singleton] at hn
    subst hn; simp
theorem law14_HeadsWays_true {d e : List SNode} (ht : Txt d) (hte : Txt e) : law14_HeadsWays d e true := by
  obtain ⟨r6, r10, h6, h6b, h10, h10b⟩ := guard14 ht
  obtain ⟨r8, r12, h8, h8b, h12, h12b⟩ := guard14 hte
  refine ⟨true, awake14, r6, fun _ => h6, r8, fun _ => h8, r10, fun h => ?_, r12, fun h => ?_, _, rfl, _, rfl, fun _ => ⟨true, awake14, rfl⟩, fun hb => ?_⟩
  · simp only [Bool.not_true, Bool.false_or, Bool.or_eq_false_iff, Bool.not_eq_false'] at h
    exact h10 h.1
  · simp only [Bool.not_true, Bool.false_or, Bool.or_eq_false_iff, Bool.not_eq_false'] at h
    exact h12 h.1.2
  simp only [Bool.not_true, Bool.false_or, Bool.or_eq_false_iff, Bool.not_eq_false', decide_eq_false_iff_not] at hb
  obtain ⟨⟨⟨⟨⟨g1, g2⟩, g3⟩, g4⟩, g5⟩, g6⟩ := hb
  have hD := h10b g1 g3
  have hE := h12b g2 g4
  have ld : d.length ≤ 10 := by omega
  have le : e.length ≤ 10 := by omega
  have hO := pair_rt (k := 5) hD hE (.inr rfl)
  have hS := pair_rt (k := 4) dE_rt hD (.inl rfl)
  have hF := wrap_rt (k := 8) hD (.inr (.inl rfl)) (fun h => by omega)
  have tE : Txt dE := txt_small (by decide)
  have lO := pair_len 5 d e
  have lS := pair_len 4 dE d
  have lE : dE.length = 1 := rfl
  have lF := wrap_len 8 d
  have sA := sm_start hD (by omega) ht
  have sB := sm_start hE (by omega) hte
  have sC := sm_start hO (by omega) (txt_pair ht hte)
  have sG := sm_start hF (by omega) (txt_wrap ht)
  have sH := sm_start hS (by omega) (txt_pair tE ht)
  obtain ⟨A, a1, _, a3⟩ := heads_both sA
  obtain ⟨B, b1, _, b3⟩ := heads_both sB
  obtain ⟨C, c1, _, c3⟩ := heads_both sC
  obtain ⟨G, f1, _, f3⟩ := heads_both sG
  obtain ⟨H, i1, _, i3⟩ := heads_both sH
  have hrdy : rdy (wrapD 8 d) [(1, ((wrapD 8 d).length : Int) - 1, 0, 0)] = true := by
    have er : ((wrapD 8 d).length : Int) - 1 = (d.length : Int) := by rw [lF]; omega
    rw [er]
    simp only [rdy]
    rw [wrap_root]
    rfl
  have eG := rdy_heads sG hrdy f3
  subst eG
  have pC := or_perm hD hE a3 b3 c3
  have pH := seq_perm hD a3 i3
  have pA := split_perm hD.toROk a3
  have pB := split_perm hE.toROk b3
  have lC := pC.length_eq
  have lA := pA.length_eq
  have lB := pB.length_eq
  have lH := pH.length_eq
  have uC := sumB_perm pC
  have uA := sumB_perm pA
  have uB := sumB_perm pB
  have uH := sumB_perm pH
  rw [sumB_sh] at uH
  simp only [sumB_app, sumB_sh, zB_sum] at uC uA uB
  simp only [List.length_append, List.length_map, zB_len] at lC lA lB lH
  have kA := heads_len sA a3
  have kB := heads_len sB b3
  have kC := heads_len sC c3
  have kH := heads_len sH i3
  have mny : ∀ {f : List SItem → Nat} {X : List SBranch}, Can f X → ∀ b ∈ X, 0 ≤ b.2 ∧ b.2 ≤ 2 := fun h b hb => by have := h.many hb; omega
  have jA := sumB_le (mny a3)
  have jB := sumB_le (mny b3)
  have fin : ∀ z : Int, z = (if nw d ((d.length : Int) - 1) ≠ 0 ∧ nw e ((e.length : Int) - 1) ≠ 0 then 1 else 0) → law14_HeadsWays.j1 true (pairD 4 dE d) (wrapD 8 d) A B C [([(1, ((wrapD 8 d).length : Int) - 1, 0, 0)], 1)] z := by
    intro z hz
    have hz01 : 0 ≤ z ∧ z ≤ 1 := by rw [hz]; split <;> omega
    have t1 : (C.length : Int) = (A.length : Int) + (B.length : Int) - z := by
      rw [hz]
      generalize nw d ((d.length : Int) - 1) = x at *
      generalize nw e ((e.length : Int) - 1) = y at *
      by_cases hx : x = 0
      · by_cases hy : y = 0
        · simp [hx, hy] at lA lB lC ⊢; omega
        · simp [hx, hy] at lA lB lC ⊢; omega
      · by_cases hy : y = 0
        · simp [hx, hy] at lA lB lC ⊢; omega
        · simp [hx, hy] at lA lB lC ⊢; omega
    have t2 : z = 0 → sumB C = sumB A + sumB B := by
      intro h0
      rw [uA, uB, uC]
      rw [hz] at h0
      generalize nw d ((d.length : Int) - 1) = x at *
      generalize nw e ((e.length : Int) - 1) = y at *
      have hxy : x = 0 ∨ y = 0 := by
        by_cases hx : x = 0
        · exact .inl hx
        · by_cases hy : y = 0
          · exact .inr hy
          · rw [if_pos ⟨hx, hy⟩] at h0; omega
      have : sat (x + y) = sat x + sat y := by unfold sat; omega
      omega
    have b85 : (((C.length : Int) != (A.length : Int) + (B.length : Int) - z) || ((z == 0) && (sumB C != (sumB A + sumB B)))) = false := by
      rw [Bool.or_eq_false_iff]
      refine ⟨by rw [t1]; simp, ?_⟩
      by_cases h0 : z = 0
      · rw [t2 h0]; simp
      · simp [h0]
    refine ⟨i64_of (by omega) (by omega), i64_of (by omega) (by omega), _, rfl, _, fun _ => sum_in kC (mny c3), _, fun _ => sum_in kA (mny a3), _, fun _ => sum_in kB (mny b3), fun _ => i64_of (by omega) (by omega), false, b85.symm, ([(1, ((wrapD 8 d).length : Int) - 1, 0, 0)], 1), fun _ => rfl, false, by simp, ([(1, ((wrapD 8 d).length : Int) - 1, 0, 0)], 1), fun _ => rfl, _, fun _ => start_in (by omega), true, fun _ => ?_, (fun h => by simp at h), fun _ => ⟨_, start_in (by omega), H, i1, _, fun _ => sum_in kH (mny i3), _, fun _ => sum_in kA (mny a3), true, ?_, rfl⟩⟩
    · have := ref13_Same_in (a := [(1, ((wrapD 8 d).length : Int) - 1, 0, 0)]) (b := [(1, ((wrapD 8 d).length : Int) - 1, 0, 0)]) (by simp) (by simp)
      simpa using this
    · rw [lH, uH]; simp
  refine ⟨_, Pair_in hD.tr hE.tr (by omega) (by omega), _, Pair_in dE_rt.tr hD.tr (by decide) (by omega), _, Wrap_in hD.tr (by omega), _, start_in (by omega), A, a1, _, start_in (by omega), B, b1, _, start_in (by omega), C, c1, _, start_in (by omega), _, f1, i64_of (by omega) (by omega), _, start_ways hD (by omega), fun _ => i64_of (by omega) (by omega), _, fun _ => start_ways hE (by omega), fun h => fin 1 ?_, fun h => fin 0 ?_⟩
  · simp only [Bool.and_eq_true, decide_eq_true_eq] at h
    rw [if_pos]
    unfold sat at h; omega
  · rw [if_neg]
    rintro ⟨h1, h2⟩
    have : ((decide (0 < sat (nw d ((d.length : Int) - 1)))) && (decide (0 < sat (nw e ((e.length : Int) - 1))))) = true := by
      simp only [Bool.and_eq_true, decide_eq_true_eq]
      unfold sat; omega
    rw [this] at h; cases h
end Go.Proofs.YtdidjelkkanenaaDoor.V
namespace Go.Proofs.YtdidjelkkanenaaDoor.V
open Go Go.ChangeShapes Go.WideShapes Go.RowKit
set_option linter.unusedVariables false
structure Rd (P : Program) (t : TypeId) {α : Type} (E : En α) (G : α → Prop) : Prop where
  sz : P.cellsOf t = E.sz
  rd : ∀ {H : Type} (enc : TypeId × Value → H) (w : World) (fuel : Nat) (cs : List Value) (x : DataW H × List MemPlace),
    DataW.trod enc P w 0 (fun _ => true) true fuel t cs = some x → (∀ n ∈ x.1.weights P t, n ≤ reachBytes) → ∃ y, E.R w (fun b => b < w.heap.size) cs y ∧ G y
  vl : ∀ (w : World) (v : Value), Value.okWide P w .any 0 t v → (∃ y, E.R w (fun b => b < w.heap.size) v.cells.toList y) → v = E.val v.cells.toList
theorem Rd.int {P : Program} {t : TypeId} {k : IntKind} (ht : P.underlying t = some (.int k)) (hc : P.cellsOf t = 1) : Rd P t (En.int k) (InR k) := by
  refine ⟨hc, ?_, ?_⟩
  · intro H enc w fuel cs x h _
    obtain ⟨n, rfl, _, hw⟩ := DataW.trod_int ht h
    have : InR k n := by simpa [Lit.wf, InR] using hw
    exact ⟨n, ⟨rfl, this⟩, this⟩
  · intro w v hv _
    obtain ⟨n, rfl⟩ := okWide_int ht hv
    rfl
theorem Rd.bool {P : Program} {t : TypeId} (ht : P.underlying t = some .bool) (hc : P.cellsOf t = 1) : Rd P t En.bool (fun _ => True) := by
  refine ⟨hc, ?_, ?_⟩
  · intro H enc w fuel cs x h _
    obtain ⟨b, rfl, _⟩ := DataW.trod_bool ht h
    exact ⟨b, rfl, trivial⟩
  · intro w v hv _
    simp only [Value.okWide, ht, Cell.okWide, Cell.ok] at hv
    cases v <;> simp at hv
    rfl
theorem Rd.str {P : Program} {t : TypeId} (ht : P.underlying t = some .string) (hc : P.cellsOf t = 1) : Rd P t En.str (fun y => y.length ≤ 140737488351232) := by
  refine ⟨hc, ?_, ?_⟩
  · intro H enc w fuel cs x h hwt
    obtain ⟨s, rfl, hx, hs⟩ := DataW.trod_string ht h
    have hl : s.data.toList.length ≤ 9223372036854775807 := by simpa [maxLen] using hs
    have h2 : s.data.toList.length ≤ 140737488351232 := hwt _ (by rw [hx]; simp [DataW.weights])
    exact ⟨s.data.toList, ⟨rfl, hl⟩, h2⟩
  · intro w v hv _
    simp only [Value.okWide, ht, Cell.okWide, Cell.ok] at hv
    cases v <;> simp at hv
    rfl
theorem weights_all {H : Type} {P : Program} {e : TypeId} : ∀ {l : List (DataW H)} {d : DataW H}, d ∈ l → ∀ n ∈ d.weights P e, n ∈ DataW.weightsAll P e l
  | [], _, h, _, _ => by cases h
  | d' :: l, d, h, n, hn => by
    simp only [DataW.weightsAll, List.mem_append]
    rcases List.mem_cons.1 h with rfl | h
    · exact .inl hn
    · exact .inr (weights_all h n hn)
theorem Rd.slice {P : Program} {t e : TypeId} {α : Type} {E : En α} {G : α → Prop} (ht : P.underlying t = some (.slice e)) (hc : P.cellsOf t = 1) (hby : Nat.blt 0 (P.bytesOf e) = true) (he : Rd P e E G) :
    Rd P t (En.slice E) (fun xs => xs.length ≤ 140737488351232 ∧ ∀ y ∈ xs, G y) := by
  refine ⟨hc, ?_, ?_⟩
  · intro H enc w fuel cs x h hwt
    rcases Deep.open_slice ht h with ⟨rfl, _⟩ | ⟨a, len, cap, m, n, D, Pl, rfl, hb, hl, hm, hmm, hxe, hx⟩
    · exact ⟨[], ⟨_, rfl, slV_nil E _ _⟩, Nat.zero_le _, by simp⟩
    · simp only [if_true] at hmm
      subst hmm
      have hall : ∀ i, i < len → ∃ p : α × List Value, w.cells? 0 (a.add (i * P.cellsOf e)) (P.cellsOf e) = some p.2 ∧ E.R w (fun b => b < w.heap.size) p.2 p.1 ∧ G p.1 := fun i hi => by
        obtain ⟨cs', h1, h2⟩ := hx i (by omega)
        obtain ⟨y, h3, h4⟩ := he.rd enc w n cs' _ h2 fun q hq => hwt q (by
          rw [hxe]
          simp only [DataW.weights, ht, List.mem_cons, List.mem_append]
          exact .inr (.inl (weights_all (List.mem_map.2 ⟨i, by simpa using hi, rfl⟩) q hq)))
        exact ⟨(y, cs'), h1, h3, h4⟩
      have hmax2 : len ≤ 140737488351232 := by
        have h1 := hwt ((len + (m - len)) * P.bytesOf e) (by rw [hxe]; simp [DataW.weights, ht])
        have h2 : 0 < P.bytesOf e := Nat.le_of_ble_eq_true hby
        have h3 : (len + (m - len)) * 1 ≤ (len + (m - len)) * P.bytesOf e := Nat.mul_le_mul_left _ h2
        have h4 : reachBytes = 140737488351232 := rfl
        omega
      have hmax : len ≤ lim := by have : maxLen ≤ lim := by decide
                                  omega
      by_cases h0 : len = 0
      · subst h0
        exact ⟨[], ⟨_, rfl, some a, m, rfl, Nat.zero_le _, (fun h => by cases h), Nat.zero_le _, fun h => absurd rfl h⟩, Nat.zero_le _, by simp⟩
      have hinh : Inhabited (α × List Value) := ⟨(hall 0 (by omega)).choose⟩
      obtain ⟨f, hf⟩ := Deep.choose_lt hall
      have hsz := E.pos
      rw [← he.sz] at hsz
      obtain ⟨hcell0, hblk⟩ : a.spot = none ∧ a.block < w.heap.size := by
        obtain ⟨_, hl2, hcl⟩ := World.cells?_some (hf 0 (by omega)).1
        have h2 := hcl 0 hsz
        rw [List.getElem?_eq_getElem (by omega)] at h2
        simp only [Nat.zero_mul, Addr.add, if_true, World.cell?] at h2
        cases hb2 : w.heap[a.block]? with
        | none => simp [hb2] at h2
        | some o =>
          refine ⟨?_, (Array.getElem?_eq_some_iff.1 hb2).1⟩
          cases o <;> simp [hb2] at h2
          exact h2.1
      refine ⟨(List.range len).map (fun i => (f i).1), ⟨_, rfl, some a, m, ?_, by simpa using hl, (fun h => by cases h), by simpa using hmax, fun _ => ⟨a.block, a.off, (List.range len).map (fun i => (f i).2), ?_, hblk, ⟨by simp, ?_⟩, ?_⟩⟩, by simpa using hmax2, ?_⟩
      · simp
      · cases a; simp at hcell0; subst hcell0; rfl
      · intro i c y hc1 hy1
        have hi : i < len := by have := (List.getElem?_eq_some_iff.1 hc1).1; simpa using this
        simp [hi] at hc1 hy1
        subst hc1; subst hy1
        exact (hf i hi).2.1
      · have hlens : ∀ c ∈ (List.range len).map (fun i => (f i).2), c.length = E.sz := by
          intro c hc
          simp only [List.mem_map, List.mem_range] at hc
          obtain ⟨i, hi, rfl⟩ := hc
          rw [(World.cells?_some (hf i hi).1).2.1, he.sz]
        intro j u hj
        have hjl : j < len * E.sz := by
          have := (List.getElem?_eq_some_iff.1 hj).1
          rw [flat_len hlens] at this; simpa using this
        have hp : 0 < E.sz := E.pos
        have hi : j / E.sz < len := Nat.div_lt_of_lt_mul (by rw [Nat.mul_comm]; exact hjl)
        have hk : j % E.sz < E.sz := Nat.mod_lt _ hp
        obtain ⟨_, hl2, hcl⟩ := World.cells?_some (hf _ hi).1
        have hcell := hcl (j % E.sz) (by rw [he.sz]; exact hk)
        rw [he.sz] at hl2
        have hg := flat_get hlens (i := j / E.sz) (cs := (f (j / E.sz)).2) (j := j % E.sz) (u := (f (j / E.sz)).2[j % E.sz]'(by omega)) (by simp [hi]) (by simp)
        rw [Nat.mul_comm, Nat.div_add_mod] at hg
        rw [hg] at hj
        rw [List.getElem?_eq_getElem (by omega), hj, Deep.add_add, he.sz, Nat.mul_comm, Nat.div_add_mod] at hcell
        rw [← hcell]
        cases a; simp at hcell0; subst hcell0; rw [add_lit]
      · intro y hy
        simp only [List.mem_map, List.mem_range] at hy
        obtain ⟨i, hi, rfl⟩ := hy
        exact (hf i hi).2.2
  · intro w v hv _
    simp only [Value.okWide, ht, Cell.okWide, Cell.ok] at hv
    cases v <;> simp at hv
    rfl
theorem u64_word {n : Int} (h : InR .u64 n) : ∃ m : Nat, m < 2 ^ 64 ∧ n = m := by
  simp [InR, IntKind.min, IntKind.max, IntKind.signed, IntKind.bits] at h
  exact ⟨n.toNat, by omega, by omega⟩
theorem Rd.cls {P : Program} {t e : TypeId} (ht : P.underlying t = some (.array 4 e)) (hc : P.cellsOf t = 4) (he : P.underlying e = some (.int .u64)) (hce : P.cellsOf e = 1) : Rd P t En.cls (fun _ => True) := by
  refine ⟨hc, ?_, ?_⟩
  · intro H enc w fuel cs x h _
    obtain ⟨xs, m, rfl, rfl, hlen, hn, hx⟩ := DataW.trod_array ht h
    rw [hc] at hlen
    match cs, hlen with
    | [u0, u1, u2, u3], _ =>
      have hx' : ∀ i (hi : i < 4) u, [u0, u1, u2, u3][i]? = some u → ∃ q : Nat, q < 2 ^ 64 ∧ u = .int .u64 q := by
        intro i hi u hu
        have h1 := hx i hi
        rw [hce, Nat.mul_one, List.getElem?_eq_getElem (by omega)] at h1
        have h2 : List.take 1 (List.drop i [u0, u1, u2, u3]) = [u] := by
          match i, hi with
          | 0, _ | 1, _ | 2, _ | 3, _ => simp at hu; subst hu; rfl
        rw [h2] at h1
        obtain ⟨n, h3, _, h4⟩ := DataW.trod_int he h1
        obtain ⟨q, hq, rfl⟩ := u64_word (n := n) (by simpa [Lit.wf, InR] using h4)
        simp at h3
        exact ⟨q, hq, h3⟩
      obtain ⟨q0, h0, rfl⟩ := hx' 0 (by omega) u0 rfl
      obtain ⟨q1, h1, rfl⟩ := hx' 1 (by omega) u1 rfl
      obtain ⟨q2, h2, rfl⟩ := hx' 2 (by omega) u2 rfl
      obtain ⟨q3, h3, rfl⟩ := hx' 3 (by omega) u3 rfl
      refine ⟨Cl.ofWords q0 q1 q2 q3, ?_, trivial⟩
      obtain ⟨e0, e1, e2, e3⟩ := Cl.ofWords_word h0 h1 h2 h3
      show _ = clsCells _
      unfold clsCells
      rw [e0, e1, e2, e3]
  · intro w v hv _
    simp only [Value.okWide, ht] at hv
    obtain ⟨cs, rfl, _⟩ := hv
    simp [En.val, En.cls, Value.cells]
structure RdF (P : Program) (fs : List Field) (o : Nat) {α : Type} (E : En α) (G : α → Prop) : Prop where
  rd : ∀ {H : Type} (enc : TypeId × Value → H) (w : World) (fuel : Nat) (cs : List Value) (xs : List (DataW H × List MemPlace)), xs.length = fs.length →
    (∀ (i : Nat) (f : Field), fs[i]? = some f → DataW.trod enc P w 0 (fun _ => true) true fuel f.type ((cs.drop f.offset).take (P.cellsOf f.type)) = xs[i]?) →
    (∀ n ∈ DataW.weightsEach P (fs.map (·.type)) (xs.map (·.1)), n ≤ reachBytes) → ∃ y, E.R w (fun b => b < w.heap.size) ((cs.drop o).take E.sz) y ∧ G y
theorem RdF.last {P : Program} {f : Field} {o : Nat} {α : Type} {E : En α} {G : α → Prop} (h : Rd P f.type E G) (ho : f.offset = o) : RdF P [f] o E G := ⟨by
  intro H enc w fuel cs xs hl hx hw
  obtain ⟨x, rfl⟩ : ∃ x, xs = [x] := List.length_eq_one_iff.1 hl
  have h1 := hx 0 f rfl
  rw [ho, h.sz] at h1
  exact h.rd enc w fuel _ x h1 fun n hn => hw n (by simp [DataW.weightsEach, hn])⟩
theorem RdF.solo {P : Program} {fs : List Field} {o : Nat} {α : Type} {E : En α} {G : α → Prop} (h : RdF P fs o E G) : RdF P fs o E.solo G := ⟨h.rd⟩
theorem take_add_split {xs : List Value} {o m n : Nat} : (xs.drop o).take (m + n) = (xs.drop o).take m ++ (xs.drop (o + m)).take n := by
  rw [List.take_add, List.drop_drop]
theorem RdF.cons {P : Program} {f : Field} {fs : List Field} {o : Nat} {α β : Type} {E : En α} {F : En β} {G : α → Prop} {K : β → Prop} (h : Rd P f.type E G) (ho : f.offset = o) (hr : RdF P fs (o + E.sz) F K) : RdF P (f :: fs) o (E.cat F) (fun x => G x.1 ∧ K x.2) := ⟨by
  intro H enc w fuel cs xs hl hx hw
  obtain ⟨x, xs', rfl⟩ : ∃ x xs', xs = x :: xs' := by
    cases xs with
    | nil => simp at hl
    | cons x xs' => exact ⟨x, xs', rfl⟩
  have h1 := hx 0 f rfl
  rw [ho, h.sz] at h1
  obtain ⟨y, hy1, hy2⟩ := h.rd enc w fuel _ x h1 fun n hn => hw n (by simp [DataW.weightsEach, hn])
  obtain ⟨z, hz1, hz2⟩ := hr.rd enc w fuel cs xs' (by simpa using hl) (fun i g hg => by have := hx (i + 1) g (by simpa using hg); simpa using this) fun n hn => hw n (by
    simp only [List.map_cons, DataW.weightsEach, List.mem_append]; exact .inr hn)
  exact ⟨(y, z), ⟨_, _, take_add_split, hy1, hz1⟩, hy2, hz2⟩⟩
theorem Rd.struct {P : Program} {t : TypeId} {fs : Array Field} {α : Type} {E : En α} {G : α → Prop} (ht : P.underlying t = some (.struct fs)) (ha : E.agg = true) (hc : P.cellsOf t = E.sz) (h : RdF P fs.toList 0 E G) : Rd P t E G := by
  refine ⟨hc, ?_, ?_⟩
  · intro H enc w fuel cs x hx hw
    obtain ⟨xs, n, rfl, rfl, hlen, hxl, hf⟩ := DataW.trod_struct ht hx
    obtain ⟨y, hy1, hy2⟩ := h.rd enc w n cs xs (by simpa using hxl) (fun i f hi => hf i f (by simpa using hi)) fun q hq => hw q (by
      simp only [DataW.weights, ht]; exact hq)
    rw [List.drop_zero, List.take_of_length_le (by rw [hlen, hc]; exact Nat.le_refl _)] at hy1
    exact ⟨y, hy1, hy2⟩
  · intro w v hv _
    obtain ⟨cs, rfl, _⟩ := okWide_struct ht hv
    unfold En.val
    rw [ha]
    simp [Value.cells]
theorem Rd.open {P : Program} {t : TypeId} {α : Type} {E : En α} {G : α → Prop} (hr : Rd P t E G) {H : Type} {enc : TypeId × Value → H} {W : World} {v : Value} {d : DataW H} {p : List MemPlace}
    (hv : Value.okWide P W .any 0 t v) (hd : DataW.Trod enc P W 0 (fun _ => true) true t v d p) (hw : ∀ n ∈ d.weights P t, n ≤ reachBytes) : ∃ y, (Pd.rep E y).p ⟨W, fun _ => False, fun _ h => h.elim⟩ v ∧ G y := by
  obtain ⟨fuel, h⟩ := hd
  obtain ⟨y, hy, hg⟩ := hr.rd enc W fuel _ _ h hw
  refine ⟨y, ⟨v.cells.toList, hr.vl W v hv ⟨y, hy⟩, ?_⟩, hg⟩
  exact E.mono (fun b hb => ⟨hb, fun h => h⟩) hy
theorem Ex.below {s s' : St} (h : Ex s s') : Below s.w.heap.size s.w s'.w := ⟨h.mv.os, h.mv.tape, h.mv.output, h.mv.size, fun k hk => h.mv.blk k hk (fun h => h)⟩
theorem okWide_any {P : Program} {W : World} {b : Nat} {t : TypeId} {v : Value} (h : Value.okWide P W .any b t v) : Value.okWide P W .any 0 t v := by
  unfold Value.okWide Row.okWide Cell.okWide Cell.ok World.has at *
  exact h
section
variable {H : Type} {enc : TypeId × Value → H} {P : Program}
theorem stays {W W' : World} (hl : laidOutB P = true) (hb : Below W.heap.size W W') {sp : Nat → Bool} : ∀ {ts : List TypeId} {vs : List Value} {ds : List (DataW H)} {ps : List MemPlace},
    (ts.all fun t => P.readableRec t && decide (t < P.types.size)) = true → DataW.TrodAll enc P W 0 (fun _ => true) true ts vs ds ps → (∀ p ∈ ps, p.block < W.heap.size) → (∀ p ∈ ps, sp p.block = true) →
    DataW.TrodAll enc P W' 0 sp true ts vs ds ps
  | [], vs, ds, ps, _, h, _, _ => by
    obtain ⟨rfl, rfl, rfl⟩ := trodAll_nil h
    exact trodAll_mk0
  | t :: ts, vs, ds, ps, ha, h, hlt, hsp => by
    obtain ⟨v, vs', d, ds', p, q, rfl, rfl, rfl, h1, h2⟩ := trodAll_cons h
    simp only [List.all_cons, Bool.and_eq_true, decide_eq_true_eq] at ha
    refine trodAll_cons_mk (WideElems.Trod_stays hl ha.1.1 ha.1.2 h1 (fun x hx => hb.same (hlt x (List.mem_append_left _ hx))) fun x hx => hsp x (List.mem_append_left _ hx)) ?_
    exact stays hl hb (by simpa using ha.2) h2 (fun x hx => hlt x (List.mem_append_right _ hx)) fun x hx => hsp x (List.mem_append_right _ hx)
theorem post_law {f : Func} {s : ChangeSpec} {apart fresh handsOn again : Bool} {W W' : World} {args : Array Value} {v : Value} {ds gs : List (DataW H)} {before : List MemPlace} {tb : TypeId}
    (hW : DataW.Whole enc P f.params.toList s.vars apart W args.toList ds gs before) (hb : Below W.heap.size W W') (hl : laidOutB P = true)
    (hrd : (f.params.toList.all fun t => P.readableRec t && decide (t < P.types.size)) = true) (hs : s.vars = []) (hrt : f.resultTypes = #[tb]) (hub : P.underlying tb = some .bool) (hv : v = .bool true)
    (hres : (s.fn H (ds ++ gs)).results = [.lit (.bool true)]) (hargs : (s.fn H (ds ++ gs)).args = ds) (hvars : (s.fn H (ds ++ gs)).vars = []) : s.post enc P f apart fresh handsOn again W args v W' := by
  subst hv
  have hlt := hW.lt
  have hW' := hW
  obtain ⟨p, q, hA, hV, rfl, hz, hn⟩ := hW
  rw [hs] at hV
  obtain ⟨rfl, rfl⟩ := trodVars_none hV
  have hsub : ∀ x ∈ p, x ∈ p ++ ([] : List MemPlace) := fun x hx => by simpa using hx
  have harg : ∀ sp : Nat → Bool, (∀ x ∈ p ++ ([] : List MemPlace), sp x.block = true) → DataW.TrodAll enc P W' 0 sp true f.params.toList args.toList (s.fn H (ds ++ [])).args p := fun sp hsp => by
    rw [hargs]
    exact stays hl hb hrd hA (fun x hx => hlt x (hsub x hx)) fun x hx => hsp x (hsub x hx)
  have hvar : ∀ sp : Nat → Bool, DataW.TrodVars enc P W' sp s.vars (s.fn H (ds ++ [])).vars [] := fun sp => by rw [hs, hvars]; exact rfl
  have hr : ∀ (b : Nat) (sp : Nat → Bool) (hd : Bool), DataW.TrodAll enc P W' b sp hd f.resultTypes.toList ((Value.bool true).resultList f.resultTypes.size) (s.fn H (ds ++ [])).results [] := fun b sp hd => by
    rw [hres, hrt]
    exact trodAll_cons_mk (shut_bool hub _) trodAll_mk0
  have hold : ∀ x ∈ p ++ ([] : List MemPlace), (fun b => decide (b < W.heap.size)) x.block = true := fun x hx => by simpa using hlt x hx
  refine ⟨ds, [], p ++ [], [], p, [], hW', hr _ _ _, harg _ hold, hvar _, World.keptBut_mono (fun x hx => ⟨hx, ?_⟩) (hb.frame (· ∈ p ++ [])), fun _ => ?_⟩
  · simpa using hx
  · refine ⟨ok_one hrt rfl (okWide_bool_mk hub _), _, _, ([] ++ p) ++ [], ⟨[] ++ p, [], trodAll_append (harg _ (fun _ _ => rfl)) (hr _ _ _), hvar _, rfl, ?_, ?_⟩, ?_⟩
    · intro b off hp
      have hp' : MemPlace.cell b off ∈ p ++ ([] : List MemPlace) := by simpa using hp
      rw [hb.frozen (p := ⟨b, off, none⟩) (hlt _ hp')]
      exact hz b off hp'
    · intro ha
      simpa using hn ha
    · intro x hx _
      simpa using hx
end
end Go.Proofs.YtdidjelkkanenaaDoor.V
namespace Go.Proofs.YtdidjelkkanenaaDoor.V
open Go Go.ChangeShapes Go.WideShapes Go.RowKit
set_option linter.unusedVariables false
def lst : List (String × DataW Unit) := [("math/bits.deBruijn32tab", Rows.laid_math_bits_deBruijn32tab), ("math/bits.deBruijn64tab", Rows.laid_math_bits_deBruijn64tab), ("internal/strconv.uint64pow10", Rows.laid_internal_strconv_uint64pow10), ("scantling/heads.readies", Rows.laid_scantling_heads_readies)]
theorem cells_of_bools {H : Type} {enc : TypeId × Value → H} {P : Program} {w : World} {base : Nat} {sp : Nat → Bool} {held : Bool} {fuel : Nat} {t e : TypeId} {n : Nat} {cs : List Value} {bs : List Bool} {p : List MemPlace}
    (ht : P.underlying t = some (.array n e)) (he : P.underlying e = some .bool) (hce : P.cellsOf e = 1) (hct : P.cellsOf t = n)
    (h : DataW.trod enc P w base sp held fuel t cs = some (.agg (bs.map fun b => .lit (.bool b)), p)) : cs = bs.map Value.bool := by
  obtain ⟨xs, m, rfl, hx, hl, hn, hf⟩ := DataW.trod_array ht h
  have hx1 := congrArg Prod.fst hx
  simp only [DataW.agg.injEq] at hx1
  have hbl : bs.length = n := by
    have := congrArg List.length hx1
    simp at this; omega
  apply List.ext_getElem?
  intro i
  by_cases hi : i < n
  · have h1 := hf i hi
    rw [hce, Nat.mul_one, List.getElem?_eq_getElem (by omega)] at h1
    obtain ⟨b, hc, hb⟩ := DataW.trod_bool he h1
    have h2 : cs[i]? = some (.bool b) := by
      have := congrArg (·[0]?) hc
      simpa [List.getElem?_take, List.getElem?_drop] using this
    have h3 : (bs.map fun b => (DataW.lit (.bool b) : DataW H))[i]? = some (.lit (.bool b)) := by
      rw [hx1, List.getElem?_map, List.getElem?_eq_getElem (by omega), hb]; rfl
    rw [List.getElem?_map, Option.map_eq_some_iff] at h3
    obtain ⟨b', hb', e⟩ := h3
    cases e
    rw [h2, List.getElem?_map, hb']; rfl
  · rw [List.getElem?_eq_none (by omega), List.getElem?_eq_none (by simp; omega)]
def Tabs (W : World) : Prop := Lib.TabIs Tryd.prog W "internal/strconv.uint64pow10" .u64 Lib.pow10Tab ∧ W.var? Tryd.prog "scantling/heads.readies" = some (gdat0.map Value.bool).toArray
theorem tab_of_laid {W : World} (h : laidMetH Tryd.prog lst W) : Tabs W := by
  have h' : laidMet Tryd.prog lst W := h
  unfold lst at h'
  refine ⟨?_, ?_⟩
  · have e : (Rows.laid_internal_strconv_uint64pow10 : DataW Unit) = Lib.tabData .u64 Lib.pow10Tab := by kernel_rfl
    have h2 := h'.tail.tail
    rw [e] at h2
    exact Lib.tabIs_of_head (g := 2) (t := 159) (e := 44) (n := 20) (by kernel_rfl) (by kernel_rfl) Tryd.underlying159 Tryd.underlying44 (by kernel_rfl) (by kernel_rfl) h2
  · have e : (Rows.laid_scantling_heads_readies : DataW Unit) = .agg (gdat0.map fun b => .lit (.bool b)) := by kernel_rfl
    have h2 := h'.tail.tail.tail
    rw [e] at h2
    obtain ⟨ps, ⟨g', t', cs, fuel, p, q, hg', ht', hvar, hd, _, _⟩, _⟩ := h2
    have hg : Tryd.prog.globalNamed "scantling/heads.readies" = some 0 := by kernel_rfl
    have hty : (Tryd.prog.globals[0]?).map (·.type) = some 68 := by kernel_rfl
    obtain rfl := Option.some.inj (hg.symm.trans hg')
    obtain rfl := Option.some.inj (hty.symm.trans ht')
    rw [hvar, ← cells_of_bools Tryd.underlying68 (e := 4) Tryd.underlying4 (by kernel_rfl) (by kernel_rfl) hd]
theorem gl_of_tab {W : World} (h : Tabs W) : Gl ⟨W, fun _ => False, fun _ h => h.elim⟩ := by
  obtain ⟨h1, h2⟩ := h
  intro p hp
  unfold gtab at hp
  rcases List.mem_cons.1 hp with rfl | hp
  · refine ⟨fun h => h, ?_⟩
    unfold Lib.TabIs World.var? at h1
    have hg : Tryd.prog.globalNamed "internal/strconv.uint64pow10" = some 2 := by kernel_rfl
    rw [hg] at h1
    simp only [Option.bind_some] at h1
    split at h1
    · rename_i cs t fr hc
      refine ⟨t, fr, ?_⟩
      show W.heap[2]? = _
      rw [hc]
      simp only [Option.some.injEq] at h1
      rw [h1]
      simp [Lib.pow10Tab]
    · cases h1
  · obtain rfl := List.mem_singleton.1 hp
    refine ⟨fun h => h, ?_⟩
    unfold World.var? at h2
    have hg : Tryd.prog.globalNamed "scantling/heads.readies" = some 0 := by kernel_rfl
    rw [hg] at h2
    simp only [Option.bind_some] at h2
    split at h2
    · rename_i cs t fr hc
      refine ⟨t, fr, ?_⟩
      show W.heap[0]? = _
      rw [hc]
      simp only [Option.some.injEq] at h2
      rw [h2]
    · cases h2
def tabCells : DataW Unit → Array Value
  | .agg l => (l.map fun d => match d with | .lit (.int k z) => Value.int k z | .lit (.bool b) => Value.bool b | _ => undef).toArray
  | _ => #[]
def fillTab (d : DataW Unit) : Obj → Obj
  | .cells _ t fr => .cells (tabCells d) t fr
  | o => o
noncomputable def laidWorld (os : Os) : World :=
  let w0 := World.holding Tryd.prog os ⟨#[], #[], []⟩
  { w0 with heap := (((w0.heap.modify 0 (fillTab Rows.laid_scantling_heads_readies)).modify 2 (fillTab Rows.laid_internal_strconv_uint64pow10)).modify 3 (fillTab Rows.laid_math_bits_deBruijn32tab)).modify 4 (fillTab Rows.laid_math_bits_deBruijn64tab) }
theorem laid_met (os : Os) (args : Array Value) : laidMetH Tryd.prog lst ((laidWorld os).forCall (fun _ _ => 0) ⟨#[], args, []⟩).memory :=
  laidMetH_of_parts (laidMet_of_run' 8 (by kernel_rfl) (by kernel_rfl)) (by kernel_rfl)
theorem weigh {H : Type} {P : Program} {ts : List TypeId} {ds : List (DataW H)} (h : (DataW.weightsEach P ts ds).all (· ≤ reachBytes) = true) (j : Nat) {t : TypeId} {d : DataW H} (ht : ts[j]? = some t) (hd : ds[j]? = some d) : ∀ n ∈ d.weights P t, n ≤ reachBytes := fun n hn => by
  have := List.all_eq_true.1 h n (DataW.weights_mem_each ht hd n hn)
  simpa using this
end Go.Proofs.YtdidjelkkanenaaDoor.V
