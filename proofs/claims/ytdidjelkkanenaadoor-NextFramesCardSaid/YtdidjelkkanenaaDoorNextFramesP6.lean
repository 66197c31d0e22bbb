/-
  The texts that the law's proof needs, part 6.
-/
import Derived.Carry
import Derived.ChangeSame
import Derived.Deep.Slices
import Derived.Handed
import Derived.KernelRfl
import Derived.LaidHandle
import Derived.LaidLaws
import Derived.LaidMore
import Derived.Lib.LaidTab
import Derived.OpenShut
import Derived.ProofKit
import Derived.RowKit
import Derived.SizedLaws
import Derived.Stop.LaidErr
import Derived.Test.YtdidjelkkanenaaDoorRows
import Derived.WalkKit
import Derived.WideKeyElems2
import Derived.Test.YtdidjelkkanenaaDoorNextFramesP5
namespace Go.Proofs.YtdidjelkkanenaaDoor.V
open Go
set_option linter.unusedVariables false
def stepL (d : List SNode) (c : Int) (s : List SItem) : List (List SItem) := (hds d s).filterMap fun t => if (readF d t c).2 = true then some (readF d t c).1 else none
def endsL (d : List SNode) : List Int → List SItem → List (List SItem)
  | [], s => [s]
  | c :: w, s => (stepL d c s).flatMap (endsL d w)
theorem endsL_snoc (d : List SNode) (c : Int) : ∀ (w : List Int) (s : List SItem), endsL d (w ++ [c]) s = (endsL d w s).flatMap (stepL d c)
  | [], s => by
    show (stepL d c s).flatMap (endsL d []) = _
    have : endsL d [] = fun t => [t] := by funext t; rfl
    rw [this]
    simp
  | e :: w, s => by
    show (stepL d e s).flatMap (endsL d (w ++ [c])) = ((stepL d e s).flatMap (endsL d w)).flatMap (stepL d c)
    rw [List.flatMap_assoc]
    congr 1
    funext t
    exact endsL_snoc d c w t
theorem sumF_flat (F : List SItem → Nat) (g : List SItem → List (List SItem)) (L : List (List SItem)) : sumF F (L.flatMap g) = sumF (fun t => sumF F (g t)) L := by
  induction L with
  | nil => rfl
  | cons t L ih =>
    rw [List.flatMap_cons, sumF_app, ih]
    simp [sumF]
theorem sumF_step (d : List SNode) (c : Int) (G : List SItem → Nat) (s : List SItem) : sumF G (stepL d c s) = sumF (fun t => if (readF d t c).2 = true then G (readF d t c).1 else 0) (hds d s) := by
  unfold stepL
  induction hds d s with
  | nil => rfl
  | cons t L ih =>
    rw [List.filterMap_cons]
    by_cases h : (readF d t c).2 = true
    · simp only [h, if_true]
      have : ∀ x (M : List (List SItem)), sumF G (x :: M) = G x + sumF G M := fun x M => by simp [sumF]
      rw [this, ih]
      simp [sumF, h]
    · simp only [h]
      rw [show sumF (fun t => if (readF d t c).2 = true then G (readF d t c).1 else 0) (t :: L) = sumF (fun t => if (readF d t c).2 = true then G (readF d t c).1 else 0) L by simp [sumF, h]]
      exact ih
theorem wyn_ends (d : List SNode) : ∀ (w : List Int) (s : List SItem), wyn d w s = sumF (fun u => (hds d u).count []) (endsL d w s)
  | [], s => by simp [wyn, endsL, sumF]
  | c :: w, s => by
    show sumF (fun t => if (readF d t c).2 = true then wyn d w (readF d t c).1 else 0) (hds d s) = sumF _ ((stepL d c s).flatMap (endsL d w))
    rw [sumF_flat, ← sumF_step d c (fun t => wyn d w t) s]
    exact sumF_congr fun t _ => wyn_ends d w t
theorem sum_nought {α : Type} (K : List α) : (K.map fun _ => (0 : Nat)).sum = 0 := by
  induction K with
  | nil => rfl
  | cons a K ih => rw [List.map_cons, List.sum_cons, ih]
theorem sum_single {g : List SItem → Nat} {t : List SItem} : ∀ {K : List (List SItem)}, K.Nodup → t ∈ K → (K.map fun k => (if k = t then 1 else 0) * g k).sum = g t
  | [], _, h => by cases h
  | k :: K, hn, h => by
    rw [List.nodup_cons] at hn
    rw [List.map_cons, List.sum_cons]
    by_cases e : k = t
    · subst e
      have z : (K.map fun k' => (if k' = k then 1 else 0) * g k').sum = 0 := by
        have : ∀ k' ∈ K, (if k' = k then 1 else 0) * g k' = 0 := fun k' hk => by
          have hne : k' ≠ k := fun e' => hn.1 (by rw [← e']; exact hk)
          rw [if_neg hne, Nat.zero_mul]
        rw [List.map_congr_left this, sum_nought]
      rw [z]; simp
    · rw [if_neg e, Nat.zero_mul, Nat.zero_add]
      exact sum_single hn.2 ((List.mem_cons.1 h).resolve_left fun h' => e h'.symm)
theorem sum_by {g : List SItem → Nat} {K : List (List SItem)} (hn : K.Nodup) : ∀ (L : List (List SItem)), (∀ t ∈ L, t ∈ K) → sumF g L = (K.map fun k => L.count k * g k).sum
  | [], _ => by
    have : ∀ k ∈ K, ([] : List (List SItem)).count k * g k = 0 := fun k _ => by simp
    rw [List.map_congr_left this, sum_nought]
    rfl
  | t :: L, h => by
    have ih := sum_by hn (g := g) L fun u hu => h u (by simp [hu])
    have e1 : sumF g (t :: L) = g t + sumF g L := by simp [sumF]
    have e2 : (K.map fun k => (t :: L).count k * g k).sum = (K.map fun k => L.count k * g k).sum + (K.map fun k => (if k = t then 1 else 0) * g k).sum := by
      clear h ih e1 hn
      induction K with
      | nil => rfl
      | cons a K ih =>
        simp only [List.map_cons, List.sum_cons]
        rw [ih, List.count_cons, Nat.add_mul]
        have : (if (t == a) = true then 1 else 0) = (if a = t then 1 else 0) := by
          by_cases h : a = t
          · subst h; simp
          · rw [if_neg (by simpa using fun e => h e.symm), if_neg h]
        rw [this]; omega
    rw [e1, ih, e2, sum_single hn (h t (by simp))]
    omega
theorem fB_step {d : List SNode} {s : List SItem} {B : List SBranch} (hB : Can (fun t => (hds d s).count t) B) (c : Int) (u : List SItem) : sat (fB d c B u) = sat ((stepL d c s).count u) := by
  have e1 : (stepL d c s).count u = sumF (fun t => if t = u then 1 else 0) (stepL d c s) := by
    induction stepL d c s with
    | nil => rfl
    | cons t L ih =>
      rw [List.count_cons, ih]
      unfold sumF
      rw [List.map_cons, List.sum_cons]
      by_cases h : t = u
      · simp [h]; omega
      · simp [h]
  rw [e1, sumF_step, sum_by hB.nodup (hds d s) fun t ht => (hB.keys t).2 (by have := List.count_pos_iff.2 ht; omega), List.map_map]
  unfold fB
  have key : ∀ b ∈ B, sat (if (readF d b.1 c).2 = true ∧ (readF d b.1 c).1 = u then b.2.toNat else 0) = sat ((hds d s).count b.1 * if (readF d b.1 c).2 = true then (if (readF d b.1 c).1 = u then 1 else 0) else 0) := fun b hb => by
    have h1 := (hB.many hb).1
    by_cases h2 : (readF d b.1 c).2 = true
    · by_cases h3 : (readF d b.1 c).1 = u
      · rw [if_pos ⟨h2, h3⟩, if_pos h2, if_pos h3, Nat.mul_one, h1]
        unfold sat; omega
      · rw [if_neg fun e => h3 e.2, if_pos h2, if_neg h3]; rfl
    · rw [if_neg fun e => h2 e.1, if_neg h2]; rfl
  clear hB e1
  induction B with
  | nil => rfl
  | cons b B ih =>
    have k1 := key b (by simp)
    have k2 := ih fun b' hb' => key b' (by simp [hb'])
    simp only [List.map_cons, List.sum_cons, Function.comp] at k2 ⊢
    unfold sat at *
    omega
end Go.Proofs.YtdidjelkkanenaaDoor.V
namespace Go.Proofs.YtdidjelkkanenaaDoor.V
open Go
set_option linter.unusedVariables false
theorem next_Ends_l {B : List SBranch} {f : List SItem → Nat} (hB : Can f B) (hl : B.length ≤ 10001) : ∃ k, next_Ends.l1 B (sat (f [])) (next_Ends.j1 (sat (f []))) k 0 := by
  refine upto (P := fun k (_ : Unit) v => next_Ends.l1 B (sat (f [])) _ k v) B.length (fun i _ => ∀ b ∈ B.take i, b.1 ≠ []) ?_ ?_ () (by simp)
  · intro i _ hi hn
    have hat : at? B (i : Int) = some B[i] := by rw [at_nat]; simp [hi]
    by_cases h0 : B[i].1 = []
    · refine .inl fun k => ⟨fun _ => ⟨_, hat, fun _ => ?_, fun h => by rw [h0] at h; simp at h⟩, fun h => absurd (by omega) (df h)⟩
      have := (hB.many (List.getElem_mem hi)).1
      rw [h0] at this; exact this.symm
    · refine .inr ⟨(), fun b hb => ?_, fun k hk => ⟨fun _ => ⟨_, hat, fun h => absurd (by simpa using h) h0, fun _ => ⟨i64_of (by omega) (by omega), hk⟩⟩, fun h => absurd (by omega) (df h)⟩⟩
      rw [List.take_succ_eq_append_getElem hi] at hb
      rcases List.mem_append.1 hb with hb | hb
      · exact hn b hb
      · rw [List.mem_singleton.1 hb]; exact h0
  · intro _ hn k
    refine ⟨fun h => absurd (dt h) (by omega), fun _ => ?_⟩
    show sat (f []) = 0
    rw [List.take_length] at hn
    have : f [] = 0 := by
      rcases Nat.eq_zero_or_pos (f []) with h | h
      · exact h
      · obtain ⟨b, hb, e⟩ := List.mem_map.1 ((hB.keys []).2 (by omega))
        exact absurd e (hn b hb)
    rw [this]; rfl
theorem ref15_Ends_l {B : List SBranch} {f : List SItem → Nat} (hB : Can f B) (hl : B.length ≤ 10001) : ∃ k, ref15_Ends.l1 B (sat (f [])) (ref15_Ends.j1 (sat (f []))) k 0 := by
  refine upto (P := fun k (_ : Unit) v => ref15_Ends.l1 B (sat (f [])) _ k v) B.length (fun i _ => ∀ b ∈ B.take i, b.1 ≠ []) ?_ ?_ () (by simp)
  · intro i _ hi hn
    have hat : at? B (i : Int) = some B[i] := by rw [at_nat]; simp [hi]
    by_cases h0 : B[i].1 = []
    · refine .inl fun k => ⟨fun _ => ⟨_, hat, fun _ => ⟨_, hat, ?_⟩, fun h => by rw [h0] at h; simp at h⟩, fun h => absurd (by omega) (df h)⟩
      have := (hB.many (List.getElem_mem hi)).1
      rw [h0] at this; exact this.symm
    · refine .inr ⟨(), fun b hb => ?_, fun k hk => ⟨fun _ => ⟨_, hat, fun h => absurd (by simpa using h) h0, fun _ => ⟨i64_of (by omega) (by omega), hk⟩⟩, fun h => absurd (by omega) (df h)⟩⟩
      rw [List.take_succ_eq_append_getElem hi] at hb
      rcases List.mem_append.1 hb with hb | hb
      · exact hn b hb
      · rw [List.mem_singleton.1 hb]; exact h0
  · intro _ hn k
    refine ⟨fun h => absurd (dt h) (by omega), fun _ => ?_⟩
    show sat (f []) = 0
    rw [List.take_length] at hn
    have : f [] = 0 := by
      rcases Nat.eq_zero_or_pos (f []) with h | h
      · exact h
      · obtain ⟨b, hb, e⟩ := List.mem_map.1 ((hB.keys []).2 (by omega))
        exact absurd e (hn b hb)
    rw [this]; rfl
theorem ends_both {d : List SNode} {s : List SItem} (h : Sm d s) : next_Ends d s (sat ((hds d s).count [])) ∧ ref15_Ends d s (sat ((hds d s).count [])) := by
  obtain ⟨B, b1, b2, b3⟩ := heads_both h
  have hl := heads_few h b3
  exact ⟨⟨B, b1, next_Ends_l b3 hl⟩, ⟨B, b2, ref15_Ends_l b3 hl⟩⟩
def sing : List Cl := (List.range 256).map fun (c : Nat) => Cl.row ((c : Int) % 256) ((c : Int) % 256)
def clsF (d : List SNode) (t : List SItem) : List Cl :=
  match t with
  | [] => []
  | x :: _ => match at? d x.2.1 with
    | none => []
    | some n => if x.1 = 3 then [Cl.row ((byte? n.2.2.2.2.2.2 x.2.2.1).getD 0) ((byte? n.2.2.2.2.2.2 x.2.2.1).getD 0)] else if n.1 = 2 then [n.2.2.2.2.2.1] else sing
def clsB (d : List SNode) (B : List SBranch) : List Cl := B.flatMap fun b => clsF d b.1
theorem sing_len : sing.length = 256 := by simp [sing]
theorem clsF_len (d : List SNode) (t : List SItem) : (clsF d t).length ≤ 256 := by
  unfold clsF
  cases t with
  | nil => simp
  | cons x t =>
    simp only
    cases at? d x.2.1 with
    | none => simp
    | some n =>
      simp only
      split
      · simp
      · split
        · simp
        · rw [sing_len]; exact Nat.le_refl _
theorem clsB_len (d : List SNode) : ∀ B : List SBranch, (clsB d B).length ≤ 256 * B.length
  | [] => by simp [clsB]
  | b :: B => by
    have h1 := clsF_len d b.1
    have h2 := clsB_len d B
    unfold clsB at *
    simp only [List.flatMap_cons, List.length_append, List.length_cons]
    omega
theorem clsB_snoc (d : List SNode) (B : List SBranch) (b : SBranch) : clsB d (B ++ [b]) = clsB d B ++ clsF d b.1 := by simp [clsB]
theorem next_singles_in : next_singles sing := by
  refine upto (P := fun k (o : List Cl) v => next_singles.l1 (next_singles.j1 sing) k o v) 256 (fun i o => o = sing.take i) ?_ ?_ [] (by simp)
  · rintro i o hi rfl
    have e : sing.take (i + 1) = sing.take i ++ [Cl.row ((i : Int) % 256) ((i : Int) % 256)] := by
      rw [List.take_succ_eq_append_getElem (by rw [sing_len]; exact hi)]; simp [sing]
    refine .inr ⟨_, rfl, fun k hk => ⟨fun _ => ⟨_, class_Of_in, by rw [List.length_take]; simp; omega, i64_of (by omega) (by omega), ?_⟩, fun h => absurd (by omega) (df h)⟩⟩
    rw [e] at hk; exact hk
  · rintro o rfl k
    refine ⟨fun h => absurd (dt h) (by omega), fun _ => ?_⟩
    show sing = sing.take 256
    rw [List.take_of_length_le (by rw [sing_len]; exact Nat.le_refl _)]
theorem next_Classes_l {d : List SNode} {B : List SBranch} (hB : HOk d B) : ∃ k, next_Classes.l1 d B (next_Classes.j1 (clsB d B)) k [] 0 := by
  have hfew := hB.few
  refine upto (P := fun k (o : List Cl) v => next_Classes.l1 d B (next_Classes.j1 (clsB d B)) k o v) B.length (fun i o => o = clsB d (B.take i)) ?_ ?_ [] (by simp [clsB])
  · rintro i o hi rfl
    have hat : at? B (i : Int) = some B[i] := by rw [at_nat]; simp [hi]
    obtain ⟨b1, b2, b3⟩ := hB.ok _ (List.getElem_mem hi)
    have hlen := clsB_len d (B.take i)
    rw [List.length_take] at hlen
    have e : clsB d (B.take (i + 1)) = clsB d (B.take i) ++ clsF d B[i].1 := by rw [List.take_succ_eq_append_getElem hi, clsB_snoc]
    refine .inr ⟨_, rfl, fun k hk => ⟨fun _ => ⟨_, hat, fun h0 => ?_, fun h0 => ?_⟩, fun h => absurd (by omega) (df h)⟩⟩
    · have h1 : B[i].1 = [] := by simpa using h0
      rw [e, h1] at hk
      simp only [clsF, List.append_nil] at hk
      exact ⟨i64_of (by omega) (by omega), hk⟩
    · rw [e] at hk
      generalize B[i].1 = t at *
      cases t with
      | nil => simp at h0
      | cons x rest =>
        obtain ⟨n, hn, hm, hkk⟩ := rdy_kind b3 b2
        simp only [clsF, hn] at hk
        refine ⟨x, rfl, n, hn, fun h3 => ?_, fun h3 => ⟨fun h2 => ?_, fun h2 => ?_⟩⟩
        · have h3' := eq_of_beq h3
          rw [if_pos h3'] at hk
          obtain ⟨_, _, h6, h7⟩ : n.1 = 3 ∧ x.2.2.2 = 0 ∧ 0 ≤ x.2.2.1 ∧ x.2.2.1 < (n.2.2.2.2.2.2.length : Int) := by
            rcases hkk with ⟨h, _⟩ | ⟨_, h⟩ | ⟨h, _⟩
            · omega
            · exact h
            · omega
          obtain ⟨b, hb2, _⟩ := byte_at h6 h7
          rw [hb2] at hk
          exact ⟨b, hb2, b, hb2, _, class_Of_in, by simp; omega, i64_of (by omega) (by omega), hk⟩
        · have h3' := ne_of_beq_false h3
          rw [if_neg h3', if_pos (eq_of_beq h2)] at hk
          exact ⟨by simp; omega, i64_of (by omega) (by omega), hk⟩
        · have h3' := ne_of_beq_false h3
          rw [if_neg h3', if_neg (ne_of_beq_false h2)] at hk
          exact ⟨_, next_singles_in, by rw [sing_len]; omega, i64_of (by omega) (by omega), hk⟩
  · rintro o rfl k
    refine ⟨fun h => absurd (dt h) (by omega), fun _ => ?_⟩
    show clsB d B = _
    rw [List.take_length]
theorem ref15_Classes_l {d : List SNode} {B : List SBranch} (hB : HOk d B) : ∃ k, ref15_Classes.l1 d B (ref15_Classes.j1 (clsB d B)) k [] 0 := by
  have hfew := hB.few
  refine upto (P := fun k (o : List Cl) v => ref15_Classes.l1 d B (ref15_Classes.j1 (clsB d B)) k o v) B.length (fun i o => o = clsB d (B.take i)) ?_ ?_ [] (by simp [clsB])
  · rintro i o hi rfl
    have hat : at? B (i : Int) = some B[i] := by rw [at_nat]; simp [hi]
    obtain ⟨b1, b2, b3⟩ := hB.ok _ (List.getElem_mem hi)
    have hlen := clsB_len d (B.take i)
    rw [List.length_take] at hlen
    have e : clsB d (B.take (i + 1)) = clsB d (B.take i) ++ clsF d B[i].1 := by rw [List.take_succ_eq_append_getElem hi, clsB_snoc]
    refine .inr ⟨_, rfl, fun k hk => ⟨fun _ => ⟨_, hat, fun h0 => ?_, fun h0 => ?_⟩, fun h => absurd (by omega) (df h)⟩⟩
    · have h1 : B[i].1 = [] := by simpa using h0
      rw [e, h1] at hk
      simp only [clsF, List.append_nil] at hk
      exact ⟨i64_of (by omega) (by omega), hk⟩
    · rw [e] at hk
      refine ⟨_, hat, ?_⟩
      generalize B[i].1 = t at *
      cases t with
      | nil => simp at h0
      | cons x rest =>
        obtain ⟨n, hn, hm, hkk⟩ := rdy_kind b3 b2
        simp only [clsF, hn] at hk
        refine ⟨x, rfl, n, hn, fun h3 => ?_, fun h3 => ⟨fun h2 => ?_, fun h2 => ?_⟩⟩
        · have h3' := eq_of_beq h3
          rw [if_pos h3'] at hk
          obtain ⟨_, _, h6, h7⟩ : n.1 = 3 ∧ x.2.2.2 = 0 ∧ 0 ≤ x.2.2.1 ∧ x.2.2.1 < (n.2.2.2.2.2.2.length : Int) := by
            rcases hkk with ⟨h, _⟩ | ⟨_, h⟩ | ⟨h, _⟩
            · omega
            · exact h
            · omega
          obtain ⟨b, hb2, hb3⟩ := byte_at h6 h7
          rw [hb2] at hk
          exact ⟨b, hb2, b, hb2, _, ref01_Row_in hb3 hb3, by simp; omega, i64_of (by omega) (by omega), hk⟩
        · have h3' := ne_of_beq_false h3
          simp only [Bool.and_eq_true, beq_iff_eq] at h2
          rw [if_neg h3', if_pos h2.2] at hk
          exact ⟨by simp; omega, i64_of (by omega) (by omega), hk⟩
        · have h3' := ne_of_beq_false h3
          have h2' : ¬ n.1 = 2 := by
            intro e2
            rcases hkk with ⟨h, _⟩ | ⟨h, _⟩ | ⟨h, h', _⟩
            · simp [h, e2] at h2
            · exact h3' h
            · omega
          rw [if_neg h3', if_neg h2'] at hk
          refine upto (P := fun k' (o : List Cl) v => ref15_Classes.l2 (ref15_Classes.j2 (ref15_Classes.l1 d B (ref15_Classes.j1 (clsB d B)) k) (i : Int)) k' o v) 256 (fun j o => o = clsB d (B.take i) ++ sing.take j) ?_ ?_ (clsB d (B.take i)) (by simp)
          · rintro j o hj rfl
            have e : sing.take (j + 1) = sing.take j ++ [Cl.row ((j : Int) % 256) ((j : Int) % 256)] := by
              rw [List.take_succ_eq_append_getElem (by rw [sing_len]; exact hj)]; simp [sing]
            have hu8 : InR .u8 ((j : Int) % 256) := inR_u8.2 ⟨by omega, by omega⟩
            refine .inr ⟨_, rfl, fun k' hk' => ⟨fun _ => ⟨_, ref01_Row_in hu8 hu8, by rw [List.length_append, List.length_take]; simp; omega, i64_of (by omega) (by omega), ?_⟩, fun h => absurd (by omega) (df h)⟩⟩
            rw [e, ← List.append_assoc] at hk'; exact hk'
          · rintro o rfl k'
            refine ⟨fun h => absurd (dt h) (by omega), fun _ => ⟨i64_of (by omega) (by omega), ?_⟩⟩
            rw [List.take_of_length_le (l := sing) (by rw [sing_len]; exact Nat.le_refl _)]
            exact hk
  · rintro o rfl k
    refine ⟨fun h => absurd (dt h) (by omega), fun _ => ?_⟩
    show clsB d B = _
    rw [List.take_length]
theorem classes_both {d : List SNode} {s : List SItem} (h : Sm d s) : ∃ B, Can (fun t => (hds d s).count t) B ∧ next_Classes d s (clsB d B) ∧ ref15_Classes d s (clsB d B) := by
  obtain ⟨B, b1, b2, b3⟩ := heads_both h
  have hB := h.hok b3
  exact ⟨B, b3, ⟨B, b1, next_Classes_l hB⟩, ⟨B, b2, ref15_Classes_l hB⟩⟩
theorem can_of {L : List (List SItem)} {B : List SBranch} (hs : B.Pairwise (fun a b => cmpS a.1 b.1 < 0)) (h1 : ∀ b ∈ B, b.1 ∈ L ∧ b.2 = sat (L.count b.1)) (h2 : ∀ t ∈ L, t ∈ B.map (·.1)) : Can (fun t => L.count t) B := by
  refine ⟨hs, fun t m => ⟨fun h => ?_, fun ⟨h3, h4⟩ => ?_⟩⟩
  · obtain ⟨h3, h4⟩ := h1 _ h
    exact ⟨by have := List.count_pos_iff.2 h3; simp only at this ⊢; omega, h4⟩
  · obtain ⟨b, hb, e⟩ := List.mem_map.1 (h2 t (List.count_pos_iff.1 (by omega)))
    obtain ⟨_, h6⟩ := h1 _ hb
    have : b = (t, m) := Prod.ext e (by rw [h6, h4, e])
    rw [← this]; exact hb
theorem can_fB {d : List SNode} {c : Int} {B R : List SBranch} (hs : R.Pairwise (fun a b => cmpS a.1 b.1 < 0)) (h1 : ∀ b ∈ R, fB d c B b.1 ≠ 0 ∧ b.2 = sat (fB d c B b.1)) (h2 : ∀ b ∈ B, (readF d b.1 c).2 = true → (readF d b.1 c).1 ∈ R.map (·.1)) : Can (fB d c B) R := by
  refine ⟨hs, fun t m => ⟨fun h => h1 _ h, fun ⟨h3, h4⟩ => ?_⟩⟩
  obtain ⟨b, hb, hr, e⟩ := fB_pos h3
  obtain ⟨r, hr1, hr2⟩ := List.mem_map.1 (h2 b hb hr)
  obtain ⟨_, h6⟩ := h1 _ hr1
  have : r = (t, m) := Prod.ext (hr2.trans e) (by rw [h6, h4, hr2.trans e])
  rw [← this]; exact hr1
theorem on_conc {d : List SNode} {s : List SItem} (h : Sm d s) {c : Int} (hc : InR .u8 c) {B R : List SBranch} (hB : Can (fun t => (hds d s).count t) B) (hR : Can (fB d c B) R) : next_On d s c R := by
  obtain ⟨B', R', _, b3, o1, _, o3⟩ := on_both h hc
  have e := b3.uniq hB
  subst e
  have e := o3.uniq hR
  subst e
  exact o1
theorem cls_conc {d : List SNode} {s : List SItem} (h : Sm d s) {B : List SBranch} (hB : Can (fun t => (hds d s).count t) B) : next_Classes d s (clsB d B) := by
  obtain ⟨B', b3, o1, _⟩ := classes_both h
  have e := b3.uniq hB
  subst e
  exact o1
def d5 : List SNode := [(2, 0, 0, 0, 0, Cl.row 5 6, ([] : Str))]
theorem d5_rt : Rt d5 := leaf_rt (.inr rfl) ⟨rfl, rfl⟩
theorem small_txt {d : List SNode} (h : ∀ n ∈ d, n.2.2.2.2.2.2 = []) : ∀ n ∈ d, n.2.2.2.2.2.2.length ≤ 140737488351232 := fun n hn => by rw [h n hn]; simp
theorem d5_sm {s : List SItem} (hf : formS d5 s = true) (hs : s.length ≤ 40) : Sm d5 s := ⟨d5_rt, by decide, small_txt (by intro n hn; rw [d5, List.mem_singleton] at hn; subst hn; rfl), hf, by omega⟩
def d55 : List SNode := pairD 5 d5 d5
theorem d55_sm : Sm d55 [(1, 2, 0, 0)] := ⟨pair_rt d5_rt d5_rt (.inr rfl), by decide +kernel, small_txt (by decide +kernel), by decide +kernel, by decide⟩
def d8 : List SNode := wrapD 8 d5
theorem d8_sm : Sm d8 [(1, 1, 0, 0)] := ⟨wrap_rt d5_rt (.inr (.inl rfl)) (fun h => by omega), by decide +kernel, small_txt (by decide +kernel), by decide +kernel, by decide⟩
theorem awake15 : law15_awake true := by
  have hst : ∀ d : List SNode, d.length ≤ 100 → law15_start d [(1, (d.length : Int) - 1, 0, 0)] := fun d hd => ⟨i64_of (by omega) (by omega), rfl⟩
  have u8 : ∀ c : Int, 0 ≤ c ∧ c ≤ 255 → InR .u8 c := fun c h => inR_u8.2 h
  have o1 : next_On d55 [(1, 2, 0, 0)] 5 [([], 2)] := on_conc d55_sm (u8 5 (by decide)) (B := [([(1, 0, 0, 0)], 1), ([(1, 1, 0, 0)], 1)]) (can_of (by decide +kernel) (by decide +kernel) (by decide +kernel)) (can_fB (by decide +kernel) (by decide +kernel) (by decide +kernel))
  have o2 : next_On d8 [(1, 1, 0, 0)] 7 [([(1, 0, 0, 0), (5, 0, 7, 0)], 1)] := on_conc d8_sm (u8 7 (by decide)) (B := [([(1, 1, 0, 0)], 1)]) (can_of (by decide +kernel) (by decide +kernel) (by decide +kernel)) (can_fB (by decide +kernel) (by decide +kernel) (by decide +kernel))
  have rd : ∀ (s : List SItem) (c : Int) (r : List SItem × Bool), s.length ≤ 1000 → formS d5 s = true → rdy d5 s = true → 0 ≤ c ∧ c ≤ 255 → readF d5 s c = r → next_Read d5 s c r := fun s c r h1 h2 h3 h4 h5 => by
    rw [← h5]
    exact next_Read_in d5_rt.toROk (by decide) (d5_sm (s := []) rfl (by decide)).txt h1 h2 h3 (u8 c h4)
  have e1 := (ends_both (d5_sm (s := []) rfl (by decide))).1
  have e2 := (ends_both (d5_sm (s := [(1, 0, 0, 0)]) (by decide +kernel) (by decide))).1
  have k1 := cls_conc (d5_sm (s := [(1, 0, 0, 0)]) (by decide +kernel) (by decide)) (B := [([(1, 0, 0, 0)], 1)]) (can_of (by decide +kernel) (by decide +kernel) (by decide +kernel))
  have k2 := cls_conc d8_sm (B := [([(1, 1, 0, 0)], 1)]) (can_of (by decide +kernel) (by decide +kernel) (by decide +kernel))
  have z1 : sat ((hds d5 []).count []) = 1 := by decide +kernel
  have z2 : sat ((hds d5 [(1, 0, 0, 0)]).count []) = 0 := by decide +kernel
  rw [z1] at e1
  rw [z2] at e2
  have l1 : (clsB d5 [([(1, 0, 0, 0)], 1)]).length = 1 := by decide +kernel
  have l2 : (clsB d8 [([(1, 1, 0, 0)], 1)]).length = 256 := by decide +kernel
  refine ⟨Cl.row 5 6, ref01_Row_in (u8 5 (by decide)) (u8 6 (by decide)), d55, Pair_in d5_rt.tr d5_rt.tr (by decide) (by decide), d8, Wrap_in d5_rt.tr (by decide), _, hst d55 (by decide +kernel), _, o1, _, hst d8 (by decide +kernel), _, o2, _, hst d5 (by decide), _, rd _ 6 ([], true) (by decide) (by decide +kernel) (by decide +kernel) (by decide) (by decide +kernel), _, hst d5 (by decide), _, rd _ 7 ([], false) (by decide) (by decide +kernel) (by decide +kernel) (by decide) (by decide +kernel), _, rd [(1, 0, 0, 0), (5, 0, 0, 0)] 5 ([], false) (by decide) (by decide +kernel) (by decide +kernel) (by decide) (by decide +kernel), _, rfl, ([(1, 0, 0, 0), (5, 0, 7, 0)], 1), fun _ => rfl, (fun h => by simp at h), fun _ => ⟨([], 2), rfl, ([], 2), fun _ => rfl, ([(1, 0, 0, 0), (5, 0, 7, 0)], 1), fun _ => rfl, _, rfl, ([(1, 0, 0, 0), (5, 0, 7, 0)], 1), fun _ => rfl, (5, 0, 7, 0), fun _ => rfl, ([(1, 0, 0, 0), (5, 0, 7, 0)], 1), fun _ => rfl, (1, 0, 0, 0), fun _ => rfl, _, rfl, _, rfl, 1, fun _ => e1, _, fun _ => hst d5 (by decide), 0, fun _ => e2, _, fun _ => hst d5 (by decide), _, fun _ => k1, _, rfl, _, fun _ => hst d8 (by decide +kernel), _, fun _ => k2, ?_⟩⟩
  rw [l1, l2]
  decide
end Go.Proofs.YtdidjelkkanenaaDoor.V
namespace Go.Proofs.YtdidjelkkanenaaDoor.V
open Go
set_option linter.unusedVariables false
abbrev Txt (d : List SNode) : Prop := ∀ n ∈ d, n.2.2.2.2.2.2.length ≤ 140737488351232
theorem guard15 {d : List SNode} (ht : Txt d) : ∃ r6 r8 : Bool, ref04_Few d r6 ∧ (r6 = true → d.length ≤ 100) ∧ (r6 = true → ref08_Right d r8) ∧ (r6 = true → r8 = true → Rt d) := by
  obtain ⟨r6, h6, h6b⟩ := few_ex ht
  cases r6
  · exact ⟨false, false, h6, (fun h => by cases h), (fun h => by cases h), (fun h => by cases h)⟩
  · obtain ⟨r8, h8, h8b⟩ := right_ok (d := d) (by have := h6b rfl; omega) ht
    exact ⟨true, r8, h6, h6b, fun _ => h8, fun _ => h8b⟩
end Go.Proofs.YtdidjelkkanenaaDoor.V
namespace Go.Proofs.YtdidjelkkanenaaDoor.V
open Go
set_option linter.unusedVariables false
theorem form_low1 {d : List SNode} {x : SItem} (h : formI d x = true) (hb : badI x = false) : formI d (low1 x) = true := by
  unfold low1
  split
  · rename_i h5
    unfold formI at h ⊢
    rw [if_pos h5] at h
    rw [if_pos (show (x.1, x.2.1, x.2.2.1 - 1, x.2.2.2).1 = 5 from h5)]
    simp only [badI, h5] at hb
    simp at hb
    simp only [Bool.and_eq_true, decide_eq_true_eq, beq_iff_eq] at h ⊢
    omega
  · exact h
theorem form_lowF {d : List SNode} {s : List SItem} (h : formS d s = true) : formS d (lowF s).1 = true := by
  unfold lowF
  split
  · rfl
  · rename_i hb
    have hb : s.any badI = false := by simpa using hb
    unfold formS at *
    rw [List.all_eq_true] at *
    intro y hy
    obtain ⟨x, hx, rfl⟩ := List.mem_map.1 hy
    rw [List.any_eq_false] at hb
    exact form_low1 (h x hx) (by simpa using hb x hx)
theorem form_read {d : List SNode} (hd : ROk d) {t : List SItem} (hf : formS d t = true) (hr : rdy d t = true) {c : Int} (hc : InR .u8 c) : formS d (readF d t c).1 = true := by
  have hc' := inR_u8.1 hc
  cases t with
  | nil => rfl
  | cons x rest =>
    obtain ⟨n, hn, hm, hk⟩ := rdy_kind hf hr
    have hlow := form_lowF (form_cons hf).2
    have five : ∀ v : Int, 0 ≤ v → v ≤ 65535 → formI d (5, 0, v, 0) = true := fun v h0 h1 => by
      unfold formI; simp; omega
    unfold readF
    simp only [hn]
    split
    · rfl
    · split
      · rename_i h3
        split
        · split
          · rename_i hlt
            refine form_mk ?_ hlow
            obtain ⟨h4, h6⟩ : n.1 = 3 ∧ 0 ≤ x.2.2.1 := by
              rcases hk with ⟨h, _⟩ | ⟨_, h, _, h', _⟩ | ⟨h, _⟩
              · omega
              · exact ⟨h, h'⟩
              · omega
            unfold formI
            simp [hn, h4]
            omega
          · exact hlow
        · rfl
      · split
        · rename_i h3 h4
          obtain ⟨h9, h6, h7⟩ : n.1 = 9 ∧ 0 ≤ x.2.2.1 ∧ x.2.2.1 ≤ 255 := by
            rcases hk with ⟨h, _⟩ | ⟨h, _⟩ | ⟨_, h⟩
            · omega
            · omega
            · exact h
          obtain ⟨p, q⟩ := hd.one _ n hn (by omega)
          exact form_mk (form_one (at_lt hn p q)) (form_mk (five _ (by omega) (by omega)) hlow)
        · split
          · rename_i h8
            obtain ⟨p, q⟩ := hd.one _ n hn (by omega)
            exact form_mk (form_one (at_lt hn p q)) (form_mk (five _ (by omega) (by omega)) hlow)
          · split
            · rename_i h9
              refine form_mk ?_ hlow
              unfold formI
              simp [hn, h9]
              omega
            · split
              · exact hlow
              · rfl
end Go.Proofs.YtdidjelkkanenaaDoor.V
namespace Go.Proofs.YtdidjelkkanenaaDoor.V
open Go
set_option linter.unusedVariables false
theorem step_ok {d : List SNode} (hd : ROk d) {s : List SItem} (hf : formS d s = true) {c : Int} (hc : InR .u8 c) : ∀ u ∈ stepL d c s, formS d u = true ∧ u.length ≤ s.length + d.length + 1 := by
  intro u hu
  obtain ⟨t, h1, h2⟩ := List.mem_filterMap.1 hu
  obtain ⟨L, ⟨k, hk⟩, hp⟩ := hds_lv hd s hf
  obtain ⟨h3, h4⟩ := lv_vs hd (n0 := s.length) k s L hk (Vs.start hf (Nat.le_refl _)) t (hp.mem_iff.2 h1)
  split at h2
  · cases h2
    have := h3.len
    have := readF_len d t c
    exact ⟨form_read hd h3.form h4 hc, by omega⟩
  · cases h2
theorem ends_ok {d : List SNode} (hd : ROk d) : ∀ (w : List Int) (s : List SItem), (∀ c ∈ w, InR .u8 c) → formS d s = true → ∀ u ∈ endsL d w s, formS d u = true ∧ u.length ≤ s.length + w.length * (d.length + 1)
  | [], s, _, hf, u, hu => by
    rw [endsL, List.mem_singleton] at hu
    subst hu
    exact ⟨hf, by simp⟩
  | c :: w, s, hw, hf, u, hu => by
    obtain ⟨t, h1, h2⟩ := List.mem_flatMap.1 hu
    obtain ⟨h3, h4⟩ := step_ok hd hf (hw c (by simp)) t h1
    obtain ⟨h5, h6⟩ := ends_ok hd w t (fun e he => hw e (by simp [he])) h3 u h2
    refine ⟨h5, ?_⟩
    rw [List.length_cons, Nat.succ_mul]
    omega
end Go.Proofs.YtdidjelkkanenaaDoor.V
namespace Go.Proofs.YtdidjelkkanenaaDoor.V
open Go
set_option linter.unusedVariables false
theorem hds_mem {d : List SNode} (hd : ROk d) (r : List SItem) (t : List SItem) : ∀ s, t ∈ hds d (s ++ r) ↔ (∃ t', t' ∈ hds d s ∧ t' ≠ [] ∧ t = t' ++ r) ∨ ([] ∈ hds d s ∧ t ∈ hds d r) := by
  intro s
  have h := hds_app hd (fun u => if u = t then 1 else 0) r s
  have cnt1 : ∀ L : List (List SItem), sumF (fun u => if u = t then 1 else 0) L ≠ 0 ↔ t ∈ L := fun L => by
    induction L with
    | nil => simp [sumF]
    | cons u L ih =>
      have e : sumF (fun u => if u = t then 1 else 0) (u :: L) = (if u = t then 1 else 0) + sumF (fun u => if u = t then 1 else 0) L := by simp [sumF]
      rw [e, List.mem_cons]
      by_cases hu : u = t
      · subst hu; simp
      · rw [if_neg hu, Nat.zero_add, ih]
        constructor
        · exact .inr
        · rintro (e | e)
          · exact absurd e.symm hu
          · exact e
  have cnt2 : ∀ (G : List SItem → Nat) (L : List (List SItem)), sumF G L ≠ 0 ↔ ∃ u ∈ L, G u ≠ 0 := fun G L => by
    induction L with
    | nil => simp [sumF]
    | cons u L ih =>
      have e : sumF G (u :: L) = G u + sumF G L := by simp [sumF]
      rw [e]
      constructor
      · intro h0
        by_cases hu : G u = 0
        · obtain ⟨v, h1, h2⟩ := ih.1 (by omega)
          exact ⟨v, by simp [h1], h2⟩
        · exact ⟨u, by simp, hu⟩
      · rintro ⟨v, h1, h2⟩
        rcases List.mem_cons.1 h1 with rfl | h1
        · omega
        · have := ih.2 ⟨v, h1, h2⟩
          omega
  rw [← cnt1, h, cnt2]
  constructor
  · rintro ⟨u, h1, h2⟩
    by_cases hu : u = []
    · subst hu
      simp only [if_true] at h2
      exact .inr ⟨h1, (cnt1 _).1 h2⟩
    · simp only [if_neg hu] at h2
      by_cases he : u ++ r = t
      · exact .inl ⟨u, h1, hu, he.symm⟩
      · rw [if_neg he] at h2; exact absurd rfl h2
  · rintro (⟨u, h1, hu, rfl⟩ | ⟨h1, h2⟩)
    · exact ⟨u, h1, by simp only [if_neg hu]; simp⟩
    · exact ⟨[], h1, by simp only [if_true]; exact (cnt1 _).2 h2⟩
theorem step_mem {d : List SNode} {c : Int} {s u : List SItem} : u ∈ stepL d c s ↔ ∃ t ∈ hds d s, (readF d t c).2 = true ∧ (readF d t c).1 = u := by
  unfold stepL
  rw [List.mem_filterMap]
  constructor
  · rintro ⟨t, h1, h2⟩
    split at h2
    · rename_i h3; cases h2; exact ⟨t, h1, h3, rfl⟩
    · cases h2
  · rintro ⟨t, h1, h2, rfl⟩
    exact ⟨t, h1, by rw [if_pos h2]⟩
theorem step_app {d : List SNode} (hd : ROk d) {c : Int} {s r u : List SItem} (h : u ∈ stepL d c (s ++ r)) : (∃ u', u' ∈ stepL d c s ∧ (lowF r).2 = true ∧ u = u' ++ (lowF r).1) ∨ ([] ∈ hds d s ∧ u ∈ stepL d c r) := by
  obtain ⟨t, h1, h2, rfl⟩ := step_mem.1 h
  rcases (hds_mem hd r t s).1 h1 with ⟨t', k1, k2, rfl⟩ | ⟨k1, k2⟩
  · rw [readF_app k2] at h2 ⊢
    by_cases hc : (readF d t' c).2 = true ∧ (lowF r).2 = true
    · rw [if_pos hc]
      exact .inl ⟨_, step_mem.2 ⟨t', k1, hc.1, rfl⟩, hc.2, rfl⟩
    · rw [if_neg hc] at h2; cases h2
  · exact .inr ⟨k1, step_mem.2 ⟨t, k2, h2, rfl⟩⟩
end Go.Proofs.YtdidjelkkanenaaDoor.V
namespace Go.Proofs.YtdidjelkkanenaaDoor.V
open Go
set_option linter.unusedVariables false
def Cov (n : Nat) (p : List SItem → Prop) : Prop := ∃ K : List (List SItem), K.length ≤ n ∧ ∀ u, p u → u ∈ K
theorem Cov.weak {m n : Nat} {p q : List SItem → Prop} (h : Cov m p) (hm : m ≤ n) (hq : ∀ u, q u → p u) : Cov n q :=
  let ⟨K, h1, h2⟩ := h
  ⟨K, Nat.le_trans h1 hm, fun u hu => h2 u (hq u hu)⟩
theorem Cov.none {p : List SItem → Prop} (h : ∀ u, ¬ p u) (n : Nat) : Cov n p := ⟨[], Nat.zero_le _, fun u hu => (h u hu).elim⟩
theorem Cov.one {p : List SItem → Prop} (x : List SItem) (h : ∀ u, p u → u = x) : Cov 1 p := ⟨[x], by simp, fun u hu => by rw [h u hu]; simp⟩
theorem Cov.or {m n : Nat} {p q r : List SItem → Prop} (h : Cov m p) (k : Cov n q) (e : ∀ u, r u → p u ∨ q u) : Cov (m + n) r :=
  let ⟨K, h1, h2⟩ := h
  let ⟨J, k1, k2⟩ := k
  ⟨K ++ J, by rw [List.length_append]; omega, fun u hu => by rw [List.mem_append]; exact (e u hu).imp (h2 u) (k2 u)⟩
theorem Cov.map {m : Nat} {p r : List SItem → Prop} (f : List SItem → List SItem) (h : Cov m p) (e : ∀ u, r u → ∃ t, p t ∧ u = f t) : Cov m r :=
  let ⟨K, h1, h2⟩ := h
  ⟨K.map f, by simpa using h1, fun u hu => by obtain ⟨t, a, rfl⟩ := e u hu; exact List.mem_map.2 ⟨t, h2 t a, rfl⟩⟩
def sumN (f : Nat → Nat) : Nat → Nat
  | 0 => 0
  | k + 1 => sumN f k + f k
theorem sumN_le {f g : Nat → Nat} : ∀ k, (∀ j, j < k → f j ≤ g j) → sumN f k ≤ sumN g k
  | 0, _ => Nat.le_refl _
  | k + 1, h => Nat.add_le_add (sumN_le k fun j hj => h j (by omega)) (h k (by omega))
theorem Cov.sum {f : Nat → Nat} {p : Nat → List SItem → Prop} : ∀ (k : Nat), (∀ j, j < k → Cov (f j) (p j)) → Cov (sumN f k) (fun u => ∃ j, j < k ∧ p j u)
  | 0, _ => Cov.none (fun u ⟨j, h, _⟩ => by omega) _
  | k + 1, h => (Cov.sum k fun j hj => h j (by omega)).or (h k (by omega)) fun u ⟨j, hj, hp⟩ => by
    by_cases e : j = k
    · subst e; exact .inr hp
    · exact .inl ⟨j, by omega, hp⟩
def pasR (f : Nat → Nat) : Nat → Nat
  | 0 => 1
  | k + 1 => f (k + 1) + pasR f k
def pas : Nat → Nat → Nat
  | 0 => fun _ => 1
  | m + 1 => pasR (pas m)
theorem pas_zero (m : Nat) : pas m 0 = 1 := by cases m <;> rfl
theorem pas_pos : ∀ m k : Nat, 1 ≤ pas m k
  | 0, _ => Nat.le_refl _
  | m + 1, 0 => by rw [pas_zero]; exact Nat.le_refl _
  | m + 1, k + 1 => by
    have := pas_pos m (k + 1)
    show 1 ≤ pas m (k + 1) + pas (m + 1) k
    omega
theorem pas_up (m k : Nat) : pas m k ≤ pas (m + 1) k := by
  cases k with
  | zero => rw [pas_zero, pas_zero]; exact Nat.le_refl _
  | succ k => exact Nat.le_add_right _ _
theorem pas_mono {m m' : Nat} (h : m ≤ m') (k : Nat) : pas m k ≤ pas m' k := by
  induction h with
  | refl => exact Nat.le_refl _
  | step _ ih => exact Nat.le_trans ih (pas_up _ k)
theorem pas_more (m k : Nat) : pas m k ≤ pas m (k + 1) := by
  cases m with
  | zero => exact Nat.le_refl _
  | succ m => exact Nat.le_add_left _ _
theorem pas_long (m : Nat) {k k' : Nat} (h : k ≤ k') : pas m k ≤ pas m k' := by
  induction h with
  | refl => exact Nat.le_refl _
  | step _ ih => exact Nat.le_trans ih (pas_more m _)
theorem pas_sum (k : Nat) : ∀ m, sumN (fun i => pas i k) (m + 1) = pas m (k + 1)
  | 0 => rfl
  | m + 1 => by
    show sumN (fun i => pas i k) (m + 1) + pas (m + 1) k = _
    rw [pas_sum k m]; rfl
theorem sumN_two {g : Nat → Nat} (h : ∀ i j, i ≤ j → g i ≤ g j) (x : Nat) : ∀ y, sumN g x + sumN g y ≤ sumN g (x + y)
  | 0 => Nat.le_refl _
  | y + 1 => by
    have := sumN_two h x y
    have := h y (x + y) (by omega)
    show sumN g x + (sumN g y + g y) ≤ sumN g (x + y) + g (x + y)
    omega
theorem pas_two (a b k : Nat) : pas a (k + 1) + pas b (k + 1) ≤ pas (a + b + 1) (k + 1) := by
  have := sumN_two (g := fun i => pas i k) (fun i j h => pas_mono h k) (a + 1) (b + 1)
  rw [pas_sum, pas_sum, show a + 1 + (b + 1) = (a + b + 1) + 1 by omega, pas_sum] at this
  exact this
theorem pas_row (a k : Nat) : ∀ m, m ≤ k → sumN (fun t => pas a (k - t)) m + pas (a + 1) (k - m) ≤ pas (a + 1) k
  | 0, _ => by rw [Nat.sub_zero]; show 0 + _ ≤ _; omega
  | m + 1, h => by
    have ih := pas_row a k m (by omega)
    have e : pas (a + 1) (k - m) = pas a (k - m) + pas (a + 1) (k - (m + 1)) := by
      rw [show k - m = (k - (m + 1)) + 1 by omega]; rfl
    show sumN (fun t => pas a (k - t)) m + pas a (k - m) + _ ≤ _
    omega
def fac : Nat → Nat
  | 0 => 1
  | n + 1 => (n + 1) * fac n
theorem fac_pos : ∀ n, 1 ≤ fac n
  | 0 => Nat.le_refl _
  | n + 1 => Nat.le_trans (fac_pos n) (Nat.le_mul_of_pos_left _ (by omega))
theorem pas_fac : ∀ m k : Nat, pas m k * (fac m * fac k) = fac (m + k)
  | 0, k => by simp [pas, fac]
  | m + 1, 0 => by rw [pas_zero]; simp [fac]
  | m + 1, k + 1 => by
    have h1 := pas_fac m (k + 1)
    have h2 := pas_fac (m + 1) k
    have e1 : pas m (k + 1) * (fac (m + 1) * fac (k + 1)) = (m + 1) * fac (m + (k + 1)) := by
      rw [← h1]
      show pas m (k + 1) * ((m + 1) * fac m * fac (k + 1)) = _
      rw [Nat.mul_assoc (m + 1), Nat.mul_left_comm]
    have e2 : pas (m + 1) k * (fac (m + 1) * fac (k + 1)) = (k + 1) * fac (m + 1 + k) := by
      rw [← h2]
      show pas (m + 1) k * (fac (m + 1) * ((k + 1) * fac k)) = _
      rw [Nat.mul_left_comm (fac (m + 1)), Nat.mul_left_comm]
    show (pas m (k + 1) + pas (m + 1) k) * _ = fac (m + 1 + (k + 1))
    rw [Nat.add_mul, e1, e2, show m + 1 + (k + 1) = (m + k + 1) + 1 by omega, show m + (k + 1) = m + k + 1 by omega, show m + 1 + k = m + k + 1 by omega]
    show _ = (m + k + 1 + 1) * fac (m + k + 1)
    rw [← Nat.add_mul]
    congr 1
    omega
theorem pas_le {m k N : Nat} (h : fac (m + k) ≤ N * (fac m * fac k)) : pas m k ≤ N := by
  rw [← pas_fac] at h
  exact Nat.le_of_mul_le_mul_right h (Nat.mul_pos (fac_pos m) (fac_pos k))
def Rch (d : List SNode) (s : List SItem) (w : List Int) (u : List SItem) : Prop := ∃ a v, a ++ v = w ∧ v ≠ [] ∧ u ∈ endsL d v s
theorem Rch.none {d : List SNode} {s u : List SItem} : ¬ Rch d s [] u := fun ⟨a, v, h, hv, _⟩ => hv (List.append_eq_nil_iff.1 h).2
theorem sum_ne (t : List SItem) : ∀ L : List (List SItem), sumF (fun u => if u = t then 1 else 0) L ≠ 0 ↔ t ∈ L
  | [] => by simp [sumF]
  | u :: L => by
    have ih := sum_ne t L
    have e : sumF (fun u => if u = t then 1 else 0) (u :: L) = (if u = t then 1 else 0) + sumF (fun u => if u = t then 1 else 0) L := by simp [sumF]
    rw [e, List.mem_cons]
    by_cases hu : u = t
    · subst hu; simp
    · rw [if_neg hu, Nat.zero_add, ih]
      constructor
      · exact .inr
      · rintro (e | e)
        · exact absurd e.symm hu
        · exact e
theorem mem_sum {A B : List (List SItem)} (h : ∀ F, sumF F A = sumF F B) (t : List SItem) : t ∈ A ↔ t ∈ B := by rw [← sum_ne, ← sum_ne t B, h]
theorem mem_sum2 {A B C : List (List SItem)} (h : ∀ F, sumF F A = sumF F B + sumF F C) (t : List SItem) : t ∈ A ↔ t ∈ B ∨ t ∈ C := by rw [← sum_ne, ← sum_ne t B, ← sum_ne t C, h]; omega
theorem ends_or {d : List SNode} {s s1 s2 u : List SItem} {v : List Int} (h : ∀ t, t ≠ [] → t ∈ hds d s → t ∈ hds d s1 ∨ t ∈ hds d s2) (hv : v ≠ []) (hu : u ∈ endsL d v s) : u ∈ endsL d v s1 ∨ u ∈ endsL d v s2 := by
  cases v with
  | nil => exact absurd rfl hv
  | cons c w =>
    obtain ⟨x, h1, h2⟩ := List.mem_flatMap.1 hu
    obtain ⟨t, k1, k2, k3⟩ := step_mem.1 h1
    have hne : t ≠ [] := fun e => by subst e; simp [readF] at k2
    rcases h t hne k1 with k | k
    · exact .inl (List.mem_flatMap.2 ⟨x, step_mem.2 ⟨t, k, k2, k3⟩, h2⟩)
    · exact .inr (List.mem_flatMap.2 ⟨x, step_mem.2 ⟨t, k, k2, k3⟩, h2⟩)
theorem ends_same {d : List SNode} {s s1 u : List SItem} {v : List Int} (h : ∀ t, t ≠ [] → t ∈ hds d s → t ∈ hds d s1) (hv : v ≠ []) (hu : u ∈ endsL d v s) : u ∈ endsL d v s1 :=
  (ends_or (s1 := s1) (s2 := s1) (fun t h1 h2 => .inl (h t h1 h2)) hv hu).elim id id
theorem ends_cut {d : List SNode} (hd : ROk d) : ∀ (w : List Int) (s r u : List SItem), u ∈ endsL d w (s ++ r) → (∃ u' r', u' ∈ endsL d w s ∧ lows w.length r = some r' ∧ u = u' ++ r') ∨ ∃ a b r', w = a ++ b ∧ b ≠ [] ∧ (a = [] → [] ∈ hds d s) ∧ lows a.length r = some r' ∧ u ∈ endsL d b r'
  | [], s, r, u, h => by
    rw [endsL, List.mem_singleton] at h
    exact .inl ⟨s, r, by rw [endsL]; exact List.mem_singleton.2 rfl, rfl, h⟩
  | c :: w, s, r, u, h => by
    obtain ⟨t, h1, h2⟩ := List.mem_flatMap.1 h
    rcases step_app hd h1 with ⟨t', k1, k2, rfl⟩ | ⟨k1, k2⟩
    · have el : ∀ p, lows (p + 1) r = lows p (lowF r).1 := fun p => by
        show (if (lowF r).2 = true then lows p (lowF r).1 else none) = _
        rw [if_pos k2]
      rcases ends_cut hd w t' (lowF r).1 u h2 with ⟨u', r', j1, j2, j3⟩ | ⟨a, b, r', j1, j2, _, j3, j4⟩
      · exact .inl ⟨u', r', List.mem_flatMap.2 ⟨t', k1, j1⟩, by rw [List.length_cons, el]; exact j2, j3⟩
      · exact .inr ⟨c :: a, b, r', by rw [j1]; rfl, j2, (fun h => by cases h), by rw [List.length_cons, el]; exact j3, j4⟩
    · exact .inr ⟨[], c :: w, r, rfl, by simp, fun _ => k1, rfl, List.mem_flatMap.2 ⟨t, k2, h2⟩⟩
theorem noend1 {x : SItem} (h : x.1 ≠ 5) : NoEnd [x] := fun y hy => by rw [List.mem_singleton.1 hy]; exact h
theorem pm_ne {d : List SNode} (hd : ROk d) (i : Int) : [] ∉ pm d i := fun h => pmI_ne hd (1, i, 0, 0) [] (show [] ∈ pmI d (1, i, 0, 0) from h) rfl
theorem no_nil {d : List SNode} (hd : ROk d) {i : Int} (h : nw d i = 0) : [] ∉ hds d [(1, i, 0, 0)] := by
  rw [hds_st, h]
  simpa using pm_ne hd i
theorem ends_stop {d : List SNode} {m : Int} {b : List Int} {u : List SItem} (hb : b ≠ []) : u ∉ endsL d b [(5, 0, m, 0)] := by
  cases b with
  | nil => exact absurd rfl hb
  | cons c w =>
    intro h
    obtain ⟨t, h1, h2⟩ := List.mem_flatMap.1 h
    obtain ⟨t, k1, k2, k3⟩ := step_mem.1 h1
    have e1 : pmI d (5, 0, m, 0) = [] := by simp [pmI]
    have e3 : hds d [(5, 0, m, 0)] = (pmI d (5, 0, m, 0)).map (· ++ []) ++ (List.replicate (nwI d (5, 0, m, 0)) [[]]).flatten := rfl
    rw [e3, e1] at k1
    have : t = [] := by
      simp at k1
      exact k1.2
    subst this
    simp [readF] at k2
section
variable {d : List SNode} (hd : ROk d) {i : Int} {n : SNode} (hn : at? d i = some n) {w : List Int} {u : List SItem}
include hd hn
theorem sum_seq (h : n.1 = 4) (F : List SItem → Nat) : sumF F (hds d [(1, i, 0, 0)]) = sumF F (hds d ([(1, n.2.1, 0, 0)] ++ [(1, n.2.2.1, 0, 0)])) := by
  have e := PM_at hd hn
  rw [if_neg (by omega), if_neg (by omega), if_pos h] at e
  have e1 : pm d i = (pm d n.2.1).map (· ++ [(1, n.2.2.1, 0, 0)]) ++ (List.replicate (nw d n.2.1) (pm d n.2.2.1)).flatten := by
    have : pm d i = (PM d d.length i).1 := rfl
    rw [this, e]
  have e2 : nw d i = nw d n.2.1 * nw d n.2.2.1 := by
    have : nw d i = (PM d d.length i).2 := rfl
    rw [this, e]
  rw [sum_start, List.singleton_append, sum_first, sum_start, e1, e2, sumF_app, sumF_map, sumF_rep, Nat.mul_add, Nat.mul_assoc, Nat.add_assoc]
theorem sum_or (h : n.1 = 5) (F : List SItem → Nat) : sumF F (hds d [(1, i, 0, 0)]) = sumF F (hds d [(1, n.2.1, 0, 0)]) + sumF F (hds d [(1, n.2.2.1, 0, 0)]) := by
  have e := PM_at hd hn
  rw [if_neg (by omega), if_neg (by omega), if_neg (by omega), if_pos h] at e
  have e1 : pm d i = pm d n.2.1 ++ pm d n.2.2.1 := by
    have : pm d i = (PM d d.length i).1 := rfl
    rw [this, e]
  have e2 : nw d i = nw d n.2.1 + nw d n.2.2.1 := by
    have : nw d i = (PM d d.length i).2 := rfl
    rw [this, e]
  rw [sum_start, sum_start, sum_start, e1, e2, sumF_app, Nat.add_mul]
  omega
theorem sum_star (h : n.1 = 6) (F : List SItem → Nat) : sumF F (hds d [(1, i, 0, 0)]) = sumF F (hds d []) + sumF F (hds d ([(1, n.2.1, 0, 0)] ++ [(1, i, 0, 0)])) := by
  have e := PM_at hd hn
  rw [if_neg (by omega), if_neg (by omega), if_neg (by omega), if_neg (by omega), if_pos h] at e
  have e1 : pm d i = (pm d n.2.1).map (· ++ [(1, i, 0, 0)]) := by
    have : pm d i = (PM d d.length i).1 := rfl
    rw [this, e]
  have e2 : nw d i = 1 := by
    have : nw d i = (PM d d.length i).2 := rfl
    rw [this, e]
  have z := nw_none hd hn (.inl h)
  rw [sum_start, List.singleton_append, sum_first, e1, e2, z, sumF_map]
  simp [hds, sumF]
  omega
def itemT (i : Int) (n : SNode) (t : Nat) : SItem := (2, i, max (n.2.2.2.1 - t) 0, n.2.2.2.2.1 - t)
omit hd hn in
theorem itemT_next (i : Int) (n : SNode) (t : Nat) : ((2, i, max (max (n.2.2.2.1 - (t : Int)) 0 - 1) 0, n.2.2.2.2.1 - (t : Int) - 1) : SItem) = itemT i n (t + 1) := by
  unfold itemT
  simp only [Prod.mk.injEq, true_and]
  omega
theorem sum_item (h : n.1 = 7) (lo hi : Int) (F : List SItem → Nat) : sumF F (hds d [(2, i, lo, hi)]) = (if lo = 0 then F [] else 0) + if 0 < hi then sumF F (hds d ([(1, n.2.1, 0, 0)] ++ [(2, i, max (lo - 1) 0, hi - 1)])) else 0 := by
  have z := nw_none hd hn (.inr h)
  have e1 : pmI d (2, i, lo, hi) = if 0 < hi then (pm d n.2.1).map (· ++ [(2, i, max (lo - 1) 0, hi - 1)]) else [] := by
    unfold pmI
    simp [hn]
  have e2 : nwI d (2, i, lo, hi) = if lo = 0 then 1 else 0 := by simp [nwI]
  simp only [List.singleton_append]
  rw [sum_first, z]
  have e3 : hds d [(2, i, lo, hi)] = (pmI d (2, i, lo, hi)).map (· ++ []) ++ (List.replicate (nwI d (2, i, lo, hi)) [[]]).flatten := rfl
  rw [e3, sumF_app, sumF_rep, e1, e2, sumF_map]
  by_cases h0 : lo = 0
  · by_cases h1 : 0 < hi
    · simp only [if_pos h0, if_pos h1, List.append_nil]; rw [sumF_map]; simp [sumF]; omega
    · simp only [if_pos h0, if_neg h1]; simp [sumF]
  · by_cases h1 : 0 < hi
    · simp only [if_neg h0, if_pos h1, List.append_nil]; rw [sumF_map]; simp [sumF]
    · simp only [if_neg h0, if_neg h1]; simp [sumF]
theorem sum_rep (h : n.1 = 7) (F : List SItem → Nat) : sumF F (hds d [(1, i, 0, 0)]) = sumF F (hds d [(2, i, n.2.2.2.1, n.2.2.2.2.1)]) := by
  have e := PM_at hd hn
  rw [if_neg (by omega), if_neg (by omega), if_neg (by omega), if_neg (by omega), if_neg (by omega), if_pos h] at e
  have e1 : pm d i = if 0 < n.2.2.2.2.1 then (pm d n.2.1).map (· ++ [(2, i, max (n.2.2.2.1 - 1) 0, n.2.2.2.2.1 - 1)]) else [] := by
    have : pm d i = (PM d d.length i).1 := rfl
    rw [this, e]
  have e2 : nw d i = if n.2.2.2.1 = 0 then 1 else 0 := by
    have : nw d i = (PM d d.length i).2 := rfl
    rw [this, e]
  have e3 : pmI d (2, i, n.2.2.2.1, n.2.2.2.2.1) = pm d i := by rw [e1]; unfold pmI; simp [hn]
  have e4 : nwI d (2, i, n.2.2.2.1, n.2.2.2.2.1) = nw d i := by rw [e2]; simp [nwI]
  have e5 : hds d [(2, i, n.2.2.2.1, n.2.2.2.2.1)] = (pmI d (2, i, n.2.2.2.1, n.2.2.2.2.1)).map (· ++ []) ++ (List.replicate (nwI d (2, i, n.2.2.2.1, n.2.2.2.2.1)) [[]]).flatten := rfl
  rw [e5, e3, e4]
  rfl
theorem rch_seq (h : n.1 = 4) (hr : Rch d [(1, i, 0, 0)] w u) : (∃ t, Rch d [(1, n.2.1, 0, 0)] w t ∧ u = t ++ [(1, n.2.2.1, 0, 0)]) ∨ Rch d [(1, n.2.2.1, 0, 0)] w u := by
  obtain ⟨a, v, e, hv, hu⟩ := hr
  have hu' : u ∈ endsL d v ([(1, n.2.1, 0, 0)] ++ [(1, n.2.2.1, 0, 0)]) := ends_same (fun t _ ht => (mem_sum (sum_seq hd hn h) t).1 ht) hv hu
  rcases ends_cut hd _ _ _ _ hu' with ⟨u', r', h1, h2, h3⟩ | ⟨x, b, r', h1, h2, _, h3, h4⟩
  · rw [lows_plain (noend1 (by simp))] at h2
    cases h2
    exact .inl ⟨u', ⟨a, v, e, hv, h1⟩, h3⟩
  · rw [lows_plain (noend1 (by simp))] at h3
    cases h3
    exact .inr ⟨a ++ x, b, by rw [List.append_assoc, ← h1, e], h2, h4⟩
theorem rch_or (h : n.1 = 5) (hr : Rch d [(1, i, 0, 0)] w u) : Rch d [(1, n.2.1, 0, 0)] w u ∨ Rch d [(1, n.2.2.1, 0, 0)] w u := by
  obtain ⟨a, v, e, hv, hu⟩ := hr
  exact (ends_or (fun t _ ht => (mem_sum2 (sum_or hd hn h) t).1 ht) hv hu).imp (fun k => ⟨a, v, e, hv, k⟩) fun k => ⟨a, v, e, hv, k⟩
theorem rch_star (h : n.1 = 6) (hr : Rch d [(1, i, 0, 0)] w u) : ∃ t, Rch d [(1, n.2.1, 0, 0)] w t ∧ u = t ++ [(1, i, 0, 0)] := by
  obtain ⟨a, v, e, hv, hu⟩ := hr
  obtain ⟨k, hk⟩ : ∃ k, v.length ≤ k := ⟨_, Nat.le_refl _⟩
  induction k generalizing a v with
  | zero => exact absurd (List.length_eq_zero_iff.1 (by omega)) hv
  | succ k ih =>
    have hu' : u ∈ endsL d v ([(1, n.2.1, 0, 0)] ++ [(1, i, 0, 0)]) := ends_same (fun t ht h1 => ((mem_sum2 (sum_star hd hn h) t).1 h1).resolve_left fun h2 => ht (by simpa [hds] using h2)) hv hu
    rcases ends_cut hd _ _ _ _ hu' with ⟨u', r', h1, h2, h3⟩ | ⟨x, b, r', h1, h2, h5, h3, h4⟩
    · rw [lows_plain (noend1 (by simp))] at h2
      cases h2
      exact ⟨u', ⟨a, v, e, hv, h1⟩, h3⟩
    · rw [lows_plain (noend1 (by simp))] at h3
      cases h3
      have hx : x ≠ [] := fun ex => no_nil hd (nw_none hd hn (.inl h)) (h5 ex)
      have := List.length_pos_iff.2 hx
      have := congrArg List.length h1
      rw [List.length_append] at this
      exact ih (a ++ x) b (by rw [List.append_assoc, ← h1, e]) h2 h4 (by omega)
theorem ends_item (h : n.1 = 7) : ∀ (k : Nat) (v : List Int) (t : Nat) (u : List SItem), v.length ≤ k → v ≠ [] → u ∈ endsL d v [itemT i n t] → ∃ (t' : Nat) (x b : List Int) (u' : List SItem), v = x ++ b ∧ b ≠ [] ∧ t' ≤ x.length ∧ (t : Int) + t' < n.2.2.2.2.1 ∧ u' ∈ endsL d b [(1, n.2.1, 0, 0)] ∧ u = u' ++ [itemT i n (t + t' + 1)]
  | 0, v, t, u, hk, hv, hu => absurd (List.length_eq_zero_iff.1 (by omega)) hv
  | k + 1, v, t, u, hk, hv, hu => by
    have hs := sum_item hd hn h (max (n.2.2.2.1 - (t : Int)) 0) (n.2.2.2.2.1 - (t : Int))
    by_cases hi : 0 < n.2.2.2.2.1 - (t : Int)
    · have hu' : u ∈ endsL d v ([(1, n.2.1, 0, 0)] ++ [itemT i n (t + 1)]) := by
        refine ends_same (fun z hz h1 => ?_) hv hu
        rw [← sum_ne] at h1 ⊢
        have e1 : hds d [itemT i n t] = hds d [(2, i, max (n.2.2.2.1 - (t : Int)) 0, n.2.2.2.2.1 - (t : Int))] := rfl
        rw [e1, hs, if_pos hi, itemT_next] at h1
        have e0 : (if ([] : List SItem) = z then 1 else 0) = 0 := if_neg fun e => hz e.symm
        rw [e0] at h1
        have e00 : (if max (n.2.2.2.1 - (t : Int)) 0 = 0 then 0 else 0) = 0 := by split <;> rfl
        rw [e00, Nat.zero_add] at h1
        exact h1
      rcases ends_cut hd _ _ _ _ hu' with ⟨u', r', h1, h2, h3⟩ | ⟨x, b, r', h1, h2, h5, h3, h4⟩
      · rw [lows_plain (noend1 (by simp [itemT]))] at h2
        cases h2
        exact ⟨0, [], v, u', rfl, hv, Nat.le_refl _, by omega, h1, h3⟩
      · rw [lows_plain (noend1 (by simp [itemT]))] at h3
        cases h3
        have hx : x ≠ [] := fun ex => no_nil hd (nw_none hd hn (.inr h)) (h5 ex)
        have hx0 := List.length_pos_iff.2 hx
        have hl := congrArg List.length h1
        rw [List.length_append] at hl
        obtain ⟨t', y, c, u', j1, j2, j3, j4, j5, j6⟩ := ends_item h k b (t + 1) u (by omega) h2 h4
        refine ⟨t' + 1, x ++ y, c, u', by rw [h1, j1, List.append_assoc], j2, by rw [List.length_append]; omega, by omega, j5, ?_⟩
        rw [j6, show t + 1 + t' + 1 = t + (t' + 1) + 1 by omega]
    · exfalso
      have : u ∈ endsL d v [] := by
        refine ends_same (fun z hz h1 => ?_) hv hu
        rw [← sum_ne] at h1
        have e1 : hds d [itemT i n t] = hds d [(2, i, max (n.2.2.2.1 - (t : Int)) 0, n.2.2.2.2.1 - (t : Int))] := rfl
        rw [e1, hs, if_neg hi] at h1
        have e0 : (if ([] : List SItem) = z then 1 else 0) = 0 := if_neg fun e => hz e.symm
        rw [e0] at h1
        have e00 : (if max (n.2.2.2.1 - (t : Int)) 0 = 0 then 0 else 0) = 0 := by split <;> rfl
        rw [e00] at h1
        exact absurd rfl h1
      cases v with
      | nil => exact hv rfl
      | cons c v =>
        obtain ⟨x, h1, h2⟩ := List.mem_flatMap.1 this
        obtain ⟨z, k1, k2, k3⟩ := step_mem.1 h1
        have : z = [] := by simpa [hds] using k1
        subst this
        simp [readF] at k2
theorem rch_rep (h : n.1 = 7) (hr : Rch d [(1, i, 0, 0)] w u) : ∃ t : Nat, t < w.length ∧ (t : Int) < n.2.2.2.2.1 ∧ ∃ u', Rch d [(1, n.2.1, 0, 0)] (w.drop t) u' ∧ u = u' ++ [itemT i n (t + 1)] := by
  obtain ⟨a, v, e, hv, hu⟩ := hr
  have hb := hd.rep _ n hn h
  have hu' : u ∈ endsL d v [itemT i n 0] := by
    refine ends_same (fun t _ ht => ?_) hv hu
    have h1 := (mem_sum (sum_rep hd hn h) t).1 ht
    have : itemT i n 0 = (2, i, n.2.2.2.1, n.2.2.2.2.1) := by
      unfold itemT
      simp only [Prod.mk.injEq, true_and]
      omega
    rw [this]; exact h1
  obtain ⟨t, x, b, u', h1, h2, h3, h4, h5, h6⟩ := ends_item hd hn h v.length v 0 u (Nat.le_refl _) hv hu'
  have hb0 := List.length_pos_iff.2 h2
  have e1 : w = (a ++ x) ++ b := by rw [List.append_assoc, ← h1, e]
  have hl : w.length = (a ++ x).length + b.length := by rw [e1, List.length_append]
  have hal : x.length ≤ (a ++ x).length := by rw [List.length_append]; omega
  refine ⟨t, by omega, by omega, u', ⟨(a ++ x).drop t, b, ?_, h2, h5⟩, by rw [h6, Nat.zero_add]⟩
  rw [e1]
  exact (List.drop_append_of_le_length (l₁ := a ++ x) (by omega)).symm
omit hn in
theorem ends_held {A c : Int} (hc : 0 ≤ c) (hw : w ≠ []) (hu : u ∈ endsL d w [(1, A, 0, 0), (5, 0, c, 0)]) : ∃ u', u' ∈ endsL d w [(1, A, 0, 0)] ∧ u = u' ++ [(5, 0, c - w.length, 0)] := by
  have e : ([(1, A, 0, 0), (5, 0, c, 0)] : List SItem) = [(1, A, 0, 0)] ++ [(5, 0, c, 0)] := rfl
  rw [e] at hu
  rcases ends_cut hd _ _ _ _ hu with ⟨u', r', h1, h2, h3⟩ | ⟨x, b, r', h1, h2, h5, h3, h4⟩
  · rw [lows_end c hc] at h2
    split at h2
    · cases h2
      exact ⟨u', h1, h3⟩
    · cases h2
  · rw [lows_end c hc] at h3
    split at h3
    · cases h3
      exact absurd h4 (ends_stop h2)
    · cases h3
omit hd hn in
theorem tail_drop {a : List Int} {c : Int} {v : List Int} (e : a ++ c :: v = w) : w.drop (a.length + 1) = v ∧ w.getD a.length 0 = c ∧ w.length = a.length + 1 + v.length := by
  subst e
  refine ⟨?_, by simp, by simp; omega⟩
  rw [show a.length + 1 = (a ++ [c]).length by simp, show a ++ c :: v = (a ++ [c]) ++ v by simp, List.drop_left]
theorem rch_frame (h : n.1 = 8) (hw : ∀ c ∈ w, 0 ≤ c) (hr : Rch d [(1, i, 0, 0)] w u) : u = [(1, n.2.1, 0, 0), (5, 0, w.getD (w.length - 1) 0, 0)] ∨ ∃ p : Nat, p < w.length - 1 ∧ ∃ u', Rch d [(1, n.2.1, 0, 0)] (w.drop (p + 1)) u' ∧ u = u' ++ [(5, 0, w.getD p 0 - ((w.length - (p + 1) : Nat) : Int), 0)] := by
  obtain ⟨a, v, e, hv, hu⟩ := hr
  cases v with
  | nil => exact absurd rfl hv
  | cons c v =>
    obtain ⟨x, h1, h2⟩ := List.mem_flatMap.1 hu
    obtain ⟨z, k1, k2, k3⟩ := step_mem.1 h1
    obtain ⟨e1, e2⟩ := pm_ready hd hn (.inr (.inl h))
    have e3 : hds d [(1, i, 0, 0)] = [[(1, i, 0, 0)]] := by rw [hds_st, e1, e2]; rfl
    rw [e3, List.mem_singleton] at k1
    subst k1
    have er : readF d [(1, i, 0, 0)] c = ([(1, n.2.1, 0, 0), (5, 0, c, 0)], true) := by
      unfold readF
      simp only [hn]
      rw [if_neg (by simp [lowF]), if_neg (by decide), if_neg (by decide), if_pos h]
      rfl
    rw [er] at k3
    simp only at k3
    subst k3
    obtain ⟨f1, f2, f3⟩ := tail_drop e
    have hc : 0 ≤ c := hw c (by rw [← e]; simp)
    cases v with
    | nil =>
      left
      rw [endsL, List.mem_singleton] at h2
      have : w.length - 1 = a.length := by rw [f3]; simp
      rw [h2, this, f2]
    | cons b v =>
      right
      obtain ⟨u', j1, j2⟩ := ends_held hd hc (by simp) h2
      refine ⟨a.length, by rw [f3]; simp only [List.length_cons]; omega, u', ⟨[], b :: v, by rw [f1]; rfl, by simp, j1⟩, ?_⟩
      rw [j2, f2]
      congr 5
      rw [f3]; omega
theorem rch_wide (h : n.1 = 9) (hw : ∀ c ∈ w, 0 ≤ c) (hr : Rch d [(1, i, 0, 0)] w u) : u = [(4, i, w.getD (w.length - 1) 0, 0)] ∨ u = [(1, n.2.1, 0, 0), (5, 0, 256 * w.getD (w.length - 2) 0 + w.getD (w.length - 1) 0, 0)] ∧ 2 ≤ w.length ∨
    ∃ p : Nat, p < w.length - 2 ∧ ∃ u', Rch d [(1, n.2.1, 0, 0)] (w.drop (p + 2)) u' ∧ u = u' ++ [(5, 0, 256 * w.getD p 0 + w.getD (p + 1) 0 - ((w.length - (p + 2) : Nat) : Int), 0)] := by
  obtain ⟨a, v, e, hv, hu⟩ := hr
  cases v with
  | nil => exact absurd rfl hv
  | cons c v =>
    obtain ⟨x, h1, h2⟩ := List.mem_flatMap.1 hu
    obtain ⟨z, k1, k2, k3⟩ := step_mem.1 h1
    obtain ⟨e1, e2⟩ := pm_ready hd hn (.inr (.inr h))
    have e3 : hds d [(1, i, 0, 0)] = [[(1, i, 0, 0)]] := by rw [hds_st, e1, e2]; rfl
    rw [e3, List.mem_singleton] at k1
    subst k1
    have er : readF d [(1, i, 0, 0)] c = ([(4, i, c, 0)], true) := by
      unfold readF
      simp only [hn]
      rw [if_neg (by simp [lowF]), if_neg (by decide), if_neg (by decide), if_neg (by omega), if_pos h]
      rfl
    rw [er] at k3
    simp only at k3
    subst k3
    obtain ⟨f1, f2, f3⟩ := tail_drop e
    have hc : 0 ≤ c := hw c (by rw [← e]; simp)
    cases v with
    | nil =>
      left
      rw [endsL, List.mem_singleton] at h2
      have : w.length - 1 = a.length := by rw [f3]; simp
      rw [h2, this, f2]
    | cons b v =>
      right
      have hb : 0 ≤ b := hw b (by rw [← e]; simp)
      obtain ⟨x, h1, h2⟩ := List.mem_flatMap.1 h2
      obtain ⟨z, k1, k2, k3⟩ := step_mem.1 h1
      have e4 : hds d [(4, i, c, 0)] = [[(4, i, c, 0)]] := by
        have e1 : pmI d (4, i, c, 0) = [[(4, i, c, 0)]] := by simp [pmI]
        have e2 : nwI d (4, i, c, 0) = 0 := by simp [nwI]
        have e3 : hds d [(4, i, c, 0)] = (pmI d (4, i, c, 0)).map (· ++ []) ++ (List.replicate (nwI d (4, i, c, 0)) [[]]).flatten := rfl
        rw [e3, e1, e2]; rfl
      rw [e4, List.mem_singleton] at k1
      subst k1
      have er : readF d [(4, i, c, 0)] b = ([(1, n.2.1, 0, 0), (5, 0, 256 * c + b, 0)], true) := by
        unfold readF
        simp only [hn]
        rw [if_neg (by simp [lowF]), if_neg (by decide), if_pos trivial]
        rfl
      rw [er] at k3
      simp only at k3
      subst k3
      have e' : (a ++ [c]) ++ b :: v = w := by rw [← e]; simp
      obtain ⟨g1, g2, g3⟩ := tail_drop e'
      have hal : (a ++ [c]).length = a.length + 1 := by simp
      rw [hal] at g1 g2 g3
      cases v with
      | nil =>
        left
        rw [endsL, List.mem_singleton] at h2
        have t1 : w.length - 1 = a.length + 1 := by rw [g3]; simp
        have t2 : w.length - 2 = a.length := by rw [g3]; simp
        refine ⟨by rw [h2, t1, t2, f2, g2], by rw [g3]; omega⟩
      | cons q v =>
        right
        obtain ⟨u', j1, j2⟩ := ends_held hd (by omega) (by simp) h2
        refine ⟨a.length, by rw [g3]; simp only [List.length_cons]; omega, u', ⟨[], q :: v, by rw [g1]; rfl, by simp, j1⟩, ?_⟩
        rw [j2, f2, g2]
        congr 5
        rw [g3]; omega
theorem rch_bytes (h : n.1 = 2) (hr : Rch d [(1, i, 0, 0)] w u) : u = [] := by
  obtain ⟨a, v, e, hv, hu⟩ := hr
  cases v with
  | nil => exact absurd rfl hv
  | cons c v =>
    obtain ⟨x, h1, h2⟩ := List.mem_flatMap.1 hu
    obtain ⟨z, k1, k2, k3⟩ := step_mem.1 h1
    obtain ⟨e1, e2⟩ := pm_ready hd hn (.inl h)
    have e3 : hds d [(1, i, 0, 0)] = [[(1, i, 0, 0)]] := by rw [hds_st, e1, e2]; rfl
    rw [e3, List.mem_singleton] at k1
    subst k1
    have er : readF d [(1, i, 0, 0)] c = if n.2.2.2.2.2.1.has c.toNat = true then ([], true) else ([], false) := by
      unfold readF
      simp only [hn]
      rw [if_neg (by simp [lowF]), if_neg (by decide), if_neg (by decide), if_neg (by omega), if_neg (by omega)]
      rfl
    have ex : x = [] := by rw [← k3, er]; split <;> rfl
    subst ex
    cases v with
    | nil => rwa [endsL, List.mem_singleton] at h2
    | cons b v =>
      obtain ⟨x, h1, h2⟩ := List.mem_flatMap.1 h2
      obtain ⟨z, k1, k2, k3⟩ := step_mem.1 h1
      have : z = [] := by simpa [hds] using k1
      subst this
      simp [readF] at k2
theorem rch_empty (h : n.1 = 1) : ¬ Rch d [(1, i, 0, 0)] w u := by
  rintro ⟨a, v, e, hv, hu⟩
  cases v with
  | nil => exact absurd rfl hv
  | cons c v =>
    obtain ⟨x, h1, h2⟩ := List.mem_flatMap.1 hu
    obtain ⟨z, k1, k2, k3⟩ := step_mem.1 h1
    have e := PM_at hd hn
    rw [if_pos h] at e
    have e1 : pm d i = [] := by unfold pm; rw [e]
    rw [hds_st, e1] at k1
    have : z = [] := by simp at k1; exact k1.2
    subst this
    simp [readF] at k2
omit hd in
theorem ends_text : ∀ (v : List Int) (lo : Nat) (u : List SItem), u ∈ endsL d v [(3, i, (lo : Int), 0)] → lo < n.2.2.2.2.2.2.length → lo + v.length ≤ n.2.2.2.2.2.2.length ∧ u = if lo + v.length < n.2.2.2.2.2.2.length then [(3, i, ((lo + v.length : Nat) : Int), 0)] else []
  | [], lo, u, hu, hlo => by
    rw [endsL, List.mem_singleton] at hu
    rw [List.length_nil, Nat.add_zero, if_pos hlo]
    exact ⟨by omega, hu⟩
  | c :: v, lo, u, hu, hlo => by
    obtain ⟨x, h1, h2⟩ := List.mem_flatMap.1 hu
    obtain ⟨z, k1, k2, k3⟩ := step_mem.1 h1
    have e4 : hds d [(3, i, (lo : Int), 0)] = [[(3, i, (lo : Int), 0)]] := by
      have e1 : pmI d (3, i, (lo : Int), 0) = [[(3, i, (lo : Int), 0)]] := by simp [pmI]
      have e2 : nwI d (3, i, (lo : Int), 0) = 0 := by simp [nwI]
      have e3 : hds d [(3, i, (lo : Int), 0)] = (pmI d (3, i, (lo : Int), 0)).map (· ++ []) ++ (List.replicate (nwI d (3, i, (lo : Int), 0)) [[]]).flatten := rfl
      rw [e3, e1, e2]; rfl
    rw [e4, List.mem_singleton] at k1
    subst k1
    have hr : readF d [(3, i, (lo : Int), 0)] c = if byte? n.2.2.2.2.2.2 (lo : Int) = some c then (if (lo : Int) + 1 < (n.2.2.2.2.2.2.length : Int) then [(3, i, (lo : Int) + 1, 0)] else [], true) else ([], false) := by
      unfold readF
      simp only [hn]
      rw [if_neg (by simp [lowF]), if_pos trivial]
      split
      · split <;> rfl
      · rfl
    have hb : byte? n.2.2.2.2.2.2 (lo : Int) = some c := by
      rcases Classical.em (byte? n.2.2.2.2.2.2 (lo : Int) = some c) with h | h
      · exact h
      · rw [hr, if_neg h] at k2; cases k2
    rw [hr, if_pos hb] at k3
    simp only at k3
    by_cases hl : lo + 1 < n.2.2.2.2.2.2.length
    · rw [if_pos (by omega)] at k3
      have ex : x = [(3, i, ((lo + 1 : Nat) : Int), 0)] := by rw [← k3]; congr 1
      rw [ex] at h2
      obtain ⟨j1, j2⟩ := ends_text v (lo + 1) u h2 hl
      rw [List.length_cons, show lo + (v.length + 1) = lo + 1 + v.length by omega]
      exact ⟨j1, j2⟩
    · rw [if_neg (by omega)] at k3
      subst k3
      cases v with
      | nil =>
        rw [endsL, List.mem_singleton] at h2
        simp only [List.length_cons, List.length_nil]
        rw [if_neg (by omega)]
        exact ⟨by omega, h2⟩
      | cons b v =>
        exfalso
        obtain ⟨x, h1, h2⟩ := List.mem_flatMap.1 h2
        obtain ⟨z, k1, k2, k3⟩ := step_mem.1 h1
        have : z = [] := by simpa [hds] using k1
        subst this
        simp [readF] at k2
theorem rch_text (h : n.1 = 3) (hr : Rch d [(1, i, 0, 0)] w u) : ∃ k : Nat, k < w.length ∧ k < n.2.2.2.2.2.2.length ∧ u = if k + 1 < n.2.2.2.2.2.2.length then [(3, i, ((k + 1 : Nat) : Int), 0)] else [] := by
  obtain ⟨a, v, e, hv, hu⟩ := hr
  have hlo : 0 < n.2.2.2.2.2.2.length := List.length_pos_iff.2 (hd.ntx _ n hn h)
  have e0 := PM_at hd hn
  rw [if_neg (by omega), if_pos h] at e0
  have e1 : pm d i = [[(3, i, 0, 0)]] := by
    have : pm d i = (PM d d.length i).1 := rfl
    rw [this, e0]
  have e2 : nw d i = 0 := by
    have : nw d i = (PM d d.length i).2 := rfl
    rw [this, e0]
  have hu' : u ∈ endsL d v [(3, i, ((0 : Nat) : Int), 0)] := by
    refine ends_same (fun t _ ht => ?_) hv hu
    rw [hds_st, e1, e2] at ht
    have e3 : pmI d (3, i, ((0 : Nat) : Int), 0) = [[(3, i, 0, 0)]] := by simp [pmI]
    have e4 : nwI d (3, i, ((0 : Nat) : Int), 0) = 0 := by simp [nwI]
    have e5 : hds d [(3, i, ((0 : Nat) : Int), 0)] = (pmI d (3, i, ((0 : Nat) : Int), 0)).map (· ++ []) ++ (List.replicate (nwI d (3, i, ((0 : Nat) : Int), 0)) [[]]).flatten := rfl
    rw [e5, e3, e4]
    simpa using ht
  obtain ⟨h1, h2⟩ := ends_text hn v 0 u hu' hlo
  have hv0 := List.length_pos_iff.2 hv
  have hl := congrArg List.length e
  rw [List.length_append] at hl
  refine ⟨v.length - 1, by omega, by omega, ?_⟩
  rw [h2, show 0 + v.length = v.length - 1 + 1 by omega]
end
theorem cov_pas {d : List SNode} (hd : ROk d) {f i : Int} (h : Tr d f i) : ∀ w : List Int, (∀ c ∈ w, 0 ≤ c) → Cov (pas (i - f + 1).toNat w.length) (Rch d [(1, i, 0, 0)] w) := by
  induction h with
  | leaf he hk hx h0 =>
    rename_i i e
    intro w hw
    have em : (i - i + 1).toNat = 1 := by omega
    rw [em]
    rcases hk with k | k | k
    · exact Cov.none (fun u => rch_empty hd he k) _
    · exact (Cov.one [] fun u hu => rch_bytes hd he k hu).weak (pas_pos _ _) fun _ h => h
    · have : Cov (sumN (fun _ => 1) w.length) (Rch d [(1, i, 0, 0)] w) := by
        refine (Cov.sum (p := fun j u => u = if j + 1 < e.2.2.2.2.2.2.length then [(3, i, ((j + 1 : Nat) : Int), 0)] else []) w.length fun j hj => Cov.one _ fun u hu => hu).weak (Nat.le_refl _) fun u hu => ?_
        obtain ⟨j, h1, _, h2⟩ := rch_text hd he k hu
        exact ⟨j, h1, h2⟩
      refine this.weak ?_ fun _ h => h
      have e1 : ∀ k, sumN (fun _ => 1) k = k := fun k => by
        induction k with
        | zero => rfl
        | succ k ih => show sumN (fun _ => 1) k + 1 = _; rw [ih]
      have e2 : ∀ k, pas 1 k = k + 1 := fun k => by
        induction k with
        | zero => rfl
        | succ k ih => show 1 + pas 1 k = _; rw [ih]; omega
      rw [e1, e2]; omega
  | one he hk ha hb hr h ih =>
    rename_i f i e
    intro w hw
    have hle := h.le
    cases w with
    | nil => exact Cov.none (fun u => Rch.none) _
    | cons c0 w0 =>
      generalize hwe : c0 :: w0 = w at hw ⊢
      have hl : 1 ≤ w.length := by rw [← hwe]; simp
      obtain ⟨m, hm⟩ : ∃ m : Nat, (i - 1 - f + 1).toNat = m := ⟨_, rfl⟩
      have em : (i - f + 1).toNat = m + 1 := by omega
      rw [hm] at ih
      rw [em]
      have hdr : ∀ p, ∀ c ∈ w.drop p, 0 ≤ c := fun p c hc => hw c (List.mem_of_mem_drop hc)
      rcases hk with k | k | k | k
      · refine ((ih w hw).map (· ++ [(1, i, 0, 0)]) fun u hu => ?_).weak (pas_up _ _) fun _ h => h
        have := rch_star hd he k hu
        rw [ha] at this; exact this
      · have := Cov.sum (f := fun t => pas m (w.length - t)) (p := fun t u => ∃ u', Rch d [(1, i - 1, 0, 0)] (w.drop t) u' ∧ u = u' ++ [itemT i e (t + 1)]) w.length fun t ht => by
          have h1 := ih (w.drop t) (hdr t)
          rw [List.length_drop] at h1
          exact h1.map (· ++ [itemT i e (t + 1)]) fun u hu => hu
        refine this.weak ?_ fun u hu => ?_
        · have := pas_row m w.length w.length (Nat.le_refl _)
          omega
        · obtain ⟨t, h1, _, h2⟩ := rch_rep hd he k hu
          rw [ha] at h2
          exact ⟨t, h1, h2⟩
      · have := Cov.sum (f := fun p => pas m (w.length - 1 - p)) (p := fun p u => ∃ u', Rch d [(1, i - 1, 0, 0)] (w.drop (p + 1)) u' ∧ u = u' ++ [(5, 0, w.getD p 0 - ((w.length - (p + 1) : Nat) : Int), 0)]) (w.length - 1) fun p hp => by
          have h1 := ih (w.drop (p + 1)) (hdr _)
          rw [List.length_drop, show w.length - (p + 1) = w.length - 1 - p by omega] at h1
          exact h1.map (· ++ [(5, 0, w.getD p 0 - ((w.length - (p + 1) : Nat) : Int), 0)]) fun u hu => hu
        refine ((Cov.one [(1, i - 1, 0, 0), (5, 0, w.getD (w.length - 1) 0, 0)] (p := fun u => u = [(1, i - 1, 0, 0), (5, 0, w.getD (w.length - 1) 0, 0)]) fun u hu => hu).or this fun u hu => ?_).weak ?_ fun _ h => h
        · have := rch_frame hd he k hw hu
          rw [ha] at this; exact this
        · have h1 := pas_row m (w.length - 1) (w.length - 1) (Nat.le_refl _)
          rw [Nat.sub_self, pas_zero] at h1
          have h2 := pas_long (m + 1) (Nat.sub_le w.length 1)
          omega
      · have := Cov.sum (f := fun p => pas m (w.length - 2 - p)) (p := fun p u => ∃ u', Rch d [(1, i - 1, 0, 0)] (w.drop (p + 2)) u' ∧ u = u' ++ [(5, 0, 256 * w.getD p 0 + w.getD (p + 1) 0 - ((w.length - (p + 2) : Nat) : Int), 0)]) (w.length - 2) fun p hp => by
          have h1 := ih (w.drop (p + 2)) (hdr _)
          rw [List.length_drop, show w.length - (p + 2) = w.length - 2 - p by omega] at h1
          exact h1.map (· ++ [(5, 0, 256 * w.getD p 0 + w.getD (p + 1) 0 - ((w.length - (p + 2) : Nat) : Int), 0)]) fun u hu => hu
        by_cases h2 : 2 ≤ w.length
        · have c1 := (Cov.one [(4, i, w.getD (w.length - 1) 0, 0)] (p := fun u => u = [(4, i, w.getD (w.length - 1) 0, 0)]) fun u hu => hu)
          have c2 := (Cov.one [(1, i - 1, 0, 0), (5, 0, 256 * w.getD (w.length - 2) 0 + w.getD (w.length - 1) 0, 0)] (p := fun u => u = [(1, i - 1, 0, 0), (5, 0, 256 * w.getD (w.length - 2) 0 + w.getD (w.length - 1) 0, 0)]) fun u hu => hu)
          refine (c1.or (c2.or this fun u hu => hu) fun u hu => ?_).weak ?_ fun _ h => h
          · have := rch_wide hd he k hw hu
            rw [ha] at this
            exact this.imp id fun h => h.imp (fun h => h.1) id
          · have h1 := pas_row m (w.length - 2) (w.length - 2) (Nat.le_refl _)
            rw [Nat.sub_self, pas_zero] at h1
            have e1 : pas (m + 1) (w.length - 1) = pas m (w.length - 1) + pas (m + 1) (w.length - 2) := by
              rw [show w.length - 1 = (w.length - 2) + 1 by omega]; rfl
            have e2 : pas (m + 1) w.length = pas m w.length + pas (m + 1) (w.length - 1) := by
              obtain ⟨q, hq⟩ : ∃ q, w.length = q + 1 := ⟨w.length - 1, by omega⟩
              rw [hq]; rfl
            have := pas_pos m (w.length - 1)
            have := pas_pos m w.length
            omega
        · refine ((Cov.one [(4, i, w.getD (w.length - 1) 0, 0)]) fun u hu => ?_).weak (pas_pos _ _) fun _ h => h
          rcases rch_wide hd he k hw hu with h1 | ⟨_, h1⟩ | ⟨p, h1, _⟩
          · exact h1
          · exact absurd h1 h2
          · omega
  | two he hk ha hb h1 h2 i1 i2 =>
    rename_i f p i e
    intro w hw
    have l1 := h1.le
    have l2 := h2.le
    cases w with
    | nil => exact Cov.none (fun u => Rch.none) _
    | cons c0 w0 =>
      generalize hwe : c0 :: w0 = w at hw ⊢
      have hl : w.length = w0.length + 1 := by rw [← hwe]; simp
      have j1 := i1 w hw
      have j2 := i2 w hw
      have hs : pas (p - 1 - f + 1).toNat w.length + pas (i - 1 - p + 1).toNat w.length ≤ pas (i - f + 1).toNat w.length := by
        have := pas_two (p - 1 - f + 1).toNat (i - 1 - p + 1).toNat w0.length
        rw [← hl, show (p - 1 - f + 1).toNat + (i - 1 - p + 1).toNat + 1 = (i - f + 1).toNat by omega] at this
        exact this
      rcases hk with k | k
      · refine ((j2.map (· ++ [(1, i - 1, 0, 0)]) (r := fun u => ∃ t, Rch d [(1, p - 1, 0, 0)] w t ∧ u = t ++ [(1, i - 1, 0, 0)]) fun u hu => hu).or j1 fun u hu => ?_).weak hs fun _ h => h
        have := rch_seq hd he k hu
        rw [ha, hb] at this; exact this
      · refine (j2.or j1 fun u hu => ?_).weak hs fun _ h => h
        have := rch_or hd he k hu
        rw [ha, hb] at this; exact this
theorem after_cov {d : List SNode} (h : Rt d) {w : List Int} (hw : ∀ c ∈ w, 0 ≤ c) : Cov (pas d.length w.length) (fun u => u ∈ endsL d w [(1, (d.length : Int) - 1, 0, 0)]) := by
  cases w with
  | nil =>
    refine (Cov.one [(1, (d.length : Int) - 1, 0, 0)] fun u hu => ?_).weak (pas_pos _ _) fun _ h => h
    rwa [endsL, List.mem_singleton] at hu
  | cons c w =>
    refine (cov_pas h.toROk h.tr (c :: w) hw).weak ?_ fun u hu => ⟨[], c :: w, rfl, by simp, hu⟩
    have : ((d.length : Int) - 1 - 0 + 1).toNat = d.length := by omega
    rw [this]; exact Nat.le_refl _
end Go.Proofs.YtdidjelkkanenaaDoor.V
namespace Go.Proofs.YtdidjelkkanenaaDoor.V
open Go
set_option linter.unusedVariables false
theorem sat_mul {a b m : Nat} (h : sat a = sat b) : sat (m * a) = sat (m * b) := by
  have h' : min 2 a = min 2 b := by unfold sat at h; omega
  unfold sat
  congr 1
  have hz : ∀ k : Nat, m * k = 0 ∨ k ≤ m * k := fun k => by
    rcases Nat.eq_zero_or_pos m with h | h
    · subst h; simp
    · exact .inr (Nat.le_mul_of_pos_left _ h)
  by_cases ha : a ≤ 1
  · have : a = b := by omega
    rw [this]
  · have h1 := hz a
    have h2 := hz b
    rcases Nat.eq_zero_or_pos m with h | h
    · subst h; simp
    · have k1 := Nat.le_mul_of_pos_left a h
      have k2 := Nat.le_mul_of_pos_left b h
      omega
theorem sat_add {a b x y : Nat} (h : sat a = sat b) (k : sat x = sat y) : sat (a + x) = sat (b + y) := by unfold sat at *; omega
theorem sat_sat (n : Nat) : sat (sat n).toNat = sat n := by unfold sat; omega
theorem sat_two {a b x y : Nat} (h : sat a = sat b) (k : sat x = sat y) : sat (a * x) = sat (b * y) := by
  rw [sat_mul k, Nat.mul_comm, sat_mul h, Nat.mul_comm]
def gK (g : List SItem → List SItem → Nat) (l : List SBranch) (t : List SItem) : Nat := (l.map fun b => b.2.toNat * g b.1 t).sum
def oK (m : Nat) (o : List SBranch) (t : List SItem) : Nat := (o.map fun x => if x.1 = t then m * x.2.toNat else 0).sum
theorem gK_snoc (g : List SItem → List SItem → Nat) (l : List SBranch) (b : SBranch) (t : List SItem) : gK g (l ++ [b]) t = gK g l t + b.2.toNat * g b.1 t := by
  unfold gK
  rw [List.map_append, List.sum_append]
  simp
theorem oK_snoc (m : Nat) (o : List SBranch) (x : SBranch) (t : List SItem) : oK m (o ++ [x]) t = oK m o t + if x.1 = t then m * x.2.toNat else 0 := by
  unfold oK
  rw [List.map_append, List.sum_append]
  simp
theorem oK_all {f : List SItem → Nat} {o : List SBranch} (h : Can f o) (m : Nat) (t : List SItem) : sat (oK m o t) = sat (m * f t) := by
  have e : oK m o t = ((o.map (·.1)).map fun k => (if k = t then 1 else 0) * (m * (sat (f k)).toNat)).sum := by
    unfold oK
    rw [List.map_map]
    congr 1
    refine List.map_congr_left fun x hx => ?_
    have := (h.many hx).1
    simp only [Function.comp]
    by_cases hxt : x.1 = t
    · rw [if_pos hxt, if_pos hxt, Nat.one_mul, this]
    · rw [if_neg hxt, if_neg hxt, Nat.zero_mul]
  by_cases ht : t ∈ o.map (·.1)
  · rw [e, sum_single (g := fun k => m * (sat (f k)).toNat) h.nodup ht]
    exact sat_mul (sat_sat _)
  · have h0 : f t = 0 := by
      rcases Nat.eq_zero_or_pos (f t) with h0 | h0
      · exact h0
      · exact absurd ((h.keys t).2 (by omega)) ht
    rw [h0, Nat.mul_zero, e]
    have : ∀ k ∈ o.map (·.1), (if k = t then 1 else 0) * (m * (sat (f k)).toNat) = 0 := fun k hk => by
      rw [if_neg (fun e' => ht (by rw [← e']; exact hk)), Nat.zero_mul]
    rw [List.map_congr_left this, sum_nought]
theorem gK_next {g : List SItem → List SItem → Nat} {l : List SBranch} {b : SBranch} {o m : List SBranch} (ho : Can (g b.1) o) (hm : Can (fun t => gK g l t + oK b.2.toNat o t) m) : Can (gK g (l ++ [b])) m :=
  hm.congr fun t => by
    rw [gK_snoc]
    exact sat_add rfl (oK_all ho _ t)
theorem gK_all {g : List SItem → List SItem → Nat} {L : List (List SItem)} {l : List SBranch} (h : Can (fun t => L.count t) l) (t : List SItem) : sat (gK g l t) = sat (sumF (fun u => g u t) L) := by
  rw [sum_by h.nodup L fun u hu => (h.keys u).2 (by have := List.count_pos_iff.2 hu; omega), List.map_map]
  unfold gK
  have : ∀ b ∈ l, sat (b.2.toNat * g b.1 t) = sat (L.count b.1 * g b.1 t) := fun b hb => by
    have := (h.many hb).1
    refine sat_two ?_ rfl
    rw [this]; exact sat_sat _
  clear h
  induction l with
  | nil => rfl
  | cons b l ih =>
    have k1 := this b (by simp)
    have k2 := ih fun b' hb' => this b' (by simp [hb'])
    simp only [List.map_cons, List.sum_cons, Function.comp]
    exact sat_add k1 k2
theorem count_flat (f : List SItem → List (List SItem)) (t : List SItem) : ∀ L : List (List SItem), (L.flatMap f).count t = sumF (fun u => (f u).count t) L
  | [] => rfl
  | u :: L => by
    rw [List.flatMap_cons, List.count_append, count_flat f t L]
    simp [sumF]
theorem gK_byte {d : List SNode} {c : Int} {L : List (List SItem)} {l m : List SBranch} (h : Can (fun t => L.count t) l) (hm : Can (gK (fun u t => (stepL d c u).count t) l) m) : Can (fun t => (L.flatMap (stepL d c)).count t) m :=
  hm.congr fun t => by rw [gK_all h t, count_flat]
def eK (d : List SNode) (l : List SBranch) : Nat := (l.map fun b => b.2.toNat * (sat ((hds d b.1).count [])).toNat).sum
theorem eK_all {d : List SNode} {L : List (List SItem)} {l : List SBranch} (h : Can (fun t => L.count t) l) : sat (eK d l) = sat (sumF (fun u => (hds d u).count []) L) := by
  have := gK_all (g := fun u _ => (sat ((hds d u).count [])).toNat) h []
  rw [show eK d l = gK (fun u _ => (sat ((hds d u).count [])).toNat) l [] from rfl, this]
  clear this h
  induction L with
  | nil => rfl
  | cons u L ih =>
    have e : ∀ F : List SItem → Nat, sumF F (u :: L) = F u + sumF F L := fun F => by simp [sumF]
    rw [e, e]
    exact sat_add (sat_sat _) ih
theorem rch_len {d : List SNode} (hd : ROk d) {f i : Int} (h : Tr d f i) : ∀ (w : List Int) (u : List SItem), (∀ c ∈ w, 0 ≤ c) → Rch d [(1, i, 0, 0)] w u → u.length ≤ (i - f + 1).toNat := by
  induction h with
  | leaf he hk hx h0 =>
    rename_i i e
    intro w u hw hu
    rcases hk with k | k | k
    · exact absurd hu (rch_empty hd he k)
    · rw [rch_bytes hd he k hu]; simp
    · obtain ⟨j, _, _, h2⟩ := rch_text hd he k hu
      rw [h2]
      split <;> simp
  | one he hk ha hb hr h ih =>
    rename_i f i e
    intro w u hw hu
    have hle := h.le
    have hdr : ∀ p, ∀ c ∈ w.drop p, 0 ≤ c := fun p c hc => hw c (List.mem_of_mem_drop hc)
    rcases hk with k | k | k | k
    · obtain ⟨t, h1, rfl⟩ := rch_star hd he k hu
      rw [ha] at h1
      have := ih w t hw h1
      simp; omega
    · obtain ⟨t, _, _, u', h1, rfl⟩ := rch_rep hd he k hu
      rw [ha] at h1
      have := ih _ u' (hdr t) h1
      simp; omega
    · rcases rch_frame hd he k hw hu with rfl | ⟨p, _, u', h1, rfl⟩
      · simp; omega
      · rw [ha] at h1
        have := ih _ u' (hdr _) h1
        simp; omega
    · rcases rch_wide hd he k hw hu with rfl | ⟨rfl, _⟩ | ⟨p, _, u', h1, rfl⟩
      · simp; omega
      · simp; omega
      · rw [ha] at h1
        have := ih _ u' (hdr _) h1
        simp; omega
  | two he hk ha hb h1 h2 i1 i2 =>
    rename_i f p i e
    intro w u hw hu
    have l1 := h1.le
    have l2 := h2.le
    rcases hk with k | k
    · rcases rch_seq hd he k hu with ⟨t, h1, rfl⟩ | h1
      · rw [ha] at h1
        have := i2 w t hw h1
        simp; omega
      · rw [hb] at h1
        have := i1 w u hw h1
        omega
    · rcases rch_or hd he k hu with h1 | h1
      · rw [ha] at h1
        have := i2 w u hw h1
        omega
      · rw [hb] at h1
        have := i1 w u hw h1
        omega
theorem after_sm {d : List SNode} (h : Rt d) (hl : d.length ≤ 24) (ht : ∀ n ∈ d, n.2.2.2.2.2.2.length ≤ 140737488351232) {w : List Int} (hw : ∀ c ∈ w, InR .u8 c) {u : List SItem} (hu : u ∈ endsL d w [(1, (d.length : Int) - 1, 0, 0)]) : Sm d u ∧ u.length ≤ 24 := by
  have hpos : 0 < d.length := List.length_pos_iff.2 h.ne
  have hsome : ∃ n, at? d ((d.length : Int) - 1) = some n := by
    have e : (d.length : Int) - 1 = ((d.length - 1 : Nat) : Int) := by omega
    rw [e, at_nat]
    exact ⟨_, List.getElem?_eq_getElem (show d.length - 1 < d.length by omega)⟩
  have hf : formS d [(1, (d.length : Int) - 1, 0, 0)] = true := form_mk (form_one hsome) rfl
  have hform := (ends_ok h.toROk w _ hw hf u hu).1
  have hlen : u.length ≤ 24 := by
    cases w with
    | nil =>
      rw [endsL, List.mem_singleton] at hu
      subst hu; simp
    | cons c w =>
      have := rch_len h.toROk h.tr (c :: w) u (fun c' hc' => (inR_u8.1 (hw c' hc')).1) ⟨[], c :: w, rfl, by simp, hu⟩
      omega
  exact ⟨⟨h, hl, ht, hform, by omega⟩, hlen⟩
end Go.Proofs.YtdidjelkkanenaaDoor.V
namespace Go.Proofs.YtdidjelkkanenaaDoor.V
open Go
set_option linter.unusedVariables false
theorem add_loop {P : Nat → List SBranch → Int → Prop} {X : List SBranch → Prop} {o : List SBranch} {b : SBranch} {y : SBranch → Prop} (hy : y b) (hb : 1 ≤ b.2 ∧ b.2 ≤ 2)
    (hP : ∀ k m j, P (k + 1) m j = (((decide (j < (o.length : Int))) = true → ∃ e88 : SBranch, at? o j = some e88 ∧ ∃ e90 : SBranch, y e90 ∧ ∃ e92 : SBranch, at? o j = some e92 ∧ (InR .i64 (e90.2 * e92.2)) ∧ ∃ r95 : (List SBranch), ref14_Add m e88.1 (min 2 (e90.2 * e92.2)) r95 ∧ (InR .i64 (j + 1)) ∧ P k r95 (j + 1)) ∧ ((decide (j < (o.length : Int))) = false → X m)))
    {K : List (List SItem)} (hK : K.length ≤ 2000000000) (hK1 : ∀ t ∈ K, t.length ≤ 1000) {f g0 : List SItem → Nat} (ho : Can f o) (hoK : ∀ x ∈ o, x.1 ∈ K) (hg : ∀ t, g0 t ≠ 0 → t ∈ K)
    {m0 : List SBranch} (h0 : Can g0 m0) (hX : ∀ m, Can (fun t => g0 t + oK b.2.toNat o t) m → X m) : ∃ k, P k m0 0 := by
  have hol : o.length ≤ 2000000000 := Nat.le_trans (can_len ho (U := K) fun t ht => by
    obtain ⟨x, hx, rfl⟩ := List.mem_map.1 ((ho.keys t).2 ht)
    exact hoK x hx) hK
  refine uptoK (P := P) o.length (fun j m => Can (fun t => g0 t + oK b.2.toNat (o.take j) t) m) ?_ ?_ m0 (by simpa [oK] using h0)
  · intro j m k hj hm hk
    have hat : at? o (j : Int) = some o[j] := by rw [at_nat]; simp [hj]
    have hjm : o[j] ∈ o := List.getElem_mem hj
    obtain ⟨_, _, x1, x2⟩ := ho.many hjm
    have hmul : b.2 * o[j].2 = 1 ∨ b.2 * o[j].2 = 2 ∨ b.2 * o[j].2 = 4 := by
      have e1 : b.2 = 1 ∨ b.2 = 2 := by omega
      have e2 : o[j].2 = 1 ∨ o[j].2 = 2 := by omega
      rcases e1 with e1 | e1 <;> rcases e2 with e2 | e2 <;> rw [e1, e2] <;> simp
    have hn : ((b.2.toNat * o[j].2.toNat : Nat) : Int) = b.2 * o[j].2 := by
      rw [Int.natCast_mul, Int.toNat_of_nonneg (by omega), Int.toNat_of_nonneg (by omega)]
    have hsat : min 2 (b.2 * o[j].2) = sat (b.2.toNat * o[j].2.toNat) := by unfold sat; omega
    have hkeys : ∀ t, g0 t + oK b.2.toNat (o.take j) t ≠ 0 → t ∈ K := fun t ht => by
      by_cases h1 : g0 t = 0
      · have h2 : oK b.2.toNat (o.take j) t ≠ 0 := by omega
        rcases Classical.em (∃ x ∈ o.take j, x.1 = t) with ⟨x, hx, rfl⟩ | h3
        · exact hoK x (List.mem_of_mem_take hx)
        · exfalso
          apply h2
          unfold oK
          have : ∀ x ∈ o.take j, (if x.1 = t then b.2.toNat * x.2.toNat else 0) = 0 := fun x hx => if_neg fun e => h3 ⟨x, hx, e⟩
          rw [List.map_congr_left this, sum_nought]
      · exact hg t h1
    have hml : m.length ≤ 2000000000 := Nat.le_trans (can_len hm hkeys) hK
    have hbr : BrOk m := ⟨fun x hx => by have := hm.many hx; omega, fun x hx => hK1 _ (hkeys _ ((hm.keys x.1).1 (List.mem_map.2 ⟨x, hx, rfl⟩)))⟩
    have ha := ref14_Add_in hm.srt hbr hml (hK1 _ (hoK _ hjm)) (many := min 2 (b.2 * o[j].2)) (by omega)
    rw [hP]
    refine ⟨fun _ => ⟨_, hat, b, hy, _, hat, i64_of (by omega) (by omega), _, ha, i64_of (by omega) (by omega), hk _ ?_⟩, fun h => absurd (by omega) (df h)⟩
    rw [hsat]
    refine (hm.add o[j].1 (n := b.2.toNat * o[j].2.toNat) (by omega)).congr fun t => ?_
    rw [List.take_succ_eq_append_getElem hj, oK_snoc, Nat.add_assoc]
    by_cases h : t = o[j].1
    · rw [if_pos h, if_pos h.symm]
    · rw [if_neg h, if_neg fun e => h e.symm]
  · intro m hm k
    rw [hP]
    refine ⟨fun h => absurd (dt h) (by omega), fun _ => hX m ?_⟩
    rw [List.take_length] at hm; exact hm
theorem on_step {d : List SNode} {s : List SItem} (h : Sm d s) {c : Int} (hc : InR .u8 c) : ∃ o, next_On d s c o ∧ ref15_On d s c o ∧ Can (fun t => (stepL d c s).count t) o := by
  obtain ⟨B, R, _, b3, o1, o2, o3⟩ := on_both h hc
  exact ⟨R, o1, o2, o3.congr fun t => fB_step b3 c t⟩
theorem gK_keys {d : List SNode} {c : Int} {L : List (List SItem)} {l : List SBranch} (hl : Can (fun t => L.count t) l) {k : Nat} {t : List SItem} (h : gK (fun u t => (stepL d c u).count t) (l.take k) t ≠ 0) : t ∈ L.flatMap (stepL d c) := by
  rcases Classical.em (∃ b ∈ l.take k, t ∈ stepL d c b.1) with ⟨b, h1, h2⟩ | h3
  · have hb := List.mem_of_mem_take h1
    refine List.mem_flatMap.2 ⟨b.1, ?_, h2⟩
    have := (hl.many hb).2.1
    exact List.count_pos_iff.1 (by omega)
  · exfalso
    apply h
    unfold gK
    have : ∀ b ∈ l.take k, b.2.toNat * (stepL d c b.1).count t = 0 := fun b hb => by
      have : (stepL d c b.1).count t = 0 := List.count_eq_zero.2 fun e => h3 ⟨b, hb, e⟩
      rw [this, Nat.mul_zero]
    rw [List.map_congr_left this, sum_nought]
theorem eK_snoc (d : List SNode) (l : List SBranch) (b : SBranch) : eK d (l ++ [b]) = eK d l + b.2.toNat * (sat ((hds d b.1).count [])).toNat := by
  unfold eK
  rw [List.map_append, List.sum_append]
  simp
theorem eK_step (d : List SNode) (l : List SBranch) (b : SBranch) (hb : 1 ≤ b.2 ∧ b.2 ≤ 2) : min 2 (sat (eK d l) + b.2 * sat ((hds d b.1).count [])) = sat (eK d (l ++ [b])) ∧ 0 ≤ b.2 * sat ((hds d b.1).count []) ∧ b.2 * sat ((hds d b.1).count []) ≤ 4 := by
  rw [eK_snoc]
  have h0 : 0 ≤ sat ((hds d b.1).count []) ∧ sat ((hds d b.1).count []) ≤ 2 := by unfold sat; omega
  generalize sat ((hds d b.1).count []) = y at *
  have e1 : b.2 = 1 ∨ b.2 = 2 := by omega
  rcases e1 with e1 | e1
  · rw [e1]
    simp only [Int.one_mul, Int.toNat_one, Nat.one_mul]
    refine ⟨?_, by omega, by omega⟩
    unfold sat; omega
  · rw [e1]
    have e2 : (2 : Int).toNat = 2 := rfl
    rw [e2]
    refine ⟨?_, by omega, by omega⟩
    unfold sat; omega
theorem start_in {d : List SNode} (h : Rt d) (hl : d.length ≤ 1000) : law15_start d [(1, (d.length : Int) - 1, 0, 0)] := by
  have := List.length_pos_iff.2 h.ne
  exact ⟨i64_of (by omega) (by omega), rfl⟩
end Go.Proofs.YtdidjelkkanenaaDoor.V
namespace Go.Proofs.YtdidjelkkanenaaDoor.V
open Go
set_option linter.unusedVariables false
theorem noEnd_app {a b : List SItem} (h : NoEnd a) (k : NoEnd b) : NoEnd (a ++ b) := fun x hx => (List.mem_append.1 hx).elim (h x) (k x)
theorem pm_noend {d : List SNode} (hd : ROk d) : ∀ (k : Nat) (i : Int), i < (k : Int) → ∀ p ∈ pm d i, NoEnd p
  | 0, i, hi, p, hp => by
    have : at? d i = none := at_none (.inl (by omega))
    unfold pm at hp
    rw [PM_fuel hd d.length 0 i] at hp
    · simp [PM] at hp
    · omega
    · omega
  | k + 1, i, hi, p, hp => by
    have ih := pm_noend hd k
    cases hn : at? d i with
    | none =>
      exfalso
      unfold pm at hp
      cases hdl : d.length with
      | zero => rw [hdl] at hp; simp [PM] at hp
      | succ m => rw [hdl] at hp; simp [PM, hn] at hp
    | some n =>
      have one : ∀ x : SItem, x.1 ≠ 5 → NoEnd [x] := fun x h y hy => by rw [List.mem_singleton.1 hy]; exact h
      have e1 : pm d i = (PM d d.length i).1 := rfl
      rw [e1, PM_at hd hn] at hp
      by_cases h1 : n.1 = 1
      · rw [if_pos h1] at hp; cases hp
      · rw [if_neg h1] at hp
        by_cases h3 : n.1 = 3
        · rw [if_pos h3, List.mem_singleton] at hp
          subst hp; exact one _ (by simp)
        · rw [if_neg h3] at hp
          by_cases h4 : n.1 = 4
          · rw [if_pos h4] at hp
            obtain ⟨⟨a, b⟩, c, e⟩ := hd.two _ n hn (.inl h4)
            rcases List.mem_append.1 hp with hp | hp
            · obtain ⟨q, hq, rfl⟩ := List.mem_map.1 hp
              exact noEnd_app (ih _ (by omega) q hq) (one _ (by simp))
            · obtain ⟨L, hL, hp⟩ := List.mem_flatten.1 hp
              rw [(List.mem_replicate.1 hL).2] at hp
              exact ih _ (by omega) p hp
          · rw [if_neg h4] at hp
            by_cases h5 : n.1 = 5
            · rw [if_pos h5] at hp
              obtain ⟨⟨a, b⟩, c, e⟩ := hd.two _ n hn (.inr h5)
              rcases List.mem_append.1 hp with hp | hp
              · exact ih _ (by omega) p hp
              · exact ih _ (by omega) p hp
            · rw [if_neg h5] at hp
              by_cases h6 : n.1 = 6
              · rw [if_pos h6] at hp
                obtain ⟨a, b⟩ := hd.one _ n hn (.inl h6)
                obtain ⟨q, hq, rfl⟩ := List.mem_map.1 hp
                exact noEnd_app (ih _ (by omega) q hq) (one _ (by simp))
              · rw [if_neg h6] at hp
                by_cases h7 : n.1 = 7
                · rw [if_pos h7] at hp
                  obtain ⟨a, b⟩ := hd.one _ n hn (.inr (.inl h7))
                  simp only at hp
                  split at hp
                  · obtain ⟨q, hq, rfl⟩ := List.mem_map.1 hp
                    exact noEnd_app (ih _ (by omega) q hq) (one _ (by simp))
                  · cases hp
                · rw [if_neg h7, List.mem_singleton] at hp
                  subst hp; exact one _ (by simp)
def shJ (c : Int) (x : SItem) : SItem := if x.1 = 5 then x else shI c x
def shT (c : Int) (s : List SItem) : List SItem := s.map (shJ c)
theorem shT_app (c : Int) (a b : List SItem) : shT c (a ++ b) = shT c a ++ shT c b := List.map_append ..
theorem shT_noend {c : Int} {s : List SItem} (h : NoEnd s) : shS c s = shT c s := List.map_congr_left fun x hx => by unfold shJ; rw [if_neg (h x hx)]
section
variable {l l' : List SNode} {c : Int} (h : Emb l l' c) (hl : ROk l) (hl' : ROk l')
include h hl hl'
theorem pmI_emb {x : SItem} (hx : formI l x = true) : pmI l' (shJ c x) = (pmI l x).map (shT c) ∧ nwI l' (shJ c x) = nwI l x := by
  by_cases h5 : x.1 = 5
  · have e : shJ c x = x := by unfold shJ; rw [if_pos h5]
    rw [e]
    unfold pmI nwI
    simp [h5]
  · obtain ⟨n, hn, hk⟩ := form_node hx h5
    have e : shJ c x = shI c x := by unfold shJ; rw [if_neg h5]
    rw [e]
    have pmT : ∀ (i : Int) m, at? l i = some m → pm l' (i + c) = (pm l i).map (shT c) ∧ nw l' (i + c) = nw l i := fun i m hm => by
      obtain ⟨p1, p2⟩ := PM_emb h hl hl' (i.toNat + 1) i m (by have := at_bound hm; omega) hm
      refine ⟨?_, p2⟩
      rw [p1]
      exact List.map_congr_left fun p hp => shT_noend (pm_noend hl (i.toNat + 1) i (by have := at_bound hm; omega) p hp)
    rcases hk with h1 | ⟨h2, h7⟩ | ⟨h3, _⟩ | ⟨h4, _⟩
    · have := pmT _ n hn
      unfold pmI nwI
      have e1 : (shI c x).1 = 1 := h1
      rw [if_pos e1, if_pos h1, if_pos e1, if_pos h1]
      exact this
    · obtain ⟨m, hm, f1, f2, f3, f4, f5⟩ := h.get hn
      obtain ⟨a, b⟩ := hl.one _ n hn (.inr (.inl h7))
      obtain ⟨m1, hm1⟩ := at_lt hn a b
      obtain ⟨p1, _⟩ := pmT _ m1 hm1
      have e1 : (shI c x).1 = 2 := h2
      have A : pmI l' (shI c x) = if 0 < x.2.2.2 then (pm l' m.2.1).map (· ++ [(2, x.2.1 + c, max (x.2.2.1 - 1) 0, x.2.2.2 - 1)]) else [] := by
        unfold pmI
        rw [if_neg (by rw [e1]; decide), if_pos e1, show (shI c x).2.1 = x.2.1 + c from rfl, hm]
        rfl
      have B : pmI l x = if 0 < x.2.2.2 then (pm l n.2.1).map (· ++ [(2, x.2.1, max (x.2.2.1 - 1) 0, x.2.2.2 - 1)]) else [] := by
        unfold pmI
        rw [if_neg (by rw [h2]; decide), if_pos h2, hn]
      have C : nwI l' (shI c x) = nwI l x := by
        unfold nwI
        have k1 : ¬ (shI c x).1 = 1 := by rw [e1]; decide
        have k2 : ¬ x.1 = 1 := by rw [h2]; decide
        rw [if_neg k1, if_pos e1, if_neg k2, if_pos h2]
        rfl
      refine ⟨?_, C⟩
      rw [A, B]
      split
      · rw [f2 (by omega), p1, List.map_map, List.map_map]
        refine List.map_congr_left fun q _ => ?_
        simp only [Function.comp]
        rw [shT_app]
        rfl
      · rfl
    · unfold pmI nwI
      have e1 : (shI c x).1 = 3 := h3
      rw [if_neg (by omega), if_neg (by omega), if_neg (by omega), if_neg (by omega), if_neg (by omega), if_neg (by omega)]
      rw [if_neg (by omega), if_neg (by omega), if_neg (by omega), if_neg (by omega), if_neg (by omega), if_neg (by omega)]
      refine ⟨?_, rfl⟩
      simp [shT, e]
    · unfold pmI nwI
      have e1 : (shI c x).1 = 4 := h4
      rw [if_neg (by omega), if_neg (by omega), if_neg (by omega), if_neg (by omega), if_neg (by omega), if_neg (by omega)]
      rw [if_neg (by omega), if_neg (by omega), if_neg (by omega), if_neg (by omega), if_neg (by omega), if_neg (by omega)]
      refine ⟨?_, rfl⟩
      simp [shT, e]
theorem hds_emb : ∀ s : List SItem, formS l s = true → hds l' (shT c s) = (hds l s).map (shT c)
  | [], _ => rfl
  | x :: rest, hf => by
    obtain ⟨h1, h2⟩ := form_cons hf
    obtain ⟨p, q⟩ := pmI_emb h hl hl' h1
    have ih := hds_emb rest h2
    show (pmI l' (shJ c x)).map (· ++ shT c rest) ++ (List.replicate (nwI l' (shJ c x)) (hds l' (shT c rest))).flatten = ((pmI l x).map (· ++ rest) ++ (List.replicate (nwI l x) (hds l rest)).flatten).map (shT c)
    rw [p, q, ih, List.map_append, List.map_map, List.map_map, ← rep_map]
    congr 1
    refine List.map_congr_left fun t _ => ?_
    simp only [Function.comp]
    rw [shT_app]
omit h hl hl' in
theorem lowF_sh (c : Int) (s : List SItem) : lowF (shT c s) = (shT c (lowF s).1, (lowF s).2) := by
  have b : ∀ x : SItem, badI (shJ c x) = badI x := fun x => by
    unfold shJ
    split
    · rfl
    · rfl
  have l : ∀ x : SItem, low1 (shJ c x) = shJ c (low1 x) := fun x => by
    by_cases h5 : x.1 = 5
    · have e1 : low1 x = (x.1, x.2.1, x.2.2.1 - 1, x.2.2.2) := by unfold low1; rw [if_pos h5]
      have e2 : shJ c x = x := by unfold shJ; rw [if_pos h5]
      have e3 : shJ c (low1 x) = low1 x := by unfold shJ; rw [if_pos (by rw [e1]; exact h5)]
      rw [e2, e3]
    · have e1 : low1 x = x := by unfold low1; rw [if_neg h5]
      have e2 : shJ c x = shI c x := by unfold shJ; rw [if_neg h5]
      rw [e1, e2]
      unfold low1
      rw [if_neg (show ¬ (shI c x).1 = 5 from h5)]
  unfold lowF
  have e : (shT c s).any badI = s.any badI := by
    unfold shT
    rw [List.any_map]
    congr 1
    funext x
    exact b x
  rw [e]
  split
  · rfl
  · simp only [shT, List.map_map]
    congr 1
    exact List.map_congr_left fun x _ => l x
omit hl hl' in
theorem readF_emb {t : List SItem} (hf : formS l t = true) (hr : rdy l t = true) (b : Int) : readF l' (shT c t) b = (shT c (readF l t b).1, (readF l t b).2) := by
  cases t with
  | nil => rfl
  | cons x rest =>
    obtain ⟨n, hn, hm, hk⟩ := rdy_kind hf hr
    have h5 : x.1 ≠ 5 := by omega
    have e : shJ c x = shI c x := by unfold shJ; rw [if_neg h5]
    have es : shT c (x :: rest) = shI c x :: shT c rest := by show shJ c x :: _ = _; rw [e]; rfl
    have hm' := h.at' _ _ hn
    have n1 : (movN c n).1 = n.1 := rfl
    have nt : (movN c n).2.2.2.2.2 = n.2.2.2.2.2 := rfl
    have x1 : (shI c x).1 = x.1 := rfl
    have x2 : (shI c x).2.1 = x.2.1 + c := rfl
    have x3 : (shI c x).2.2 = x.2.2 := rfl
    have five : ∀ v : Int, shJ c (5, 0, v, 0) = (5, 0, v, 0) := fun v => rfl
    have a4 : 4 ≤ n.1 → (movN c n).2.1 = n.2.1 + c := fun h4 => by unfold movN; rw [if_pos h4]
    rw [es]
    unfold readF
    simp only [lowF_sh, x2, hm', hn, x1, n1, nt, x3]
    by_cases hl0 : (lowF rest).2 = false
    · rw [if_pos hl0, if_pos hl0]; rfl
    · rw [if_neg hl0, if_neg hl0]
      by_cases h3 : x.1 = 3
      · rw [if_pos h3, if_pos h3]
        split
        · split
          · rw [shT_app]; rfl
          · rw [shT_app]; rfl
        · rfl
      · rw [if_neg h3, if_neg h3]
        by_cases h4 : x.1 = 4
        · have h9 : n.1 = 9 := by omega
          rw [if_pos h4, if_pos h4, a4 (by omega), shT_app]; rfl
        · rw [if_neg h4, if_neg h4]
          by_cases h8 : n.1 = 8
          · rw [if_pos h8, if_pos h8, a4 (by omega), shT_app]; rfl
          · rw [if_neg h8, if_neg h8]
            by_cases h9 : n.1 = 9
            · rw [if_pos h9, if_pos h9, shT_app]; rfl
            · rw [if_neg h9, if_neg h9]
              split <;> rfl
theorem wyn_emb : ∀ (w : List Int) (s : List SItem), (∀ b ∈ w, InR .u8 b) → formS l s = true → wyn l' w (shT c s) = wyn l w s
  | [], s, _, hf => by
    show (hds l' (shT c s)).count [] = (hds l s).count []
    rw [hds_emb h hl hl' s hf, sumF_count, sumF_count, sumF_map]
    refine sumF_congr fun t _ => ?_
    cases t with
    | nil => rfl
    | cons x t => rfl
  | b :: w, s, hw, hf => by
    show sumF _ (hds l' (shT c s)) = sumF _ (hds l s)
    rw [hds_emb h hl hl' s hf, sumF_map]
    refine sumF_congr fun t ht => ?_
    obtain ⟨L, ⟨k, hk⟩, hp⟩ := hds_lv hl s hf
    obtain ⟨h3, h4⟩ := lv_vs hl (n0 := s.length) k s L hk (Vs.start hf (Nat.le_refl _)) t (hp.mem_iff.2 ht)
    rw [readF_emb h h3.form h4 b]
    cases hr : (readF l t b).2
    · rfl
    · simp only [if_true]
      exact wyn_emb w _ (fun e he => hw e (by simp [he])) (form_read hl h3.form h4 (hw b (by simp)))
theorem node_emb {i : Int} {n : SNode} (hn : at? l i = some n) {w : List Int} (hw : ∀ b ∈ w, InR .u8 b) : nodeW l' (i + c) w = nodeW l i w := by
  have := wyn_emb h hl hl' w [(1, i, 0, 0)] hw (form_mk (form_one ⟨n, hn⟩) rfl)
  exact this
end
end Go.Proofs.YtdidjelkkanenaaDoor.V
namespace Go.Proofs.YtdidjelkkanenaaDoor.V
open Go
set_option linter.unusedVariables false
theorem held_app {d : List SNode} (hd : ROk d) {A c : Int} (hc : 0 ≤ c) {w : List Int} {u : List SItem} (hu : u ∈ endsL d w [(1, A, 0, 0), (5, 0, c, 0)]) : ∃ u', u = u' ++ [(5, 0, c - w.length, 0)] := by
  cases w with
  | nil =>
    rw [endsL, List.mem_singleton] at hu
    exact ⟨[(1, A, 0, 0)], by rw [hu]; simp⟩
  | cons b w =>
    obtain ⟨u', _, h⟩ := ends_held hd hc (by simp) hu
    exact ⟨u', h⟩
theorem held_ends {d : List SNode} (hd : ROk d) {u : List SItem} {m : Int} (hm : m ≠ 0) : (hds d (u ++ [(5, 0, m, 0)])).count [] = 0 := by
  have := wyn_app hd [] u [(5, 0, m, 0)]
  have e : wyn d [] (u ++ [(5, 0, m, 0)]) = (hds d (u ++ [(5, 0, m, 0)])).count [] := rfl
  rw [← e, this]
  show wyn d [] u * wynO d [] (lows 0 [(5, 0, m, 0)]) = 0
  rw [show lows 0 [((5 : Int), (0 : Int), m, (0 : Int))] = some [(5, 0, m, 0)] from rfl, wynO_some, wyn_end, if_neg fun h => hm h.1, Nat.mul_zero]
theorem held_shut {d : List SNode} (hd : ROk d) {u : List SItem} {c : Int} : stepL d c (u ++ [(5, 0, 0, 0)]) = [] := by
  rw [List.eq_nil_iff_forall_not_mem]
  intro t ht
  rcases step_app hd ht with ⟨_, _, h, _⟩ | ⟨_, h⟩
  · simp [lowF, badI] at h
  · exact ends_stop (d := d) (m := 0) (b := [c]) (u := t) (by simp) (by rw [endsL]; exact List.mem_flatMap.2 ⟨t, h, by rw [endsL]; simp⟩)
theorem frame_step {d : List SNode} (hR : Rt d) (hf : Rt (wrapD 8 d)) (c : Int) : stepL (wrapD 8 d) c [(1, ((wrapD 8 d).length : Int) - 1, 0, 0)] = [[(1, (d.length : Int) - 1, 0, 0), (5, 0, c, 0)]] := by
  have hroot := wrap_root 8 d
  have e : ((wrapD 8 d).length : Int) - 1 = (d.length : Int) := by rw [wrap_len]; omega
  obtain ⟨e1, e2⟩ := pm_ready hf.toROk hroot (.inr (.inl rfl))
  have e3 : hds (wrapD 8 d) [(1, (d.length : Int), 0, 0)] = [[(1, (d.length : Int), 0, 0)]] := by rw [hds_st, e1, e2]; rfl
  have er : readF (wrapD 8 d) [(1, (d.length : Int), 0, 0)] c = ([(1, (d.length : Int) - 1, 0, 0), (5, 0, c, 0)], true) := by
    unfold readF
    simp only [hroot]
    rw [if_neg (by simp [lowF]), if_neg (by decide), if_neg (by decide), if_pos trivial]
    rfl
  rw [e]
  unfold stepL
  rw [e3]
  simp [er]
theorem law15_NextFrames_true {d : List SNode} {w : List Int} {more : Int} (ht : Txt d) (hw : ∀ c ∈ w, InR .u8 c) (hmore : InR .u8 more) : law15_NextFrames d w more true := by
  obtain ⟨r6, r8, h6, h6b, h8, h8b⟩ := guard15 ht
  refine ⟨true, awake15, r6, fun _ => h6, _, fun _ => ⟨_, rfl, rfl⟩, r8, fun h => h8 (by simp at h; exact h.1), fun _ => ⟨true, awake15, rfl⟩, fun hb => ?_⟩
  simp only [Bool.not_true, Bool.false_or, Bool.or_eq_false_iff, Bool.not_eq_false', Bool.and_eq_true, decide_eq_true_eq] at hb
  obtain ⟨⟨g1, g2, g3⟩, g4⟩ := hb
  have hR := h8b g1 g4
  have hdl : d.length ≤ 16 := by omega
  have hwl : w.length ≤ 8 := by omega
  have hpos := List.length_pos_iff.2 hR.ne
  have hF : Rt (wrapD 8 d) := wrap_rt hR (.inr (.inl rfl)) (fun h => by cases h)
  have hfl : (wrapD 8 d).length = d.length + 1 := wrap_len _ _
  have htF : ∀ n ∈ wrapD 8 d, n.2.2.2.2.2.2.length ≤ 140737488351232 := fun n hn => by
    unfold wrapD at hn
    rcases List.mem_append.1 hn with h | h
    · exact ht n h
    · rw [List.mem_singleton.1 h]; simp
  have hcl : InR .u8 (w.length : Int) := inR_u8.2 ⟨by omega, by omega⟩
  have hstep := frame_step hR hF (w.length : Int)
  have hends : ∀ v, endsL (wrapD 8 d) ((w.length : Int) :: v) [(1, ((wrapD 8 d).length : Int) - 1, 0, 0)] = endsL (wrapD 8 d) v [(1, (d.length : Int) - 1, 0, 0), (5, 0, (w.length : Int), 0)] := fun v => by
    show (stepL _ _ _).flatMap _ = _
    rw [hstep]; simp
  obtain ⟨o, o1, _, o3⟩ := on_step (after_sm hF (by omega) htF (w := []) (by simp) (by rw [endsL]; exact List.mem_singleton.2 rfl)).1 hcl
  rw [hstep] at o3
  have eo : o = [([(1, (d.length : Int) - 1, 0, 0), (5, 0, (w.length : Int), 0)], 1)] := o3.uniq (can_of (by simp) (by simp [sat]) (by simp))
  have emod : (w.length : Int) % 256 = (w.length : Int) := by omega
  refine ⟨_, Wrap_in hR.tr (by omega), _, start_in hF (by omega), o, by rw [emod]; exact o1, ?_⟩
  subst eo
  refine ⟨_, fun _ => rfl, _, fun _ => rfl, _, rfl, _, fun _ => rfl, _, fun _ => rfl, fun h => by simp at h, fun _ => ?_⟩
  have hwt : ∀ i, ∀ c ∈ w.take i, InR .u8 c := fun i c hc => hw c (List.mem_of_mem_take hc)
  have hwt2 : ∀ i, ∀ c ∈ (w.length : Int) :: w.take i, InR .u8 c := fun i c hc => (List.mem_cons.1 hc).elim (fun e => by rw [e]; exact hcl) (hwt i c)
  have hw0 : ∀ i, ∀ c ∈ (w.length : Int) :: w.take i, 0 ≤ c := fun i c hc => (inR_u8.1 (hwt2 i c hc)).1
  have hnext : ∀ i (hi : i < w.length), endsL (wrapD 8 d) (w.take (i + 1)) [(1, (d.length : Int) - 1, 0, 0), (5, 0, (w.length : Int), 0)] = (endsL (wrapD 8 d) (w.take i) [(1, (d.length : Int) - 1, 0, 0), (5, 0, (w.length : Int), 0)]).flatMap (stepL (wrapD 8 d) w[i]) := fun i hi => by
    rw [List.take_succ_eq_append_getElem hi, endsL_snoc]
  have hsm0 : ∀ i u, u ∈ endsL (wrapD 8 d) (w.take i) [(1, (d.length : Int) - 1, 0, 0), (5, 0, (w.length : Int), 0)] → Sm (wrapD 8 d) u ∧ u.length ≤ 24 := fun i u hu => by
    rw [← hends] at hu
    exact after_sm hF (by omega) htF (hwt2 i) hu
  have hcov : ∀ i, ∃ K : List (List SItem), K.length ≤ 2000000000 ∧ (∀ t ∈ K, t.length ≤ 1000) ∧ ∀ t ∈ endsL (wrapD 8 d) (w.take i) [(1, (d.length : Int) - 1, 0, 0), (5, 0, (w.length : Int), 0)], t ∈ K := fun i => by
    obtain ⟨K, k1, k2⟩ := after_cov hF (hw0 i)
    refine ⟨K.filter fun t => decide (t.length ≤ 1000), ?_, fun t ht => by simpa using (List.mem_filter.1 ht).2, fun t h => List.mem_filter.2 ⟨k2 t (by rw [hends]; exact h), ?_⟩⟩
    · refine Nat.le_trans (List.length_filter_le _ _) (Nat.le_trans k1 ?_)
      refine Nat.le_trans (Nat.le_trans (pas_mono (show (wrapD 8 d).length ≤ 17 by omega) _) (pas_long 17 (show ((w.length : Int) :: w.take i).length ≤ 9 by simp; omega))) ?_
      exact pas_le (by decide)
    · have := (hsm0 i t h).2
      simp; omega
  have hheld : ∀ i, i ≤ w.length → ∀ u, u ∈ endsL (wrapD 8 d) (w.take i) [(1, (d.length : Int) - 1, 0, 0), (5, 0, (w.length : Int), 0)] → ∃ u', u = u' ++ [(5, 0, (w.length : Int) - i, 0)] := fun i hi u hu => by
    have := held_app hF.toROk (by omega) hu
    rwa [List.length_take, Nat.min_eq_left hi] at this
  refine uptoK (P := fun k l v => law15_NextFrames.l2 w (wrapD 8 d) true _ k l v) w.length (fun i l => Can (fun t => (endsL (wrapD 8 d) (w.take i) [(1, (d.length : Int) - 1, 0, 0), (5, 0, (w.length : Int), 0)]).count t) l) ?_ ?_ _ ?_
  · intro i l k hi hl hk
    have hat : at? w (i : Int) = some w[i] := by rw [at_nat]; simp [hi]
    have hci := hw w[i] (List.getElem_mem hi)
    obtain ⟨K, k1, k2, k3⟩ := hcov (i + 1)
    rw [hnext i hi] at k3
    refine ⟨fun _ => ?_, fun h => absurd (by omega) (df h)⟩
    have hsm : ∀ b ∈ l, Sm (wrapD 8 d) b.1 := fun b hb => (hsm0 i b.1 (List.count_pos_iff.1 (by have := (hl.many hb).2.1; omega))).1
    have hll : l.length ≤ 2000000000 := by
      obtain ⟨K', j1, _, j3⟩ := hcov i
      exact Nat.le_trans (can_len hl (U := K') fun t h => j3 t (List.count_pos_iff.1 (by omega))) j1
    refine uptoK (P := fun k m v => law15_NextFrames.l3 w (wrapD 8 d) l (i : Int) true _ k m v) l.length (fun j m => Can (gK (fun u t => (stepL (wrapD 8 d) w[i] u).count t) (l.take j)) m) ?_ ?_ [] (Can.nil.congr fun t => by simp [gK])
    · intro j m k' hj hm hk'
      have hatl : at? l (j : Int) = some l[j] := by rw [at_nat]; simp [hj]
      obtain ⟨o, o1, _, o3⟩ := on_step (hsm _ (List.getElem_mem hj)) hci
      have hlm := hl.many (List.getElem_mem hj)
      have hmem : l[j].1 ∈ endsL (wrapD 8 d) (w.take i) [(1, (d.length : Int) - 1, 0, 0), (5, 0, (w.length : Int), 0)] := List.count_pos_iff.1 (by omega)
      have he := (ends_both (hsm _ (List.getElem_mem hj))).1
      obtain ⟨u', hu'⟩ := hheld i (by omega) _ hmem
      have e0 : sat ((hds (wrapD 8 d) l[j].1).count []) = 0 := by
        rw [hu', held_ends hF.toROk (by omega)]; rfl
      rw [e0] at he
      refine ⟨fun _ => ⟨_, hatl, _, he, (fun h => by simp at h), fun _ => ⟨_, hatl, _, hat, o, o1, ?_⟩⟩, fun h => absurd (by omega) (df h)⟩
      refine add_loop (P := fun k m v => law15_NextFrames.l4 l (j : Int) o _ k m v) (y := fun e => at? l (j : Int) = some e) hatl ⟨hlm.2.2.1, hlm.2.2.2⟩ (fun _ _ _ => rfl) k1 k2 o3 (fun x hx => ?_) (fun t h => k3 t (gK_keys hl h)) hm fun m' hm' => ?_
      · have := (o3.many hx).2.1
        exact k3 _ (List.mem_flatMap.2 ⟨_, hmem, List.count_pos_iff.1 (by omega)⟩)
      · refine ⟨i64_of (by omega) (by omega), hk' m' ?_⟩
        rw [List.take_succ_eq_append_getElem hj]
        exact gK_next (g := fun u t => (stepL (wrapD 8 d) w[i] u).count t) o3 hm'
    · intro m hm k'
      refine ⟨fun h => absurd (dt h) (by omega), fun _ => ⟨i64_of (by omega) (by omega), hk m ?_⟩⟩
      rw [List.take_length] at hm
      rw [hnext i hi]
      exact gK_byte hl hm
  · intro l hl k
    refine ⟨fun h => absurd (dt h) (by omega), fun _ => ?_⟩
    have hl0 := hl
    rw [List.take_length] at hl
    have hmem : ∀ b ∈ l, b.1 ∈ endsL (wrapD 8 d) (w.take w.length) [(1, (d.length : Int) - 1, 0, 0), (5, 0, (w.length : Int), 0)] := fun b hb => List.count_pos_iff.1 (by have := (hl0.many hb).2.1; omega)
    have hsm : ∀ b ∈ l, Sm (wrapD 8 d) b.1 := fun b hb => (hsm0 _ b.1 (hmem b hb)).1
    have hll : l.length ≤ 2000000000 := by
      obtain ⟨K', j1, _, j3⟩ := hcov w.length
      exact Nat.le_trans (can_len hl0 (U := K') fun t h => j3 t (List.count_pos_iff.1 (by omega))) j1
    refine upto (P := fun k e v => law15_NextFrames.l1 more (wrapD 8 d) l true _ k e v) l.length (fun j e => e = sat (eK (wrapD 8 d) (l.take j))) ?_ ?_ 0 (by rw [List.take_zero]; rfl)
    · rintro j e hj rfl
      have hatl : at? l (j : Int) = some l[j] := by rw [at_nat]; simp [hj]
      have hlm := hl.many (List.getElem_mem hj)
      have he := (ends_both (hsm _ (List.getElem_mem hj))).1
      obtain ⟨q, q1, _, q3⟩ := on_step (hsm _ (List.getElem_mem hj)) hmore
      obtain ⟨u', hu'⟩ := hheld w.length (Nat.le_refl _) _ (hmem _ (List.getElem_mem hj))
      have eq : q = [] := by
        rw [hu', Int.sub_self, held_shut hF.toROk] at q3
        exact q3.uniq (Can.nil.congr fun t => by simp)
      subst eq
      obtain ⟨s1, s2, s3⟩ := eK_step (wrapD 8 d) (l.take j) l[j] ⟨hlm.2.2.1, hlm.2.2.2⟩
      refine .inr ⟨_, rfl, fun k hk => ⟨fun _ => ⟨_, hatl, _, hatl, _, he, i64_of (by omega) (by omega), ?_, _, hatl, _, q1, (fun h => by simp at h), fun _ => ⟨i64_of (by omega) (by omega), ?_⟩⟩, fun h => absurd (by omega) (df h)⟩⟩
      · have : 0 ≤ sat (eK (wrapD 8 d) (l.take j)) ∧ sat (eK (wrapD 8 d) (l.take j)) ≤ 2 := by unfold sat; omega
        exact i64_of (by omega) (by omega)
      · rw [s1, ← List.take_succ_eq_append_getElem hj]; exact hk
    · rintro e rfl k
      refine ⟨fun h => absurd (dt h) (by omega), fun _ => ⟨_, ref12_Ways_in hR (by omega) ht (by omega) hw, ?_⟩⟩
      obtain ⟨n, hn, _⟩ := at_in (xs := d) (i := (d.length : Int) - 1) (by omega) (by omega)
      have em := node_emb (emb_left [((8 : Int), (d.length : Int) - 1, (0 : Int), (0 : Int), (0 : Int), (0#256), ([] : Str))]) hR.toROk hF.toROk hn hw
      rw [Int.add_zero] at em
      rw [List.take_length, eK_all hl, ← wyn_ends, wyn_held hF.toROk _ (by omega), if_pos rfl]
      show true = (sat (nodeW (wrapD 8 d) ((d.length : Int) - 1) w) == sat (nodeW d ((d.length : Int) - 1) w))
      rw [show nodeW (wrapD 8 d) ((d.length : Int) - 1) w = nodeW d ((d.length : Int) - 1) w from em]
      simp
  · rw [List.take_zero]
    exact can_of (by simp [endsL]) (by simp [endsL, sat]) (by simp [endsL])
end Go.Proofs.YtdidjelkkanenaaDoor.V
namespace Go.Proofs.YtdidjelkkanenaaDoor.V
open Go Go.ChangeShapes Go.WideShapes Go.RowKit
set_option linter.unusedVariables false
structure Rd (P : Program) (t : TypeId) {α : Type} (E : En α) (G : α → Prop) : Prop where
  sz : P.cellsOf t = E.sz
  rd : ∀ {H : Type} (enc : TypeId × Value → H) (w : World) (fuel : Nat) (cs : List Value) (x : DataW H × List MemPlace),
    DataW.trod enc P w 0 (fun _ => true) true fuel t cs = some x → (∀ n ∈ x.1.weights P t, n ≤ reachBytes) → ∃ y, E.R w (fun b => b < w.heap.size) cs y ∧ G y
  vl : ∀ (w : World) (v : Value), Value.okWide P w .any 0 t v → (∃ y, E.R w (fun b => b < w.heap.size) v.cells.toList y) → v = E.val v.cells.toList
theorem Rd.int {P : Program} {t : TypeId} {k : IntKind} (ht : P.underlying t = some (.int k)) (hc : P.cellsOf t = 1) : Rd P t (En.int k) (InR k) := by
  refine ⟨hc, ?_, ?_⟩
  · intro H enc w fuel cs x h _
    obtain ⟨n, rfl, _, hw⟩ := DataW.trod_int ht h
    have : InR k n := by simpa [Lit.wf, InR] using hw
    exact ⟨n, ⟨rfl, this⟩, this⟩
  · intro w v hv _
    obtain ⟨n, rfl⟩ := okWide_int ht hv
    rfl
theorem Rd.str {P : Program} {t : TypeId} (ht : P.underlying t = some .string) (hc : P.cellsOf t = 1) : Rd P t En.str (fun y => y.length ≤ 140737488351232) := by
  refine ⟨hc, ?_, ?_⟩
  · intro H enc w fuel cs x h hwt
    obtain ⟨s, rfl, hx, hs⟩ := DataW.trod_string ht h
    have hl : s.data.toList.length ≤ 9223372036854775807 := by simpa [maxLen] using hs
    have h2 : s.data.toList.length ≤ 140737488351232 := hwt _ (by rw [hx]; simp [DataW.weights])
    exact ⟨s.data.toList, ⟨rfl, hl⟩, h2⟩
  · intro w v hv _
    simp only [Value.okWide, ht, Cell.okWide, Cell.ok] at hv
    cases v <;> simp at hv
    rfl
theorem weights_all {H : Type} {P : Program} {e : TypeId} : ∀ {l : List (DataW H)} {d : DataW H}, d ∈ l → ∀ n ∈ d.weights P e, n ∈ DataW.weightsAll P e l
  | [], _, h, _, _ => by cases h
  | d' :: l, d, h, n, hn => by
    simp only [DataW.weightsAll, List.mem_append]
    rcases List.mem_cons.1 h with rfl | h
    · exact .inl hn
    · exact .inr (weights_all h n hn)
theorem Rd.slice {P : Program} {t e : TypeId} {α : Type} {E : En α} {G : α → Prop} (ht : P.underlying t = some (.slice e)) (hc : P.cellsOf t = 1) (hby : Nat.blt 0 (P.bytesOf e) = true) (he : Rd P e E G) :
    Rd P t (En.slice E) (fun xs => xs.length ≤ 140737488351232 ∧ ∀ y ∈ xs, G y) := by
  refine ⟨hc, ?_, ?_⟩
  · intro H enc w fuel cs x h hwt
    rcases Deep.open_slice ht h with ⟨rfl, _⟩ | ⟨a, len, cap, m, n, D, Pl, rfl, hb, hl, hm, hmm, hxe, hx⟩
    · exact ⟨[], ⟨_, rfl, slV_nil E _ _⟩, Nat.zero_le _, by simp⟩
    · simp only [if_true] at hmm
      subst hmm
      have hall : ∀ i, i < len → ∃ p : α × List Value, w.cells? 0 (a.add (i * P.cellsOf e)) (P.cellsOf e) = some p.2 ∧ E.R w (fun b => b < w.heap.size) p.2 p.1 ∧ G p.1 := fun i hi => by
        obtain ⟨cs', h1, h2⟩ := hx i (by omega)
        obtain ⟨y, h3, h4⟩ := he.rd enc w n cs' _ h2 fun q hq => hwt q (by
          rw [hxe]
          simp only [DataW.weights, ht, List.mem_cons, List.mem_append]
          exact .inr (.inl (weights_all (List.mem_map.2 ⟨i, by simpa using hi, rfl⟩) q hq)))
        exact ⟨(y, cs'), h1, h3, h4⟩
      have hmax2 : len ≤ 140737488351232 := by
        have h1 := hwt ((len + (m - len)) * P.bytesOf e) (by rw [hxe]; simp [DataW.weights, ht])
        have h2 : 0 < P.bytesOf e := Nat.le_of_ble_eq_true hby
        have h3 : (len + (m - len)) * 1 ≤ (len + (m - len)) * P.bytesOf e := Nat.mul_le_mul_left _ h2
        have h4 : reachBytes = 140737488351232 := rfl
        omega
      have hmax : len ≤ lim := by have : maxLen ≤ lim := by decide
                                  omega
      by_cases h0 : len = 0
      · subst h0
        exact ⟨[], ⟨_, rfl, some a, m, rfl, Nat.zero_le _, (fun h => by cases h), Nat.zero_le _, fun h => absurd rfl h⟩, Nat.zero_le _, by simp⟩
      have hinh : Inhabited (α × List Value) := ⟨(hall 0 (by omega)).choose⟩
      obtain ⟨f, hf⟩ := Deep.choose_lt hall
      have hsz := E.pos
      rw [← he.sz] at hsz
      obtain ⟨hcell0, hblk⟩ : a.spot = none ∧ a.block < w.heap.size := by
        obtain ⟨_, hl2, hcl⟩ := World.cells?_some (hf 0 (by omega)).1
        have h2 := hcl 0 hsz
        rw [List.getElem?_eq_getElem (by omega)] at h2
        simp only [Nat.zero_mul, Addr.add, if_true, World.cell?] at h2
        cases hb2 : w.heap[a.block]? with
        | none => simp [hb2] at h2
        | some o =>
          refine ⟨?_, (Array.getElem?_eq_some_iff.1 hb2).1⟩
          cases o <;> simp [hb2] at h2
          exact h2.1
      refine ⟨(List.range len).map (fun i => (f i).1), ⟨_, rfl, some a, m, ?_, by simpa using hl, (fun h => by cases h), by simpa using hmax, fun _ => ⟨a.block, a.off, (List.range len).map (fun i => (f i).2), ?_, hblk, ⟨by simp, ?_⟩, ?_⟩⟩, by simpa using hmax2, ?_⟩
      · simp
      · cases a; simp at hcell0; subst hcell0; rfl
      · intro i c y hc1 hy1
        have hi : i < len := by have := (List.getElem?_eq_some_iff.1 hc1).1; simpa using this
        simp [hi] at hc1 hy1
        subst hc1; subst hy1
        exact (hf i hi).2.1
      · have hlens : ∀ c ∈ (List.range len).map (fun i => (f i).2), c.length = E.sz := by
          intro c hc
          simp only [List.mem_map, List.mem_range] at hc
          obtain ⟨i, hi, rfl⟩ := hc
          rw [(World.cells?_some (hf i hi).1).2.1, he.sz]
        intro j u hj
        have hjl : j < len * E.sz := by
          have := (List.getElem?_eq_some_iff.1 hj).1
          rw [flat_len hlens] at this; simpa using this
        have hp : 0 < E.sz := E.pos
        have hi : j / E.sz < len := Nat.div_lt_of_lt_mul (by rw [Nat.mul_comm]; exact hjl)
        have hk : j % E.sz < E.sz := Nat.mod_lt _ hp
        obtain ⟨_, hl2, hcl⟩ := World.cells?_some (hf _ hi).1
        have hcell := hcl (j % E.sz) (by rw [he.sz]; exact hk)
        rw [he.sz] at hl2
        have hg := flat_get hlens (i := j / E.sz) (cs := (f (j / E.sz)).2) (j := j % E.sz) (u := (f (j / E.sz)).2[j % E.sz]'(by omega)) (by simp [hi]) (by simp)
        rw [Nat.mul_comm, Nat.div_add_mod] at hg
        rw [hg] at hj
        rw [List.getElem?_eq_getElem (by omega), hj, Deep.add_add, he.sz, Nat.mul_comm, Nat.div_add_mod] at hcell
        rw [← hcell]
        cases a; simp at hcell0; subst hcell0; rw [add_lit]
      · intro y hy
        simp only [List.mem_map, List.mem_range] at hy
        obtain ⟨i, hi, rfl⟩ := hy
        exact (hf i hi).2.2
  · intro w v hv _
    simp only [Value.okWide, ht, Cell.okWide, Cell.ok] at hv
    cases v <;> simp at hv
    rfl
theorem u64_word {n : Int} (h : InR .u64 n) : ∃ m : Nat, m < 2 ^ 64 ∧ n = m := by
  simp [InR, IntKind.min, IntKind.max, IntKind.signed, IntKind.bits] at h
  exact ⟨n.toNat, by omega, by omega⟩
theorem Rd.cls {P : Program} {t e : TypeId} (ht : P.underlying t = some (.array 4 e)) (hc : P.cellsOf t = 4) (he : P.underlying e = some (.int .u64)) (hce : P.cellsOf e = 1) : Rd P t En.cls (fun _ => True) := by
  refine ⟨hc, ?_, ?_⟩
  · intro H enc w fuel cs x h _
    obtain ⟨xs, m, rfl, rfl, hlen, hn, hx⟩ := DataW.trod_array ht h
    rw [hc] at hlen
    match cs, hlen with
    | [u0, u1, u2, u3], _ =>
      have hx' : ∀ i (hi : i < 4) u, [u0, u1, u2, u3][i]? = some u → ∃ q : Nat, q < 2 ^ 64 ∧ u = .int .u64 q := by
        intro i hi u hu
        have h1 := hx i hi
        rw [hce, Nat.mul_one, List.getElem?_eq_getElem (by omega)] at h1
        have h2 : List.take 1 (List.drop i [u0, u1, u2, u3]) = [u] := by
          match i, hi with
          | 0, _ | 1, _ | 2, _ | 3, _ => simp at hu; subst hu; rfl
        rw [h2] at h1
        obtain ⟨n, h3, _, h4⟩ := DataW.trod_int he h1
        obtain ⟨q, hq, rfl⟩ := u64_word (n := n) (by simpa [Lit.wf, InR] using h4)
        simp at h3
        exact ⟨q, hq, h3⟩
      obtain ⟨q0, h0, rfl⟩ := hx' 0 (by omega) u0 rfl
      obtain ⟨q1, h1, rfl⟩ := hx' 1 (by omega) u1 rfl
      obtain ⟨q2, h2, rfl⟩ := hx' 2 (by omega) u2 rfl
      obtain ⟨q3, h3, rfl⟩ := hx' 3 (by omega) u3 rfl
      refine ⟨Cl.ofWords q0 q1 q2 q3, ?_, trivial⟩
      obtain ⟨e0, e1, e2, e3⟩ := Cl.ofWords_word h0 h1 h2 h3
      show _ = clsCells _
      unfold clsCells
      rw [e0, e1, e2, e3]
  · intro w v hv _
    simp only [Value.okWide, ht] at hv
    obtain ⟨cs, rfl, _⟩ := hv
    simp [En.val, En.cls, Value.cells]
structure RdF (P : Program) (fs : List Field) (o : Nat) {α : Type} (E : En α) (G : α → Prop) : Prop where
  rd : ∀ {H : Type} (enc : TypeId × Value → H) (w : World) (fuel : Nat) (cs : List Value) (xs : List (DataW H × List MemPlace)), xs.length = fs.length →
    (∀ (i : Nat) (f : Field), fs[i]? = some f → DataW.trod enc P w 0 (fun _ => true) true fuel f.type ((cs.drop f.offset).take (P.cellsOf f.type)) = xs[i]?) →
    (∀ n ∈ DataW.weightsEach P (fs.map (·.type)) (xs.map (·.1)), n ≤ reachBytes) → ∃ y, E.R w (fun b => b < w.heap.size) ((cs.drop o).take E.sz) y ∧ G y
theorem RdF.last {P : Program} {f : Field} {o : Nat} {α : Type} {E : En α} {G : α → Prop} (h : Rd P f.type E G) (ho : f.offset = o) : RdF P [f] o E G := ⟨by
  intro H enc w fuel cs xs hl hx hw
  obtain ⟨x, rfl⟩ : ∃ x, xs = [x] := List.length_eq_one_iff.1 hl
  have h1 := hx 0 f rfl
  rw [ho, h.sz] at h1
  exact h.rd enc w fuel _ x h1 fun n hn => hw n (by simp [DataW.weightsEach, hn])⟩
theorem RdF.solo {P : Program} {fs : List Field} {o : Nat} {α : Type} {E : En α} {G : α → Prop} (h : RdF P fs o E G) : RdF P fs o E.solo G := ⟨h.rd⟩
theorem take_add_split {xs : List Value} {o m n : Nat} : (xs.drop o).take (m + n) = (xs.drop o).take m ++ (xs.drop (o + m)).take n := by
  rw [List.take_add, List.drop_drop]
theorem RdF.cons {P : Program} {f : Field} {fs : List Field} {o : Nat} {α β : Type} {E : En α} {F : En β} {G : α → Prop} {K : β → Prop} (h : Rd P f.type E G) (ho : f.offset = o) (hr : RdF P fs (o + E.sz) F K) : RdF P (f :: fs) o (E.cat F) (fun x => G x.1 ∧ K x.2) := ⟨by
  intro H enc w fuel cs xs hl hx hw
  obtain ⟨x, xs', rfl⟩ : ∃ x xs', xs = x :: xs' := by
    cases xs with
    | nil => simp at hl
    | cons x xs' => exact ⟨x, xs', rfl⟩
  have h1 := hx 0 f rfl
  rw [ho, h.sz] at h1
  obtain ⟨y, hy1, hy2⟩ := h.rd enc w fuel _ x h1 fun n hn => hw n (by simp [DataW.weightsEach, hn])
  obtain ⟨z, hz1, hz2⟩ := hr.rd enc w fuel cs xs' (by simpa using hl) (fun i g hg => by have := hx (i + 1) g (by simpa using hg); simpa using this) fun n hn => hw n (by
    simp only [List.map_cons, DataW.weightsEach, List.mem_append]; exact .inr hn)
  exact ⟨(y, z), ⟨_, _, take_add_split, hy1, hz1⟩, hy2, hz2⟩⟩
theorem Rd.struct {P : Program} {t : TypeId} {fs : Array Field} {α : Type} {E : En α} {G : α → Prop} (ht : P.underlying t = some (.struct fs)) (ha : E.agg = true) (hc : P.cellsOf t = E.sz) (h : RdF P fs.toList 0 E G) : Rd P t E G := by
  refine ⟨hc, ?_, ?_⟩
  · intro H enc w fuel cs x hx hw
    obtain ⟨xs, n, rfl, rfl, hlen, hxl, hf⟩ := DataW.trod_struct ht hx
    obtain ⟨y, hy1, hy2⟩ := h.rd enc w n cs xs (by simpa using hxl) (fun i f hi => hf i f (by simpa using hi)) fun q hq => hw q (by
      simp only [DataW.weights, ht]; exact hq)
    rw [List.drop_zero, List.take_of_length_le (by rw [hlen, hc]; exact Nat.le_refl _)] at hy1
    exact ⟨y, hy1, hy2⟩
  · intro w v hv _
    obtain ⟨cs, rfl, _⟩ := okWide_struct ht hv
    unfold En.val
    rw [ha]
    simp [Value.cells]
theorem Rd.open {P : Program} {t : TypeId} {α : Type} {E : En α} {G : α → Prop} (hr : Rd P t E G) {H : Type} {enc : TypeId × Value → H} {W : World} {v : Value} {d : DataW H} {p : List MemPlace}
    (hv : Value.okWide P W .any 0 t v) (hd : DataW.Trod enc P W 0 (fun _ => true) true t v d p) (hw : ∀ n ∈ d.weights P t, n ≤ reachBytes) : ∃ y, (Pd.rep E y).p ⟨W, fun _ => False, fun _ h => h.elim⟩ v ∧ G y := by
  obtain ⟨fuel, h⟩ := hd
  obtain ⟨y, hy, hg⟩ := hr.rd enc W fuel _ _ h hw
  refine ⟨y, ⟨v.cells.toList, hr.vl W v hv ⟨y, hy⟩, ?_⟩, hg⟩
  exact E.mono (fun b hb => ⟨hb, fun h => h⟩) hy
theorem Ex.below {s s' : St} (h : Ex s s') : Below s.w.heap.size s.w s'.w := ⟨h.mv.os, h.mv.tape, h.mv.output, h.mv.size, fun k hk => h.mv.blk k hk (fun h => h)⟩
theorem okWide_any {P : Program} {W : World} {b : Nat} {t : TypeId} {v : Value} (h : Value.okWide P W .any b t v) : Value.okWide P W .any 0 t v := by
  unfold Value.okWide Row.okWide Cell.okWide Cell.ok World.has at *
  exact h
section
variable {H : Type} {enc : TypeId × Value → H} {P : Program}
theorem stays {W W' : World} (hl : laidOutB P = true) (hb : Below W.heap.size W W') {sp : Nat → Bool} : ∀ {ts : List TypeId} {vs : List Value} {ds : List (DataW H)} {ps : List MemPlace},
    (ts.all fun t => P.readableRec t && decide (t < P.types.size)) = true → DataW.TrodAll enc P W 0 (fun _ => true) true ts vs ds ps → (∀ p ∈ ps, p.block < W.heap.size) → (∀ p ∈ ps, sp p.block = true) →
    DataW.TrodAll enc P W' 0 sp true ts vs ds ps
  | [], vs, ds, ps, _, h, _, _ => by
    obtain ⟨rfl, rfl, rfl⟩ := trodAll_nil h
    exact trodAll_mk0
  | t :: ts, vs, ds, ps, ha, h, hlt, hsp => by
    obtain ⟨v, vs', d, ds', p, q, rfl, rfl, rfl, h1, h2⟩ := trodAll_cons h
    simp only [List.all_cons, Bool.and_eq_true, decide_eq_true_eq] at ha
    refine trodAll_cons_mk (WideElems.Trod_stays hl ha.1.1 ha.1.2 h1 (fun x hx => hb.same (hlt x (List.mem_append_left _ hx))) fun x hx => hsp x (List.mem_append_left _ hx)) ?_
    exact stays hl hb (by simpa using ha.2) h2 (fun x hx => hlt x (List.mem_append_right _ hx)) fun x hx => hsp x (List.mem_append_right _ hx)
theorem post_law {f : Func} {s : ChangeSpec} {apart fresh handsOn again : Bool} {W W' : World} {args : Array Value} {v : Value} {ds gs : List (DataW H)} {before : List MemPlace} {tb : TypeId}
    (hW : DataW.Whole enc P f.params.toList s.vars apart W args.toList ds gs before) (hb : Below W.heap.size W W') (hl : laidOutB P = true)
    (hrd : (f.params.toList.all fun t => P.readableRec t && decide (t < P.types.size)) = true) (hs : s.vars = []) (hrt : f.resultTypes = #[tb]) (hub : P.underlying tb = some .bool) (hv : v = .bool true)
    (hres : (s.fn H (ds ++ gs)).results = [.lit (.bool true)]) (hargs : (s.fn H (ds ++ gs)).args = ds) (hvars : (s.fn H (ds ++ gs)).vars = []) : s.post enc P f apart fresh handsOn again W args v W' := by
  subst hv
  have hlt := hW.lt
  have hW' := hW
  obtain ⟨p, q, hA, hV, rfl, hz, hn⟩ := hW
  rw [hs] at hV
  obtain ⟨rfl, rfl⟩ := trodVars_none hV
  have hsub : ∀ x ∈ p, x ∈ p ++ ([] : List MemPlace) := fun x hx => by simpa using hx
  have harg : ∀ sp : Nat → Bool, (∀ x ∈ p ++ ([] : List MemPlace), sp x.block = true) → DataW.TrodAll enc P W' 0 sp true f.params.toList args.toList (s.fn H (ds ++ [])).args p := fun sp hsp => by
    rw [hargs]
    exact stays hl hb hrd hA (fun x hx => hlt x (hsub x hx)) fun x hx => hsp x (hsub x hx)
  have hvar : ∀ sp : Nat → Bool, DataW.TrodVars enc P W' sp s.vars (s.fn H (ds ++ [])).vars [] := fun sp => by rw [hs, hvars]; exact rfl
  have hr : ∀ (b : Nat) (sp : Nat → Bool) (hd : Bool), DataW.TrodAll enc P W' b sp hd f.resultTypes.toList ((Value.bool true).resultList f.resultTypes.size) (s.fn H (ds ++ [])).results [] := fun b sp hd => by
    rw [hres, hrt]
    exact trodAll_cons_mk (shut_bool hub _) trodAll_mk0
  have hold : ∀ x ∈ p ++ ([] : List MemPlace), (fun b => decide (b < W.heap.size)) x.block = true := fun x hx => by simpa using hlt x hx
  refine ⟨ds, [], p ++ [], [], p, [], hW', hr _ _ _, harg _ hold, hvar _, World.keptBut_mono (fun x hx => ⟨hx, ?_⟩) (hb.frame (· ∈ p ++ [])), fun _ => ?_⟩
  · simpa using hx
  · refine ⟨ok_one hrt rfl (okWide_bool_mk hub _), _, _, ([] ++ p) ++ [], ⟨[] ++ p, [], trodAll_append (harg _ (fun _ _ => rfl)) (hr _ _ _), hvar _, rfl, ?_, ?_⟩, ?_⟩
    · intro b off hp
      have hp' : MemPlace.cell b off ∈ p ++ ([] : List MemPlace) := by simpa using hp
      rw [hb.frozen (p := ⟨b, off, none⟩) (hlt _ hp')]
      exact hz b off hp'
    · intro ha
      simpa using hn ha
    · intro x hx _
      simpa using hx
end
end Go.Proofs.YtdidjelkkanenaaDoor.V
namespace Go.Proofs.YtdidjelkkanenaaDoor.V
open Go Go.ChangeShapes Go.WideShapes Go.RowKit
set_option linter.unusedVariables false
def lst4 : List (String × DataW Unit) := [("math/bits.deBruijn32tab", Rows.laid_math_bits_deBruijn32tab), ("math/bits.deBruijn64tab", Rows.laid_math_bits_deBruijn64tab), ("internal/strconv.uint64pow10", Rows.laid_internal_strconv_uint64pow10), ("scantling/heads.readies", Rows.laid_scantling_heads_readies)]
def lst : List (String × DataW Unit) := [("math/bits.deBruijn32tab", Rows.laid_math_bits_deBruijn32tab), ("math/bits.deBruijn64tab", Rows.laid_math_bits_deBruijn64tab), ("internal/strconv.uint64pow10", Rows.laid_internal_strconv_uint64pow10), ("scantling/heads.readies", Rows.laid_scantling_heads_readies), ("scantling/next.steps", Rows.laid_scantling_next_steps)]
theorem cells_of_bools {H : Type} {enc : TypeId × Value → H} {P : Program} {w : World} {base : Nat} {sp : Nat → Bool} {held : Bool} {fuel : Nat} {t e : TypeId} {n : Nat} {cs : List Value} {bs : List Bool} {p : List MemPlace}
    (ht : P.underlying t = some (.array n e)) (he : P.underlying e = some .bool) (hce : P.cellsOf e = 1) (hct : P.cellsOf t = n)
    (h : DataW.trod enc P w base sp held fuel t cs = some (.agg (bs.map fun b => .lit (.bool b)), p)) : cs = bs.map Value.bool := by
  obtain ⟨xs, m, rfl, hx, hl, hn, hf⟩ := DataW.trod_array ht h
  have hx1 := congrArg Prod.fst hx
  simp only [DataW.agg.injEq] at hx1
  have hbl : bs.length = n := by
    have := congrArg List.length hx1
    simp at this; omega
  apply List.ext_getElem?
  intro i
  by_cases hi : i < n
  · have h1 := hf i hi
    rw [hce, Nat.mul_one, List.getElem?_eq_getElem (by omega)] at h1
    obtain ⟨b, hc, hb⟩ := DataW.trod_bool he h1
    have h2 : cs[i]? = some (.bool b) := by
      have := congrArg (·[0]?) hc
      simpa [List.getElem?_take, List.getElem?_drop] using this
    have h3 : (bs.map fun b => (DataW.lit (.bool b) : DataW H))[i]? = some (.lit (.bool b)) := by
      rw [hx1, List.getElem?_map, List.getElem?_eq_getElem (by omega), hb]; rfl
    rw [List.getElem?_map, Option.map_eq_some_iff] at h3
    obtain ⟨b', hb', e⟩ := h3
    cases e
    rw [h2, List.getElem?_map, hb']; rfl
  · rw [List.getElem?_eq_none (by omega), List.getElem?_eq_none (by simp; omega)]
def nameB1 : List UInt8 := [40, 115, 99, 97, 110, 116, 108, 105, 110, 103, 47, 110, 101, 120, 116, 46, 115, 116, 101, 112, 41, 46, 110, 111, 100, 101]
def nameB3 : List UInt8 := [40, 115, 99, 97, 110, 116, 108, 105, 110, 103, 47, 110, 101, 120, 116, 46, 115, 116, 101, 112, 41, 46, 116, 101, 120, 116]
def nameB4 : List UInt8 := [40, 115, 99, 97, 110, 116, 108, 105, 110, 103, 47, 110, 101, 120, 116, 46, 115, 116, 101, 112, 41, 46, 104, 97, 108, 102]
def stepsD : DataW Unit := .map [(.int .i64 1, .iface "func" (.lit (.string nameB1))), (.int .i64 3, .iface "func" (.lit (.string nameB3))), (.int .i64 4, .iface "func" (.lit (.string nameB4)))]
def stepsL : List (Lit × DataW (List UInt8)) := [(.int .i64 1, .held nameB1), (.int .i64 3, .held nameB3), (.int .i64 4, .held nameB4)]
theorem key_int {P : Program} {k : TypeId} (hk : P.underlying k = some (.int .i64)) {v : Value} {l : Lit} (h : keyOf P k v = some l) : ∃ n : Int, v = .int .i64 n ∧ l = .int .i64 n ∧ InR .i64 n := by
  rw [keyOf_int hk] at h
  unfold mapKey at h
  rw [hk] at h
  cases v <;> simp at h
  obtain ⟨⟨rfl, h2⟩, rfl⟩ := h
  exact ⟨_, rfl, rfl, by simpa [Lit.wf, InR] using h2⟩
theorem one_of_formed {P : Program} {t : TypeId} {ps rs : Array TypeId} {va : Bool} {v : Value} (ht : P.underlying t = some (.func ps rs va)) (h : v.formed P t = true) : v.cells.toList = [v] := by
  cases v <;> simp [Value.formed, ht] at h <;> rfl
def entY (e : MapEntry) : Int × Option Nat := match e.key with | .int _ n => (n, mget gfmS n none) | _ => (0, none)
def entL (q : Lit × DataW (List UInt8)) : Int × Option Nat := match q.1 with | .int _ n => (n, mget gfmS n none) | _ => (0, none)
def Steps (W : World) : Prop := ∃ m t fr es clock ys, W.heap[1]? = some (.cells #[.map (some m)] t fr) ∧ W.heap[m]? = some (.map es clock) ∧ Fmst es clock ys ∧ ys.Perm gfmS
theorem steps_of_funcs {W : World} (h : funcsAt Tryd.prog W "scantling/next.steps" stepsD) : Steps W := by
  obtain ⟨g, t, cs, fuel, p, hg, ht, hv, hd⟩ := h
  have hg' : Tryd.prog.globalNamed "scantling/next.steps" = some 1 := by kernel_rfl
  have hty : (Tryd.prog.globals[1]?).map (·.type) = some 94 := by kernel_rfl
  obtain rfl := Option.some.inj (hg'.symm.trans hg)
  obtain rfl := Option.some.inj (hty.symm.trans ht)
  have e : DataW.funcsOut stepsD = .map stepsL := by kernel_rfl
  rw [e] at hd
  have hkt : Tryd.prog.underlying 3 = some (.int .i64) := Tryd.underlying3
  rcases WideElems.open_map Tryd.underlying94 hd with ⟨_, hx⟩ | ⟨m, es, clock, n, rfl, hcs, hb, _, F, hx⟩
  · simp at hx
  · simp only [Prod.mk.injEq, DataW.map.injEq] at hx
    have hp : stepsL.Perm (es.toList.map (WideElems.rg Tryd.prog 3 (WideElems.elemAt (funcToken Tryd.prog) Tryd.prog W 0 (fun _ => true) true n 92))) := by
      rw [hx.1]; exact sorted_perm _
    have ent : ∀ x ∈ es.toList, ∃ i : Int, x.key = .int .i64 i ∧ InR .i64 i ∧ entL (WideElems.rg Tryd.prog 3 (WideElems.elemAt (funcToken Tryd.prog) Tryd.prog W 0 (fun _ => true) true n 92) x) = (i, mget gfmS i none) ∧ x.val = fidV (mget gfmS i none) := by
      intro x hx'
      obtain ⟨y, hy⟩ := F.reads x hx'
      have hrg := WideElems.rg_of hy
      have hm : y ∈ stepsL := hp.mem_iff.2 (List.mem_map.2 ⟨x, hx', hrg⟩)
      obtain ⟨i, hk1, hk2, hk3⟩ := key_int hkt (WideElems.rd_key hy)
      obtain ⟨z, hz1, hz2⟩ := WideElems.rd_val hy
      unfold WideElems.elemAt at hz1
      split at hz1
      case isFalse => cases hz1
      rename_i hf
      rw [one_of_formed Tryd.underlying92 hf] at hz1
      refine ⟨i, hk1, hk3, by rw [hrg]; simp only [entL, hk2], ?_⟩
      unfold stepsL at hm
      simp only [List.mem_cons, List.not_mem_nil, or_false] at hm
      rcases hm with rfl | rfl | rfl
      · simp only [Lit.int.injEq, true_and] at hk2
        subst hk2
        obtain ⟨z1, z2⟩ := z
        simp only at hz2
        subst hz2
        exact func_of_trod (f0 := 134) Tryd.underlying92 (by kernel_rfl) hz1
      · simp only [Lit.int.injEq, true_and] at hk2
        subst hk2
        obtain ⟨z1, z2⟩ := z
        simp only at hz2
        subst hz2
        exact func_of_trod (f0 := 135) Tryd.underlying92 (by kernel_rfl) hz1
      · simp only [Lit.int.injEq, true_and] at hk2
        subst hk2
        obtain ⟨z1, z2⟩ := z
        simp only at hz2
        subst hz2
        exact func_of_trod (f0 := 131) Tryd.underlying92 (by kernel_rfl) hz1
    obtain ⟨o, ho, hcell⟩ : ∃ t fr, W.heap[1]? = some (.cells #[.map (some m)] t fr) := by
      unfold World.var? at hv
      rw [hg'] at hv
      simp only [Option.bind_some] at hv
      split at hv
      · rename_i cs' t' fr' hc
        refine ⟨t', fr', ?_⟩
        rw [hc]
        simp only [Option.some.injEq] at hv
        rw [hv, ← Array.toArray_toList (xs := cs), hcs]
      · cases hv
    refine ⟨m, o, ho, es, clock, es.toList.map entY, hcell, hb, ⟨F.stamped, by simp, fun i e q h1 h2 => ?_⟩, ?_⟩
    · have hm := List.mem_of_getElem? h1
      obtain ⟨j, hk1, hk3, _, hval⟩ := ent e hm
      rw [List.getElem?_map, h1] at h2
      simp only [Option.map_some, Option.some.injEq] at h2
      subst h2
      have hr := inR_i64.1 hk3
      simp only [entY, hk1]
      exact ⟨trivial, hr, hval⟩
    · have h3 := (hp.map entL).symm
      have e1 : stepsL.map entL = gfmS := by kernel_rfl
      rw [e1, List.map_map] at h3
      refine List.Perm.trans (List.Perm.of_eq (List.map_congr_left fun x hx' => ?_)) h3
      obtain ⟨j, hk1, _, hL, _⟩ := ent x hx'
      simp only [Function.comp, entY, hk1]
      exact hL.symm
def Tabs (W : World) : Prop := (Lib.TabIs Tryd.prog W "internal/strconv.uint64pow10" .u64 Lib.pow10Tab ∧ W.var? Tryd.prog "scantling/heads.readies" = some (gdat0.map Value.bool).toArray) ∧ Steps W
theorem tab_of_laid {W : World} (h : laidMetH Tryd.prog lst W) : Tabs W := by
  have hs : ("scantling/next.steps", (DataW.iface "func table" stepsD : DataW Unit)) ∈ lst := by
    have e : (Rows.laid_scantling_next_steps : DataW Unit) = DataW.iface "func table" stepsD := by kernel_rfl
    unfold lst
    rw [e]
    simp
  have h3 := steps_of_funcs (h.funcs hs)
  have e0 : laidMetH Tryd.prog lst W = (laidMet Tryd.prog lst4 W ∧ handlesMet Tryd.prog [("scantling/next.steps", Rows.laid_scantling_next_steps)] W) := by kernel_rfl
  rw [e0] at h
  have h' := h.1
  unfold lst4 at h'
  refine ⟨⟨?_, ?_⟩, h3⟩
  · have e : (Rows.laid_internal_strconv_uint64pow10 : DataW Unit) = Lib.tabData .u64 Lib.pow10Tab := by kernel_rfl
    have h2 := h'.tail.tail
    rw [e] at h2
    exact Lib.tabIs_of_head (g := 2) (t := 159) (e := 44) (n := 20) (by kernel_rfl) (by kernel_rfl) Tryd.underlying159 Tryd.underlying44 (by kernel_rfl) (by kernel_rfl) h2
  · have e : (Rows.laid_scantling_heads_readies : DataW Unit) = .agg (gdat0.map fun b => .lit (.bool b)) := by kernel_rfl
    have h2 := h'.tail.tail.tail
    rw [e] at h2
    obtain ⟨ps, ⟨g', t', cs, fuel, p, q, hg', ht', hvar, hd, _, _⟩, _⟩ := h2
    have hg : Tryd.prog.globalNamed "scantling/heads.readies" = some 0 := by kernel_rfl
    have hty : (Tryd.prog.globals[0]?).map (·.type) = some 68 := by kernel_rfl
    obtain rfl := Option.some.inj (hg.symm.trans hg')
    obtain rfl := Option.some.inj (hty.symm.trans ht')
    rw [hvar, ← cells_of_bools Tryd.underlying68 (e := 4) Tryd.underlying4 (by kernel_rfl) (by kernel_rfl) hd]
theorem gl_of_tab {W : World} (h : Tabs W) : Gl ⟨W, fun _ => False, fun _ h => h.elim⟩ := by
  obtain ⟨⟨h1, h2⟩, h3⟩ := h
  refine ⟨fun p hp => ?_, fun p hp => ?_⟩
  · unfold gtab at hp
    rcases List.mem_cons.1 hp with rfl | hp
    · refine ⟨fun h => h, ?_⟩
      unfold Lib.TabIs World.var? at h1
      have hg : Tryd.prog.globalNamed "internal/strconv.uint64pow10" = some 2 := by kernel_rfl
      rw [hg] at h1
      simp only [Option.bind_some] at h1
      split at h1
      · rename_i cs t fr hc
        refine ⟨t, fr, ?_⟩
        show W.heap[2]? = _
        rw [hc]
        simp only [Option.some.injEq] at h1
        rw [h1]
        simp [Lib.pow10Tab]
      · cases h1
    · obtain rfl := List.mem_singleton.1 hp
      refine ⟨fun h => h, ?_⟩
      unfold World.var? at h2
      have hg : Tryd.prog.globalNamed "scantling/heads.readies" = some 0 := by kernel_rfl
      rw [hg] at h2
      simp only [Option.bind_some] at h2
      split at h2
      · rename_i cs t fr hc
        refine ⟨t, fr, ?_⟩
        show W.heap[0]? = _
        rw [hc]
        simp only [Option.some.injEq] at h2
        rw [h2]
      · cases h2
  · unfold gmap at hp
    obtain rfl := List.mem_singleton.1 hp
    obtain ⟨m, t, fr, es, clock, ys, k1, k2, k3, k4⟩ := h3
    exact ⟨fun h => h, m, t, fr, es, clock, ys, k1, fun h => h, k2, k3, k4⟩
noncomputable def laidWorld (os : Os) : World := World.doorLaid Tryd.prog 400 os
theorem laid_met (os : Os) (args : Array Value) : laidMetH Tryd.prog lst ((laidWorld os).forCall (fun _ _ => 0) ⟨#[], args, []⟩).memory :=
  laidMetH_of_parts3 (fuel := 8) (laidMet_of_run' 8 (by kernel_rfl) (by kernel_rfl)) (by kernel_rfl) (by kernel_rfl)
theorem weigh {H : Type} {P : Program} {ts : List TypeId} {ds : List (DataW H)} (h : (DataW.weightsEach P ts ds).all (· ≤ reachBytes) = true) (j : Nat) {t : TypeId} {d : DataW H} (ht : ts[j]? = some t) (hd : ds[j]? = some d) : ∀ n ∈ d.weights P t, n ≤ reachBytes := fun n hn => by
  have := List.all_eq_true.1 h n (DataW.weights_mem_each ht hd n hn)
  simpa using this
end Go.Proofs.YtdidjelkkanenaaDoor.V
