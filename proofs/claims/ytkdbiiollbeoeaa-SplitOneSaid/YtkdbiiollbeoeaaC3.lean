/-
  Plain: classes split into parts. No program, no memory.
-/
import Derived.Test.YtkdbiiollbeoeaaC2
namespace Go.Proofs.Ytkdbiiollbeoeaa.V
open Go
set_option linter.unusedVariables false

/-- The least byte, as a number. -/
def lk0 (p : Cl) : Int := p.least.1
def pieces (a p : Cl) : List Cl := [p &&& a, p &&& ~~~ a].filter fun q => decide (0 < q.count)
def splitR (ps : List Cl) (a : Cl) : List Cl := srt lk0 (ps.flatMap (pieces a))
def splitP (l : List Cl) : List Cl := l.foldl splitR [~~~ (0#256)]
def splitH (l : List Cl) : List Int := (splitP l).map lk0

/-- Are two bytes of one part? -/
def like (l : List Cl) (c d : Nat) : Bool := l.all fun a => a.has c == a.has d
def part (l : List Cl) (c : Nat) : Cl := Cl.of (like l c)
def heads (l : List Cl) : List Nat := (List.range 256).filter fun c => (List.range c).all fun d => !like l d c
def parts (l : List Cl) : List Cl := (heads l).map (part l)

theorem like_refl (l : List Cl) (c : Nat) : like l c c = true := by simp [like]
theorem like_symm {l : List Cl} {c d : Nat} (h : like l c d = true) : like l d c = true := by
  unfold like at *
  rw [List.all_eq_true] at *
  intro a ha
  have := h a ha
  rw [beq_iff_eq] at *
  exact this.symm
theorem like_trans {l : List Cl} {c d e : Nat} (h : like l c d = true) (k : like l d e = true) : like l c e = true := by
  unfold like at *
  rw [List.all_eq_true] at *
  intro a ha
  have h1 := h a ha
  have h2 := k a ha
  rw [beq_iff_eq] at *
  exact h1.trans h2
theorem has_part {l : List Cl} {c d : Nat} (h : d < 256) : (part l c).has d = like l c d := Cl.of_has _ h
theorem mem_heads {l : List Cl} {c : Nat} : c ∈ heads l ↔ c < 256 ∧ ∀ d, d < c → like l d c = false := by
  simp [heads]
theorem part_eq {l : List Cl} {c d : Nat} (h : like l c d = true) : part l c = part l d := by
  apply Cl.ext
  intro e he
  rw [has_part he, has_part he]
  cases h1 : like l d e
  · cases h2 : like l c e
    · rfl
    · rw [like_trans (like_symm h) h2] at h1; cases h1
  · exact like_trans h h1

/-- The least byte of a class that has one. -/
theorem lk_spec {p : Cl} (h : 0 < p.count) : ∃ n : Nat, n < 256 ∧ p.least = ((n : Int), true) ∧ p.has n = true ∧ ∀ m, m < n → p.has m = false := by
  cases hl : p.least.2
  · have h0 := least_none hl
    have : p.count = 0 := by
      unfold Cl.count
      rw [List.countP_eq_zero]
      intro m hm
      rw [h0 m (by simpa using hm)]; simp
    omega
  · obtain ⟨n, hn⟩ : ∃ n : Nat, p.least = ((n : Int), true) := by
      unfold Cl.least at hl ⊢
      split
      · exact ⟨_, rfl⟩
      · rename_i hn; rw [hn] at hl; simp at hl
    obtain ⟨h1, h2, h3⟩ := least_some hn
    exact ⟨n, h1, hn, h2, h3⟩
theorem count_pos {p : Cl} {n : Nat} (hn : n < 256) (h : p.has n = true) : 0 < p.count := by
  unfold Cl.count
  rw [List.countP_pos_iff]
  exact ⟨n, by simpa using hn, h⟩

/-- The head of a byte's part. -/
theorem head_of {l : List Cl} {c : Nat} (hc : c < 256) : ∃ h, h ∈ heads l ∧ h ≤ c ∧ like l h c = true := by
  obtain ⟨h, ⟨h1, h2⟩, h3⟩ := exists_least (p := fun d => d ≤ c ∧ like l d c = true) ⟨c, Nat.le_refl _, like_refl l c⟩
  refine ⟨h, mem_heads.2 ⟨by omega, fun d hd => ?_⟩, h1, h2⟩
  cases hl : like l d h
  · rfl
  · have := h3 d ⟨by omega, like_trans hl h2⟩
    omega
theorem least_part {l : List Cl} {h : Nat} (hh : h ∈ heads l) : (part l h).least = ((h : Int), true) := by
  obtain ⟨h1, h2⟩ := mem_heads.1 hh
  refine least_of h1 (by rw [has_part h1]; exact like_refl l h) fun m hm => ?_
  rw [has_part (by omega)]
  cases hl : like l h m
  · rfl
  · have := h2 m hm
    rw [like_symm hl] at this; cases this
theorem lk_part {l : List Cl} {h : Nat} (hh : h ∈ heads l) : lk0 (part l h) = (h : Int) := by rw [lk0, least_part hh]

theorem heads_sorted (l : List Cl) : (heads l).Pairwise (· < ·) := (List.pairwise_lt_range).filter _
theorem parts_lk (l : List Cl) : (parts l).map lk0 = (heads l).map (fun n : Nat => (n : Int)) := by
  unfold parts
  rw [List.map_map]
  exact List.map_congr_left fun h hh => lk_part hh
theorem parts_srt (l : List Cl) : Srt lk0 (parts l) := by
  have h1 : (heads l).Pairwise fun a b => lk0 (part l a) ≤ lk0 (part l b) := by
    refine (List.pairwise_iff_getElem.2 fun i j hi hj hij => ?_)
    rw [lk_part (List.getElem_mem hi), lk_part (List.getElem_mem hj)]
    have := List.pairwise_iff_getElem.1 (heads_sorted l) i j hi hj hij
    omega
  exact List.pairwise_map.2 h1

/-- Lists of things that have keys of their own are the same up to order if they have the same things. -/
theorem seq_of_mem {α : Type} {key : α → Int} {X Y : List α} (hX : (X.map key).Nodup) (hY : (Y.map key).Nodup) (h : ∀ x, x ∈ X ↔ x ∈ Y) : SEq key X Y := fun c => by
  have one : ∀ {Z : List α}, (Z.map key).Nodup → ∀ x ∈ Z, key x = c → Z.filter (fun z => key z == c) = [x] := by
    intro Z
    induction Z with
    | nil => intro _ x hx; cases hx
    | cons z Z ih =>
      intro hn x hx hk
      rw [List.map_cons, List.nodup_cons] at hn
      rcases List.mem_cons.1 hx with rfl | hx
      · rw [List.filter_cons_of_pos (by simp [hk])]
        congr 1
        rw [List.filter_eq_nil_iff]
        intro y hy hyc
        exact hn.1 (List.mem_map.2 ⟨y, hy, by rw [hk]; simpa using hyc⟩)
      · rw [List.filter_cons_of_neg, ih hn.2 x hx hk]
        intro hz
        exact hn.1 (List.mem_map.2 ⟨x, hx, by rw [hk]; simpa using (eq_of_beq hz).symm⟩)
  by_cases hex : ∃ x, x ∈ X ∧ key x = c
  · obtain ⟨x, hx, hk⟩ := hex
    rw [one hX x hx hk, one hY x ((h x).1 hx) hk]
  · have e1 : X.filter (fun z => key z == c) = [] := by
      rw [List.filter_eq_nil_iff]; intro y hy hyc; exact hex ⟨y, hy, by simpa using hyc⟩
    have e2 : Y.filter (fun z => key z == c) = [] := by
      rw [List.filter_eq_nil_iff]; intro y hy hyc; exact hex ⟨y, (h y).2 hy, by simpa using hyc⟩
    rw [e1, e2]

/-- Two classes without a byte in common. -/
def Disj (p q : Cl) : Prop := ∀ n, n < 256 → p.has n = true → q.has n = false
theorem lk_ne {p q : Cl} (hp : 0 < p.count) (hq : 0 < q.count) (h : Disj p q) : lk0 p ≠ lk0 q := by
  obtain ⟨n, n1, n2, n3, n4⟩ := lk_spec hp
  obtain ⟨m, m1, m2, m3, m4⟩ := lk_spec hq
  unfold lk0
  rw [n2, m2]
  intro he
  have : n = m := by simp at he; omega
  subst this
  rw [h n n1 n3] at m3; cases m3
theorem nodup_lk {X : List Cl} (hd : X.Pairwise Disj) (hc : ∀ x ∈ X, 0 < x.count) : (X.map lk0).Nodup := by
  refine List.pairwise_map.2 ?_
  refine hd.imp_of_mem fun {a b} ha hb h => lk_ne (hc a ha) (hc b hb) h
theorem mem_pieces {a p x : Cl} : x ∈ pieces a p ↔ (x = p &&& a ∨ x = p &&& ~~~ a) ∧ 0 < x.count := by
  simp [pieces]
theorem pieces_le {a p x : Cl} (h : x ∈ pieces a p) {n : Nat} (hx : x.has n = true) : p.has n = true := by
  rcases (mem_pieces.1 h).1 with rfl | rfl <;> rw [has_and] at hx <;> simp at hx <;> exact hx.1
theorem pieces_disj (a p : Cl) : (pieces a p).Pairwise Disj := by
  unfold pieces
  refine List.Pairwise.filter _ ?_
  simp only [List.pairwise_cons, List.mem_singleton, forall_eq, List.not_mem_nil, false_implies, implies_true, List.Pairwise.nil, and_true]
  intro n hn h
  rw [has_and] at h ⊢
  rw [has_not hn]
  simp at h ⊢
  simp [h.2]
theorem parts_disj (l : List Cl) : (parts l).Pairwise Disj := by
  unfold parts
  refine List.pairwise_map.2 ?_
  refine List.pairwise_iff_getElem.2 fun i j hi hj hij n hn h => ?_
  have hlt := List.pairwise_iff_getElem.1 (heads_sorted l) i j hi hj hij
  obtain ⟨_, h2⟩ := mem_heads.1 (List.getElem_mem hj)
  rw [has_part hn] at h ⊢
  cases h3 : like l (heads l)[j] n
  · rfl
  · have := h2 _ hlt
    rw [like_trans h (like_symm h3)] at this; cases this
theorem parts_pos {l : List Cl} {p : Cl} (h : p ∈ parts l) : 0 < p.count := by
  obtain ⟨c, hc, rfl⟩ := List.mem_map.1 h
  have h1 := (mem_heads.1 hc).1
  exact count_pos h1 (by rw [has_part h1]; exact like_refl l c)
theorem flat_disj {ps : List Cl} (h : ps.Pairwise Disj) (a : Cl) : (ps.flatMap (pieces a)).Pairwise Disj := by
  rw [List.pairwise_flatMap]
  refine ⟨fun p _ => pieces_disj a p, h.imp fun {p q} hpq x hx y hy n hn hxn => ?_⟩
  cases hy' : y.has n
  · rfl
  · have := hpq n hn (pieces_le hx hxn)
    rw [pieces_le hy hy'] at this; cases this
theorem like_snoc (l : List Cl) (a : Cl) (c d : Nat) : like (l ++ [a]) c d = (like l c d && (a.has c == a.has d)) := by simp [like]

theorem mem_split (l : List Cl) (a x : Cl) : x ∈ (parts l).flatMap (pieces a) ↔ x ∈ parts (l ++ [a]) := by
  have key : ∀ h h' : Nat, like l h h' = true → h' < 256 → ∀ x : Cl, (a.has h' = true ∧ x = part l h &&& a ∨ a.has h' = false ∧ x = part l h &&& ~~~ a) → x = part (l ++ [a]) h' := by
    intro h h' hh h1 x hx
    apply Cl.ext
    intro d hd
    rw [has_part hd, like_snoc]
    have e : like l h' d = like l h d := by
      have := congrArg (fun p : Cl => p.has d) (part_eq hh)
      simp only [has_part hd] at this
      exact this.symm
    rw [e]
    rcases hx with ⟨h2, rfl⟩ | ⟨h2, rfl⟩
    · rw [has_and, has_part hd, h2]; cases a.has d <;> simp
    · rw [has_and, has_not hd, has_part hd, h2]; cases a.has d <;> simp
  constructor
  · intro hx
    obtain ⟨p, hp, hxp⟩ := List.mem_flatMap.1 hx
    obtain ⟨h, hh, rfl⟩ := List.mem_map.1 hp
    obtain ⟨hx1, hx2⟩ := mem_pieces.1 hxp
    obtain ⟨n, n1, n2, n3, n4⟩ := lk_spec hx2
    have hn := pieces_le hxp n3
    rw [has_part n1] at hn
    have hxe : x = part (l ++ [a]) n := key h n hn n1 x (by
      rcases hx1 with rfl | rfl
      · rw [has_and] at n3; simp at n3; exact .inl ⟨n3.2, rfl⟩
      · rw [has_and, has_not n1] at n3; simp at n3; exact .inr ⟨n3.2, rfl⟩)
    refine List.mem_map.2 ⟨n, mem_heads.2 ⟨n1, fun d hd => ?_⟩, hxe.symm⟩
    cases hl : like (l ++ [a]) d n
    · rfl
    · have := n4 d hd
      rw [hxe, has_part (by omega), like_symm hl] at this; cases this
  · intro hx
    obtain ⟨n, hn, rfl⟩ := List.mem_map.1 hx
    have n1 := (mem_heads.1 hn).1
    obtain ⟨h, hh, _, h3⟩ := head_of (l := l) n1
    have hpos := parts_pos hx
    cases ha : a.has n
    · have e := key h n h3 n1 _ (.inr ⟨ha, rfl⟩)
      exact List.mem_flatMap.2 ⟨_, List.mem_map.2 ⟨h, hh, rfl⟩, mem_pieces.2 ⟨.inr e.symm, hpos⟩⟩
    · have e := key h n h3 n1 _ (.inl ⟨ha, rfl⟩)
      exact List.mem_flatMap.2 ⟨_, List.mem_map.2 ⟨h, hh, rfl⟩, mem_pieces.2 ⟨.inl e.symm, hpos⟩⟩

theorem splitR_parts (l : List Cl) (a : Cl) : splitR (parts l) a = parts (l ++ [a]) := by
  unfold splitR
  refine (srt_of (parts_srt _) (seq_of_mem ?_ ?_ (mem_split l a))).symm
  · exact nodup_lk (flat_disj (parts_disj l) a) fun x hx => by
      obtain ⟨p, _, hxp⟩ := List.mem_flatMap.1 hx
      exact (mem_pieces.1 hxp).2
  · exact nodup_lk (parts_disj _) fun x hx => parts_pos hx
theorem parts_nil : parts [] = [~~~ (0#256)] := by
  have h : heads [] = [0] := by decide +kernel
  unfold parts
  rw [h]
  simp only [List.map_cons, List.map_nil, List.cons.injEq, and_true]
  apply Cl.ext
  intro c hc
  rw [has_part hc, has_not hc, has_zero]
  rfl
theorem splitP_eq (l : List Cl) : splitP l = parts l := by
  have : ∀ (l pre : List Cl), l.foldl splitR (parts pre) = parts (pre ++ l) := by
    intro l
    induction l with
    | nil => intro pre; simp
    | cons a l ih => intro pre; rw [List.foldl_cons, splitR_parts, ih]; simp
  have := this l []
  rw [parts_nil] at this
  simpa [splitP] using this
theorem heads_len (l : List Cl) : (heads l).length ≤ 256 := by
  have := List.length_filter_le (fun c => (List.range c).all fun d => !like l d c) (List.range 256)
  simpa [heads] using this
theorem splitH_eq (l : List Cl) : splitH l = (heads l).map (fun n : Nat => (n : Int)) := by rw [splitH, splitP_eq, parts_lk]
end Go.Proofs.Ytkdbiiollbeoeaa.V
