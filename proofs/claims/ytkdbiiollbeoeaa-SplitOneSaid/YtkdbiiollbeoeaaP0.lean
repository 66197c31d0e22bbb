/-
  Go's stable sort answers the one list that is sorted by key, and has the things of each key in one order.
-/
import Derived.Test.YtkdbiiollbeoeaaR00
import Derived.Test.YtkdbiiollbeoeaaC2
namespace Go.Proofs.Ytkdbiiollbeoeaa.V
open Go
set_option linter.unusedVariables false

theorem dt0 {p : Prop} [Decidable p] (h : decide p = true) : p := of_decide_eq_true h
theorem df0 {p : Prop} [Decidable p] (h : decide p = false) : ¬ p := of_decide_eq_false h
/-- A comparison by a key. -/
def ByKey (key : Cl → Int) (cmp : Cl × Cl × Int → Prop) : Prop := ∀ x y, cmp (x, y, key x - key y)

theorem ins_l2 {key : Cl → Int} {cmp : Cl × Cl × Int → Prop} (hc : ByKey key cmp) {A B : List Cl} {x : Cl} {X : List Cl → Prop} :
    ∀ (m : Nat) (P G : List Cl), P.length = m → Srt key (P ++ G) → (∀ g ∈ G, key x < key g) → (A ++ P ++ x :: (G ++ B)).length < 4611686018427387904 →
      (∀ Q, Srt key Q → SEq key (P ++ x :: G) Q → X (A ++ Q ++ B)) →
      ∃ k, slices_insertionSortCmpFunc_api_Class.l2 (A.length : Int) cmp X k (A ++ P ++ x :: (G ++ B)) ((A.length + P.length : Nat) : Int) := by
  intro m
  induction m with
  | zero =>
    intro P G hm hs hg hlen hX
    have hP := List.eq_nil_of_length_eq_zero hm
    subst hP
    refine ⟨1, x, fun h => absurd (dt0 h) (by simp), fun h => absurd (dt0 h) (by simp), x, fun h => absurd (dt0 h) (by simp), 0, fun h => absurd (dt0 h) (by simp), fun h => ?_, fun _ => ?_⟩
    · simp at h
    · have := hX (x :: G) (Srt.cons.2 ⟨fun y hy => Int.le_of_lt (hg y hy), by simpa using hs⟩) (SEq.refl _ _)
      simpa using this
  | succ m ih =>
    intro P G hm hs hg hlen hX
    obtain ⟨P, y, rfl⟩ := snoc_of (l := P) (by rintro rfl; simp at hm)
    have hmP : P.length = m := by simpa using hm
    have hl2 : A.length + P.length + 1 < 4611686018427387904 := by simp at hlen; omega
    have e0 : A ++ (P ++ [y]) ++ x :: (G ++ B) = (A ++ P) ++ y :: x :: (G ++ B) := by simp
    have e1 : A ++ (P ++ [y]) ++ x :: (G ++ B) = (A ++ P ++ [y]) ++ x :: (G ++ B) := by simp
    have hj : ((A.length + (P ++ [y]).length : Nat) : Int) = ((A.length + P.length : Nat) : Int) + 1 := by simp <;> omega
    have at1 : at? (A ++ (P ++ [y]) ++ x :: (G ++ B)) ((A.length + (P ++ [y]).length : Nat) : Int) = some x := by rw [e1]; exact at_mid (by simp <;> omega)
    have at2 : at? (A ++ (P ++ [y]) ++ x :: (G ++ B)) (((A.length + (P ++ [y]).length : Nat) : Int) - 1) = some y := by rw [e0]; exact at_mid (by simp <;> omega)
    by_cases hlt : key x < key y
    · -- a round more
      obtain ⟨k, hk⟩ := ih P (y :: G) hmP (by simpa using hs) (fun g hgm => by
          rcases List.mem_cons.1 hgm with rfl | h
          · exact hlt
          · exact hg g h) (by simp at hlen ⊢ <;> omega) (fun Q hQ hE => hX Q hQ (SEq.trans (by
            have : SEq key ([y] ++ [x]) ([x] ++ [y]) := seq_blocks (by simp <;> omega)
            have h2 := (SEq.refl key P).app (this.app (SEq.refl key G))
            simpa using h2) hE))
      refine ⟨k + 1, x, fun _ => at1, fun _ => i64_of (by omega) (by omega), y, fun _ => at2, key x - key y, fun _ => hc x y, fun _ => ?_, fun h => ?_⟩
      · refine ⟨i64_of (by omega) (by omega), i64_of (by omega) (by omega), y, at2, x, at1, x, at1, y, ?_, i64_of (by omega) (by omega), ?_⟩
        · rw [e1, set_mid (by simp <;> omega)]
          rw [show (A ++ P ++ [y] ++ y :: (G ++ B)) = (A ++ P) ++ y :: y :: (G ++ B) by simp]
          exact at_mid (by simp <;> omega)
        · have : ((A ++ (P ++ [y]) ++ x :: (G ++ B)).set ((A.length + (P ++ [y]).length : Nat) : Int).toNat y).set (((A.length + (P ++ [y]).length : Nat) : Int) - 1).toNat x = A ++ P ++ x :: (y :: G ++ B) := by
            rw [e1, set_mid (by simp <;> omega)]
            rw [show (A ++ P ++ [y] ++ y :: (G ++ B)) = (A ++ P) ++ y :: y :: (G ++ B) by simp]
            rw [set_mid (by simp <;> omega)]
            simp
          rw [this, show (((A.length + (P ++ [y]).length : Nat) : Int) - 1) = ((A.length + P.length : Nat) : Int) by omega]
          exact hk
      · exfalso
        simp at h
        omega
    · refine ⟨1, x, fun _ => at1, fun _ => i64_of (by omega) (by omega), y, fun _ => at2, key x - key y, fun _ => hc x y, fun h => ?_, fun _ => ?_⟩
      · exfalso
        simp at h
        omega
      · have := hX (P ++ [y] ++ x :: G) (Srt.app.2 ⟨(Srt.app.1 hs).1, Srt.cons.2 ⟨fun g hgm => Int.le_of_lt (hg g hgm), (Srt.app.1 hs).2.1⟩, fun p hp q hq => ?_⟩) (SEq.refl _ _)
        · simpa using this
        · have hpy : key p ≤ key y := by
            rcases List.mem_append.1 hp with h | h
            · exact (Srt.app.1 (Srt.app.1 hs).1).2.2 p h y (by simp)
            · simp at h; subst h; exact Int.le_refl _
          rcases List.mem_cons.1 hq with rfl | h
          · omega
          · have := (Srt.app.1 hs).2.2 p hp q h
            exact this

/-- Insertion sort of a block. -/
theorem ins_in {key : Cl → Int} {cmp : Cl × Cl × Int → Prop} (hc : ByKey key cmp) {A S B : List Cl} {a b : Int} (ha : a = (A.length : Int)) (hb : b = ((A.length + S.length : Nat) : Int)) (hlen : (A ++ S ++ B).length < 4611686018427387904) :
    slices_insertionSortCmpFunc_api_Class (A ++ S ++ B) a b cmp (A ++ srt key S ++ B) := by
  have hlA : A.length + S.length < 4611686018427387904 := by simp at hlen; omega
  subst ha; subst hb
  have key2 : ∀ (m : Nat) (P R : List Cl), R.length = m → Srt key P → SEq key S (P ++ R) → ∀ {X : List Cl → Prop}, X (A ++ srt key S ++ B) →
      ∃ k, slices_insertionSortCmpFunc_api_Class.l1 (A.length : Int) ((A.length + S.length : Nat) : Int) cmp X k (A ++ (P ++ R) ++ B) ((A.length + P.length : Nat) : Int) := by
    intro m
    induction m with
    | zero =>
      intro P R hR hP hS X hX
      have := List.eq_nil_of_length_eq_zero hR
      subst this
      have hl := hS.length
      simp at hl
      have e := srt_of hP (by simpa using hS)
      exact ⟨1, fun h => absurd (dt0 h) (by omega), fun _ => by rw [List.append_nil, e]; exact hX⟩
    | succ m ih =>
      intro P R hR hP hS X hX
      cases R with
      | nil => simp at hR
      | cons x R =>
        have hl := hS.length
        simp at hl
        simp at hR
        have hS2 : SEq key S (srt key (P ++ [x]) ++ R) := hS.trans (by
          have := (seq_srt key (P ++ [x])).app (SEq.refl key R)
          simpa using this)
        obtain ⟨k, hk⟩ := ih (srt key (P ++ [x])) R hR (srt_srt _ _) hS2 hX
        refine ⟨k + 1, fun _ => ?_, fun h => absurd (by omega) (df0 h)⟩
        have := ins_l2 hc (A := A) (B := R ++ B) (x := x) (X := slices_insertionSortCmpFunc_api_Class.j2 (slices_insertionSortCmpFunc_api_Class.l1 (A.length : Int) ((A.length + S.length : Nat) : Int) cmp X k) ((A.length + P.length : Nat) : Int)) P.length P [] rfl (by simpa using hP) (by simp) (by simp at hlen ⊢ <;> omega) (fun Q hQ hE => by
          have hQe := srt_of hQ hE
          refine ⟨i64_of (by omega) (by omega), ?_⟩
          rw [hQe]
          have e1 : ((A.length + (srt key (P ++ [x])).length : Nat) : Int) = ((A.length + P.length : Nat) : Int) + 1 := by rw [srt_len]; simp; omega
          rw [e1] at hk
          simpa using hk)
        simpa using this
  refine ⟨i64_of (by omega) (by omega), ?_⟩
  cases S with
  | nil =>
    refine ⟨1, fun h => absurd (dt0 h) (by simp <;> omega), fun _ => ?_⟩
    show A ++ srt key [] ++ B = A ++ [] ++ B
    rw [List.eq_nil_of_length_eq_zero (srt_len key [])]
  | cons x S =>
    have := key2 S.length [x] S rfl (by simp [Srt]) (SEq.refl _ _) (X := slices_insertionSortCmpFunc_api_Class.j1 (A ++ srt key (x :: S) ++ B)) rfl
    simpa using this

theorem swap_l1 {A M B : List Cl} {a b n : Int} {X : List Cl → Prop} : ∀ (X2 Y2 X1 Y1 : List Cl), X2.length = Y2.length → X1.length = Y1.length → a = (A.length : Int) → b = ((A.length + X1.length + X2.length + M.length : Nat) : Int) → n = ((X1.length + X2.length : Nat) : Int) →
    (A ++ Y1 ++ X2 ++ M ++ X1 ++ Y2 ++ B).length < 4611686018427387904 → X (A ++ (Y1 ++ Y2) ++ M ++ (X1 ++ X2) ++ B) →
    ∃ k, slices_swapRangeCmpFunc_api_Class.l1 a b n X k (A ++ Y1 ++ X2 ++ M ++ X1 ++ Y2 ++ B) (X1.length : Int)
  | [], [], X1, Y1, _, h1, ha, hb, hn, hl, hX => ⟨1, fun h => absurd (dt0 h) (by rw [hn]; simp), fun _ => by simpa using hX⟩
  | x :: X2, y :: Y2, X1, Y1, h0, h1, ha, hb, hn, hl, hX => by
    simp at h0
    have hl' : A.length + Y1.length + X2.length + M.length + X1.length + Y2.length + B.length + 2 < 4611686018427387904 := by simp at hl; omega
    obtain ⟨k, hk⟩ := swap_l1 (A := A) (M := M) (B := B) (a := a) (b := b) (n := n) (X := X) X2 Y2 (X1 ++ [x]) (Y1 ++ [y]) h0 (by simp <;> omega) ha (by rw [hb]; simp <;> omega) (by rw [hn]; simp <;> omega) (by simp at hl ⊢ <;> omega) (by simpa using hX)
    have e1 : A ++ Y1 ++ x :: X2 ++ M ++ X1 ++ y :: Y2 ++ B = (A ++ Y1) ++ x :: (X2 ++ M ++ X1 ++ y :: Y2 ++ B) := by simp
    have e2 : A ++ Y1 ++ x :: X2 ++ M ++ X1 ++ y :: Y2 ++ B = (A ++ Y1 ++ x :: X2 ++ M ++ X1) ++ y :: (Y2 ++ B) := by simp
    have pa : a + (X1.length : Int) = ((A ++ Y1).length : Int) := by rw [ha]; simp <;> omega
    have pb : b + (X1.length : Int) = ((A ++ Y1 ++ x :: X2 ++ M ++ X1).length : Int) := by rw [hb]; simp <;> omega
    have hb0 : b + (X1.length : Int) < 4611686018427387904 ∧ 0 ≤ b + (X1.length : Int) := by rw [pb]; simp <;> omega
    have ha0 : a + (X1.length : Int) < 4611686018427387904 ∧ 0 ≤ a + (X1.length : Int) := by rw [pa]; simp <;> omega
    have aty : at? (A ++ Y1 ++ x :: X2 ++ M ++ X1 ++ y :: Y2 ++ B) (b + (X1.length : Int)) = some y := by rw [e2]; exact at_mid pb
    have atx : at? (A ++ Y1 ++ x :: X2 ++ M ++ X1 ++ y :: Y2 ++ B) (a + (X1.length : Int)) = some x := by rw [e1]; exact at_mid pa
    have s1 : (A ++ Y1 ++ x :: X2 ++ M ++ X1 ++ y :: Y2 ++ B).set (a + (X1.length : Int)).toNat y = A ++ Y1 ++ y :: X2 ++ M ++ X1 ++ y :: Y2 ++ B := by rw [e1, set_mid pa]; simp
    have e3 : A ++ Y1 ++ y :: X2 ++ M ++ X1 ++ y :: Y2 ++ B = (A ++ Y1 ++ y :: X2 ++ M ++ X1) ++ y :: (Y2 ++ B) := by simp
    have pb' : b + (X1.length : Int) = ((A ++ Y1 ++ y :: X2 ++ M ++ X1).length : Int) := by rw [pb]; simp
    refine ⟨k + 1, fun _ => ⟨i64_of (by omega) (by omega), i64_of (by omega) (by omega), i64_of (by omega) (by omega), y, aty, i64_of (by omega) (by omega), x, atx, x, atx, y, ?_, i64_of (by omega) (by omega), ?_⟩, fun h => absurd (by rw [hn]; simp <;> omega) (df0 h)⟩
    · rw [s1, e3]; exact at_mid pb'
    · rw [s1, e3, set_mid pb']
      simpa using hk
  | [], _ :: _, _, _, h, _, _, _, _, _, _ => by simp at h
  | _ :: _, [], _, _, h, _, _, _, _, _, _ => by simp at h

theorem swap_in {A X M Y B : List Cl} {a b n : Int} {cmp : Cl × Cl × Int → Prop} (ha : a = (A.length : Int)) (hb : b = ((A.length + X.length + M.length : Nat) : Int)) (hn : n = (X.length : Int)) (hxy : X.length = Y.length) (hl : (A ++ X ++ M ++ Y ++ B).length < 4611686018427387904) :
    slices_swapRangeCmpFunc_api_Class (A ++ X ++ M ++ Y ++ B) a b n cmp (A ++ Y ++ M ++ X ++ B) := by
  have := swap_l1 (A := A) (M := M) (B := B) (a := a) (b := b) (n := n) (X := slices_swapRangeCmpFunc_api_Class.j1 (A ++ Y ++ M ++ X ++ B)) X Y [] [] hxy rfl ha (by rw [hb]; simp) (by rw [hn]; simp) (by simpa using hl) rfl
  unfold slices_swapRangeCmpFunc_api_Class
  simpa using this

/-- Two blocks that touch change places. -/
theorem rot_in {A X Y B : List Cl} {a m b : Int} {cmp : Cl × Cl × Int → Prop} (ha : a = (A.length : Int)) (hm : m = ((A.length + X.length : Nat) : Int)) (hb : b = ((A.length + X.length + Y.length : Nat) : Int)) (hX : X ≠ []) (hY : Y ≠ []) (hl : (A ++ X ++ Y ++ B).length < 4611686018427387904) :
    slices_rotateCmpFunc_api_Class (A ++ X ++ Y ++ B) a m b cmp (A ++ Y ++ X ++ B) := by
  have hl' : A.length + X.length + Y.length + B.length < 4611686018427387904 := by simp at hl; omega
  refine ⟨i64_of (by omega) (by omega), i64_of (by omega) (by omega), ?_⟩
  have key : ∀ (f : Nat) (L X' Y' R : List Cl), X'.length + Y'.length ≤ f → X' ≠ [] → Y' ≠ [] → A.length + L.length + X'.length = A.length + X.length → L ++ Y' ++ X' ++ R = Y ++ X →
      ∃ k, slices_rotateCmpFunc_api_Class.l1 m cmp (slices_rotateCmpFunc_api_Class.j1 m cmp (A ++ Y ++ X ++ B)) k (A ++ L ++ X' ++ Y' ++ R ++ B) (X'.length : Int) (Y'.length : Int) := by
    intro f
    induction f with
    | zero => intro L X' Y' R hf hx; exact absurd (List.eq_nil_of_length_eq_zero (by omega)) hx
    | succ f ih =>
      intro L X' Y' R hf hx hy hmid heq
      have hx' : 0 < X'.length := List.length_pos_iff.2 hx
      have hy' : 0 < Y'.length := List.length_pos_iff.2 hy
      have hle := congrArg List.length heq
      simp at hle
      by_cases hlt : Y'.length < X'.length
      · obtain ⟨X1, X2, rfl, hX1⟩ := split_at X' (Nat.le_of_lt hlt)
        have hX2 : X2 ≠ [] := by rintro rfl; simp at hlt; omega
        have hX2' : 0 < X2.length := List.length_pos_iff.2 hX2
        simp at hle hmid hf hlt
        obtain ⟨k, hk⟩ := ih (L ++ Y') X2 X1 R (by omega) hX2 (by rintro rfl; simp at hX1; omega) (by first | omega | (simp; omega)) (by simpa using heq)
        refine ⟨k + 1, fun _ => ⟨fun _ => ⟨i64_of (by first | omega | (simp; omega)) (by first | omega | (simp; omega)), A ++ L ++ Y' ++ X2 ++ X1 ++ (R ++ B), ?_, i64_of (by first | omega | (simp; omega)) (by first | omega | (simp; omega)), ?_⟩, fun h => absurd (by simp; omega) (df0 h)⟩, fun h => by simp at h; omega⟩
        · have := swap_in (cmp := cmp) (A := A ++ L) (X := X1) (M := X2) (Y := Y') (B := R ++ B) (a := m - ((X1 ++ X2).length : Int)) (b := m) (n := (Y'.length : Int)) (by rw [hm]; simp; omega) (by rw [hm]; simp; omega) (by omega) (by omega) (by simp; omega)
          simpa using this
        · have e : (((X1 ++ X2).length : Nat) : Int) - (Y'.length : Int) = (X2.length : Int) := by simp; omega
          rw [e, ← hX1]
          simpa using hk
      · by_cases heq2 : X'.length = Y'.length
        · refine ⟨1, fun h => ?_, fun _ => ⟨i64_of (by first | omega | (simp; omega)) (by first | omega | (simp; omega)), A ++ L ++ Y' ++ X' ++ R ++ B, ?_, ?_⟩⟩
          · simp at h; omega
          · have := swap_in (cmp := cmp) (A := A ++ L) (X := X') (M := []) (Y := Y') (B := R ++ B) (a := m - (X'.length : Int)) (b := m) (n := (X'.length : Int)) (by rw [hm]; simp; omega) (by rw [hm]; simp; omega) rfl heq2 (by simp; omega)
            simpa using this
          · have : A ++ (Y ++ X) ++ B = A ++ (L ++ Y' ++ X' ++ R) ++ B := by rw [heq]
            simpa using this
        · have hlt2 : X'.length < Y'.length := by omega
          obtain ⟨Y1, Y2, rfl, hY1⟩ := split_at Y' (show Y'.length - X'.length ≤ Y'.length by omega)
          have hY2 : Y2.length = X'.length := by simp at hY1 hlt2; omega
          have hY1' : Y1 ≠ [] := by rintro rfl; simp at hY1 hlt2; omega
          simp at hle hmid hf hlt2
          obtain ⟨k, hk⟩ := ih L Y2 Y1 (X' ++ R) (by omega) (by rintro rfl; simp at hY2; omega) hY1' (by omega) (by simpa using heq)
          refine ⟨k + 1, fun _ => ⟨fun h => absurd (dt0 h) (by simp; omega), fun _ => ⟨i64_of (by omega) (by omega), i64_of (by first | omega | (simp; omega)) (by first | omega | (simp; omega)), i64_of (by first | omega | (simp; omega)) (by first | omega | (simp; omega)), A ++ L ++ Y2 ++ Y1 ++ X' ++ (R ++ B), ?_, i64_of (by first | omega | (simp; omega)) (by first | omega | (simp; omega)), ?_⟩⟩, fun h => by simp at h; omega⟩
          · have := swap_in (cmp := cmp) (A := A ++ L) (X := X') (M := Y1) (Y := Y2) (B := R ++ B) (a := m - (X'.length : Int)) (b := m + ((Y1 ++ Y2).length : Int) - (X'.length : Int)) (n := (X'.length : Int)) (by rw [hm]; simp; omega) (by rw [hm]; simp; omega) rfl (by omega) (by simp; omega)
            simpa using this
          · have e : (((Y1 ++ Y2).length : Nat) : Int) - (X'.length : Int) = (Y1.length : Int) := by simp; omega
            rw [e, ← hY2]
            simpa using hk
  have := key (X.length + Y.length) [] X Y [] (Nat.le_refl _) hX hY (by simp) (by simp)
  have e1 : m - a = (X.length : Int) := by omega
  have e2 : b - m = (Y.length : Int) := by omega
  rw [e1, e2]
  simpa using this
end Go.Proofs.Ytkdbiiollbeoeaa.V
