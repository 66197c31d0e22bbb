/-
  The laws of searches in tables answer true.
-/
import Derived.Test.YtdfnbogkniikbaaDoorP17
namespace Go.Proofs.YtdfnbogkniikbaaDoor.V
open Go
set_option linter.unusedVariables false

def aw4 : STable := ([[(1, 2), (2, 1)], [(3, 3)], [(4, 0)], ([] : (List SWay))], [false, false, false, true])
def aw0 : STable := ([([] : (List SWay))], [false])
theorem wf4 : Wf17 aw4 := ⟨by decide, by decide, by decide, by decide, by decide⟩
theorem wf0 : Wf17 aw0 := ⟨by decide, by decide, by decide, by decide, by decide⟩
theorem awake17 : law17_awake true := by
  have v4 : (verd aw4 (hit17 aw4) 4 aw4.1.length 0).1 = (2, [2, 3], [], 0, 0, 0, 4) := by decide
  have v3 : (verd aw4 (hit17 aw4) 3 aw4.1.length 0).1 = (3, [], [], 0, 0, 0, 3) := by decide
  have t4 : (all17 aw4).map (·.1) = [0, 2, 1, 3] := by decide
  have u1 : (verd aw0 (hit17 aw0) 1 aw0.1.length 0).1 = (1, [], [], 0, 0, 0, 1) := by decide
  have u0 : (verd aw0 (hit17 aw0) 0 aw0.1.length 0).1 = (3, [], [], 0, 0, 0, 0) := by decide
  have u5 : (verd aw0 (hit17 aw0) (-5) aw0.1.length 0).1 = (3, [], [], 0, 0, 0, 0) := by decide
  have f4 := find_in wf4 4
  have f3 := find_in wf4 3
  have g4 := things_in wf4
  have h1 := find_in wf0 1
  have h0 := find_in wf0 0
  have h5 := find_in wf0 (-5)
  rw [v4] at f4; rw [v3] at f3; rw [t4] at g4; rw [u1] at h1; rw [u0] at h0; rw [u5] at h5
  have sz : ∀ t : STable, t.1.length ≤ 10 → t.2.length ≤ 10 → (∀ l ∈ t.1, l.length ≤ 10) → Sz17 t := fun t a b c => ⟨by omega, by omega, fun l hl => by have := c l hl; omega⟩
  have m4 := form_in (t := aw4) (sz _ (by decide) (by decide) (by decide))
  have mE := form_in (t := ([], [])) (sz _ (by decide) (by decide) (by decide))
  have mB := form_in (t := ([[(0, 1)]], [false])) (sz _ (by decide) (by decide) (by decide))
  rw [show form17 aw4 = true by decide] at m4
  rw [show form17 ([], []) = false by decide] at mE
  rw [show form17 ([[(0, 1)]], [false]) = false by decide] at mB
  refine ⟨_, f4, _, g4, fun h => by simp at h, fun _ => ⟨_, h1, _, fun _ => h0, _, fun _ => h5, _, rfl, true, fun _ => bytes_in (by decide), _, rfl, _, fun _ => f3, 2, fun _ => rfl, 1, fun _ => rfl, _, rfl, _, fun _ => m4, _, fun _ => mE, _, fun _ => mB, by decide⟩⟩

theorem law17_SearchFinds_true {t : STable} (hz : Sz17 t) (b : Int) : law17_SearchFinds t b true := by
  obtain ⟨r6, h6, h6b⟩ := few17_ex hz
  refine ⟨true, awake17, r6, fun _ => h6, _, fun _ => form_in hz, _, fun _ => rform_in hz, fun hb => ⟨true, awake17, r6, fun _ => h6, ?_⟩, fun hb => ⟨_, rform_in hz, fun _ => rfl, fun hf => ?_⟩⟩
  · simp at hb; rw [hb]; rfl
  · simp only [Bool.not_true, Bool.false_or, bne_self_eq_false, Bool.or_false, Bool.not_eq_false'] at hb hf
    have hw := wf_of (h6b hb) hf
    have hlen := (acc_good hw t.1.length).len
    have hlen' : (all17 t).length ≤ 60 := Nat.le_trans hlen hw.few
    refine ⟨_, things_in hw, _, rthings_in hw, fun h => by simp at h, fun _ => ?_⟩
    refine upto (P := fun k (_ : Unit) v => law17_SearchFinds.l1 _ _ true _ k v) (all17 t).length (fun _ _ => True) ?_ ?_ () trivial
    · intro i _ hi _
      refine .inr ⟨(), trivial, fun k h => ⟨fun _ => ⟨(all17 t)[i].1, at_get (by simp [hi]), qR (all17 t)[i], at_get (by simp [hi]), fun h => by simp [qR] at h, fun _ => ⟨i64_of (by omega) (by omega), h⟩⟩, fun h => absurd (by simp; omega) (df h)⟩⟩
    · intro _ _ k
      have hv := verd_len hw (hit17 t) b t.1.length 0
      exact ⟨fun h => absurd (dt h) (by simp), fun _ => ⟨_, find_in hw b, _, rfind_in hw b, true, same_in (by omega) (by rw [hv.2]; simp), rfl⟩⟩

theorem sz_of {t : STable} {p : SWay → Prop} {u : Bool → Prop} (h : (t.1.length ≤ 140737488351232 ∧ ∀ l ∈ t.1, l.length ≤ 140737488351232 ∧ ∀ w ∈ l, p w) ∧ (t.2.length ≤ 140737488351232 ∧ ∀ b ∈ t.2, u b)) : Sz17 t :=
  ⟨h.1.1, h.2.1, fun l hl => (h.1.2 l hl).1⟩

/-! ### the order -/
/-- All that is led to is made. -/
theorem fold_all (i : Nat) (w : List Int) (es : List SWay) : ∀ acc : List Q17, ∀ e ∈ es, inQ (es.foldl (stQ i w) acc) e.2 = true := by
  induction es with
  | nil => intro acc e he; cases he
  | cons e0 es ih =>
    intro acc e he
    rw [List.foldl_cons]
    rcases List.mem_cons.1 he with rfl | he
    · have h1 : inQ (stQ i w acc e) e.2 = true := by
        unfold stQ
        split
        · assumption
        · simp [inQ]
      rw [inQ_iff] at h1 ⊢
      obtain ⟨q, hq, hqe⟩ := h1
      obtain ⟨r, hr⟩ := fold_pre i w es (stQ i w acc e)
      exact ⟨q, by rw [← hr]; exact List.mem_append_left _ hq, hqe⟩
    · exact ih _ e he
theorem closed {t : STable} (hw : Wf17 t) {k : Nat} {q : Q17} (hq : (all17 t)[k]? = some q) : ∀ e ∈ outs t q.1, inQ (all17 t) e.2 = true := fun e he => by
  have hlen : (all17 t).length ≤ t.1.length := (acc_good hw t.1.length).len
  have hk := (List.getElem?_eq_some_iff.1 hq).1
  have h1 := (acc_all hw (i := k) (by omega)).1
  rw [hq] at h1
  have h2 : inQ (acc17 t (k + 1)) e.2 = true := by rw [acc_next h1]; exact fold_all _ _ _ _ e he
  rw [inQ_iff] at h2 ⊢
  obtain ⟨q', hq', hqe⟩ := h2
  obtain ⟨r, hr⟩ := acc_pre t (i := k + 1) (j := t.1.length) (by omega)
  exact ⟨q', by show q' ∈ acc17 t t.1.length; rw [← hr]; exact List.mem_append_left _ hq', hqe⟩

/-- Where a node stands, from 1 on; else 0. -/
def plc (ns : List Int) (x : Nat) : Int := match ns.findIdx? (· == (x : Int)) with | some j => (j : Int) + 1 | none => 0
theorem plc_in {ns : List Int} {x : Nat} (h : (x : Int) ∈ ns) : ∃ j : Nat, plc ns x = (j : Int) + 1 ∧ ns[j]? = some (x : Int) := by
  unfold plc
  cases hf : ns.findIdx? (· == (x : Int)) with
  | none => rw [List.findIdx?_eq_none_iff] at hf; have := hf _ h; simp at this
  | some j =>
    obtain ⟨hj, hp, _⟩ := List.findIdx?_eq_some_iff_getElem.1 hf
    exact ⟨j, rfl, by rw [List.getElem?_eq_getElem hj]; simpa using hp⟩
theorem plc_no {ns : List Int} {x : Nat} (h : (x : Int) ∉ ns) : plc ns x = 0 := by
  unfold plc
  rw [List.findIdx?_eq_none_iff.2 (fun y hy => by simp; intro e; exact h (e ▸ hy))]
theorem plc_app {ns : List Int} {x y : Nat} (h : (y : Int) ∉ ns) : plc (ns ++ [(y : Int)]) x = if x = y then (ns.length : Int) + 1 else plc ns x := by
  by_cases hx : (x : Int) ∈ ns
  · have hne : x ≠ y := fun e => h (e ▸ hx)
    rw [if_neg hne]
    unfold plc
    rw [List.findIdx?_append]
    cases hf : ns.findIdx? (· == (x : Int)) with
    | none => rw [List.findIdx?_eq_none_iff] at hf; have := hf _ hx; simp at this
    | some j => rfl
  · rw [plc_no hx]
    unfold plc
    rw [List.findIdx?_append, List.findIdx?_eq_none_iff.2 (fun z hz => by simp; intro e; exact hx (e ▸ hz))]
    by_cases hxy : x = y
    · subst hxy; simp [List.findIdx?_cons]
    · have : ((y : Int) == (x : Int)) = false := by simp; omega
      simp [List.findIdx?_cons, this, hxy]
theorem law17_SearchOrder_true {t : STable} (hz : Sz17 t) : law17_SearchOrder t true := by
  obtain ⟨r6, h6, h6b⟩ := few17_ex hz
  refine ⟨true, awake17, r6, fun _ => h6, _, fun _ => rform_in hz, fun hb => ⟨true, awake17, rfl⟩, fun hb => ?_⟩
  simp only [Bool.not_true, Bool.false_or, Bool.or_eq_false_iff, Bool.not_eq_false'] at hb
  have hw := wf_of (h6b hb.1) hb.2
  have hg : Good t (all17 t) := acc_good hw t.1.length
  have hlen := hg.len
  have hfew := hw.few
  have hpos := hw.pos
  refine ⟨_, things_in hw, ⟨by omega, by omega⟩, ?_⟩
  -- the nodes, as they are made
  obtain ⟨ns, hns⟩ : ∃ ns : List Int, ns = (all17 t).map (·.1) := ⟨_, rfl⟩
  rw [← hns]
  have hnl : ns.length = (all17 t).length := by rw [hns]; simp
  have hnd : ns.Nodup := by rw [hns]; exact hg.nd
  have hget : ∀ k, k < ns.length → ∃ q, (all17 t)[k]? = some q ∧ ns[k]? = some q.1 := fun k hk => by
    have hk2 : k < (all17 t).length := by omega
    refine ⟨(all17 t)[k], List.getElem?_eq_getElem hk2, ?_⟩
    simp only [hns, List.getElem?_map, List.getElem?_eq_getElem hk2]; rfl
  have hr : ∀ k x, ns[k]? = some x → 0 ≤ x ∧ x < (t.1.length : Int) := fun k x hx => by
    rw [hns, List.getElem?_map] at hx
    obtain ⟨q, hq, rfl⟩ := Option.map_eq_some_iff.1 hx
    exact hg.rng q (List.mem_of_getElem? hq)
  have hn0 : ns[0]? = some 0 := by
    have h0 : (all17 t)[0]? = some (0, -1, 0, []) := get_pre (acc_pre t (Nat.zero_le _)) (by rfl)
    rw [hns, List.getElem?_map, h0]; rfl
  have hpl : ∀ (m : List Int) (x : Int), 0 ≤ x → x < (t.1.length : Int) → at? ((List.range t.1.length).map (plc m)) x = some (plc m x.toNat) := fun m x h0 h1 => by
    obtain ⟨y, rfl⟩ : ∃ y : Nat, x = y := ⟨x.toNat, by omega⟩
    rw [at_nat, List.getElem?_map, List.getElem?_range (by omega)]; rfl
  have hrep : List.replicate ((t.1.length : Int)).toNat (0 : Int) = (List.range t.1.length).map (plc (ns.take 0)) := by
    apply List.ext_getElem (by simp)
    intro i h1 h2
    simp [plc]
  rw [hrep]
  refine upto (P := fun k (s : List Int) v => law17_SearchOrder.l4 t ns true _ k s v) ns.length (fun i s => s = (List.range t.1.length).map (plc (ns.take i))) ?_ ?_ _ rfl
  · rintro i s hi rfl
    obtain ⟨q, hq, hx⟩ := hget i hi
    have hxr := hr i _ hx
    have hat := at_get hx
    have hni : ((q.1.toNat : Nat) : Int) ∉ ns.take i := by
      rw [Int.toNat_of_nonneg hxr.1]
      intro hm
      obtain ⟨j, hj⟩ := List.getElem?_of_mem hm
      have hjl := (List.getElem?_eq_some_iff.1 hj).1
      rw [List.length_take] at hjl
      rw [List.getElem?_take, if_pos (by omega)] at hj
      have := (List.getElem?_inj (by omega) hnd).1 (hj.trans hx.symm)
      omega
    have hp0 := hpl (ns.take i) q.1 hxr.1 hxr.2
    rw [plc_no hni] at hp0
    refine .inr ⟨_, rfl, fun k h => ⟨fun _ => ⟨_, hat, _, fun _ => hat, _, rfl, _, fun _ => hat, _, fun _ => hp0, fun h => by simp at h; omega, fun _ => ⟨_, hat, i64_of (by omega) (by omega), _, hp0, i64_of (by omega) (by omega), ?_⟩⟩, fun h => absurd (by omega) (df h)⟩⟩
    have e : ((List.range t.1.length).map (plc (ns.take i))).set q.1.toNat ((i : Int) + 1) = (List.range t.1.length).map (plc (ns.take (i + 1))) := by
      have hxi : ns[i] = q.1 := by rw [List.getElem?_eq_getElem hi] at hx; exact Option.some.inj hx
      have htk : ns.take (i + 1) = ns.take i ++ [((q.1.toNat : Nat) : Int)] := by rw [List.take_succ_eq_append_getElem hi, Int.toNat_of_nonneg hxr.1, hxi]
      apply List.ext_getElem (by simp)
      intro j h1 h2
      simp only [List.length_map, List.length_range] at h2
      rw [List.getElem_set]
      simp only [List.getElem_map, List.getElem_range]
      rw [htk, plc_app hni]
      have hlt : (ns.take i).length = i := by simp; omega
      by_cases hj : j = q.1.toNat
      · rw [if_pos hj.symm, if_pos hj, hlt]
      · rw [if_neg (fun e => hj e.symm), if_neg hj]
    rw [e]; exact h
  · rintro s rfl k
    rw [List.take_length]
    refine ⟨fun h => absurd (dt h) (by omega), fun _ => ?_⟩
    have hnpos : 0 < ns.length := (List.getElem?_eq_some_iff.1 hn0).1
    refine ⟨0, fun _ => at_get hn0, fun h => by simp at h; subst h; simp at hnpos, fun _ => ?_⟩
    refine uptoK (P := fun k (_ : Unit) v => law17_SearchOrder.l1 t ns _ true _ k v) t.1.length (fun _ _ => True) ?_ ?_ () trivial
    · rintro i ⟨⟩ k hi _ hk
      have hpi := hpl ns (i : Int) (by omega) (by omega)
      rw [Int.toNat_natCast] at hpi
      have hInR : InR .i64 ((i : Int) + 1) := i64_of (by omega) (by omega)
      refine ⟨fun _ => ⟨_, hpi, fun _ => ⟨hInR, hk () trivial⟩, fun hp => ?_⟩, fun h => absurd (by omega) (df h)⟩
      have hmem : (i : Int) ∈ ns := by
        by_cases h : (i : Int) ∈ ns
        · exact h
        · rw [plc_no h] at hp; simp at hp
      obtain ⟨p, hpp, hpn⟩ := plc_in hmem
      have hpl' := (List.getElem?_eq_some_iff.1 hpn).1
      -- what is first
      let E : Nat → Prop := fun k' => ∃ x, ns[k']? = some x ∧ ∃ b, (b, (i : Int)) ∈ outs t x
      refine uptoK (P := fun k (f : Int) v => law17_SearchOrder.l2 t ns _ (i : Int) true _ k f v) ns.length (fun k' f => 0 ≤ f ∧ f ≤ (k' : Int) ∧ ∀ j, j < k' → E j → 1 ≤ f ∧ f ≤ (j : Int) + 1) ?_ ?_ 0 ⟨by omega, by omega, fun j hj => by omega⟩
      · rintro kk f k2 hkk ⟨hf0, hf1, hf2⟩ hk2
        obtain ⟨q, hq, hx⟩ := hget kk hkk
        have hxr := hr kk _ hx
        have hat := at_get hx
        have hnode := node_at hxr.1 hxr.2
        have hol : (outs t q.1).length ≤ 400 := hw.len _ hnode.2
        refine ⟨fun _ => ?_, fun h => absurd (by omega) (df h)⟩
        refine uptoK (P := fun k (f : Int) v => law17_SearchOrder.l3 t ns _ (i : Int) (kk : Int) true _ k f v) (outs t q.1).length (fun m f => 0 ≤ f ∧ f ≤ (kk : Int) + 1 ∧ (∀ j, j < kk → E j → 1 ≤ f ∧ f ≤ (j : Int) + 1) ∧ ∀ m', m' < m → ∀ e, (outs t q.1)[m']? = some e → e.2 = (i : Int) → 1 ≤ f) ?_ ?_ f ⟨hf0, by omega, hf2, fun m' hm' => by omega⟩
        · rintro m f' k3 hm ⟨g0, g1, g2, g3⟩ hk3
          have he := at_get (List.getElem?_eq_getElem hm)
          have hem := List.getElem_mem hm
          have her := outs_ok hw hxr.1 hxr.2 _ hem
          have hin := closed hw hq _ hem
          have hmem2 : (((outs t q.1)[m].2.toNat : Nat) : Int) ∈ ns := by
            rw [Int.toNat_of_nonneg her.2.1, hns]
            obtain ⟨q', hq', hqe⟩ := inQ_iff.1 hin
            exact List.mem_map.2 ⟨q', hq', hqe⟩
          obtain ⟨p2, hp2, _⟩ := plc_in hmem2
          have hpe := hpl ns _ her.2.1 her.2.2
          rw [hp2] at hpe
          have hI1 : InR .i64 ((kk : Int) + 1) := i64_of (by omega) (by omega)
          have hI2 : InR .i64 ((m : Int) + 1) := i64_of (by omega) (by omega)
          refine ⟨_, hat, _, hnode.1, fun _ => ⟨_, hat, _, hnode.1, _, he, _, hpe, fun h => by simp at h; omega, fun _ => ⟨fun hc => ⟨hI1, hI2, hk3 _ ⟨by omega, by omega, fun j hj hE => ?_, fun _ _ _ _ _ => by omega⟩⟩, fun hc => ⟨hI2, hk3 _ ⟨g0, g1, g2, fun m' hm' e hee h2 => ?_⟩⟩⟩⟩, fun h => absurd (by omega) (df h)⟩
          · simp at hc
            have := g2 j hj hE
            omega
          · by_cases hmm : m' < m
            · exact g3 m' hmm e hee h2
            · have : m' = m := by omega
              subst this
              rw [List.getElem?_eq_getElem hm] at hee
              cases hee
              simp [h2] at hc
              omega
        · rintro f' ⟨g0, g1, g2, g3⟩ k3
          refine ⟨_, hat, _, hnode.1, fun h => absurd (dt h) (by omega), fun _ => ⟨i64_of (by omega) (by omega), hk2 _ ⟨g0, by omega, fun j hj hE => ?_⟩⟩⟩
          by_cases hjk : j < kk
          · exact g2 j hjk hE
          · have : j = kk := by omega
            subst this
            obtain ⟨x, hx', b, hb'⟩ := hE
            rw [hx] at hx'; cases hx'
            obtain ⟨m', hm'⟩ := List.getElem?_of_mem hb'
            have := g3 m' (List.getElem?_eq_some_iff.1 hm').1 _ hm' rfl
            omega
      · rintro f ⟨hf0, hf1, hf2⟩ k2
        refine ⟨fun h => absurd (dt h) (by omega), fun _ => ?_⟩
        have hpi2 := hpi
        rw [hpp] at hpi2
        refine ⟨_, fun _ => hpi2, _, rfl, fun hc => ?_, fun _ => ⟨hInR, hk () trivial⟩⟩
        exfalso
        simp only [Bool.and_eq_true, bne_iff_ne, ne_eq, Bool.or_eq_true, beq_iff_eq, decide_eq_true_eq] at hc
        obtain ⟨hi0, hcc⟩ := hc
        -- the node's parent
        have hpq : ∃ q, (all17 t)[p]? = some q ∧ q.1 = (i : Int) := by
          obtain ⟨q, h1, h2⟩ := hget p hpl'
          rw [hpn] at h2
          exact ⟨q, h1, (Option.some.inj h2).symm⟩
        obtain ⟨q, hq, hqi⟩ := hpq
        rcases hg.par p q hq with ⟨_, rfl⟩ | ⟨p', q', h1, h2, h3, h4, h5⟩
        · exact hi0 hqi.symm
        · have hE : E p' := ⟨q'.1, by rw [hns, List.getElem?_map, h3]; rfl, q.2.2.1, by rw [← hqi]; exact h5⟩
          have := hf2 p' (by omega) hE
          omega
    · rintro ⟨⟩ _ k
      exact ⟨fun h => absurd (dt h) (by omega), fun _ => rfl⟩
end Go.Proofs.YtdfnbogkniikbaaDoor.V
