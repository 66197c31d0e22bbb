/-
  What item.Key computes.
-/
import Derived.Test.YtdfnbogkniikbaaDoorMK
import Derived.Test.YtdfnbogkniikbaaDoorY
import Derived.WalkKit
import Derived.Lib.AppendIntMem
import Derived.Lib.ItoaLen
namespace Go.Proofs.YtdfnbogkniikbaaDoor.V
open Go Go.Shelf Go.RowKit
set_option linter.unusedVariables false

theorem add_block (a : Addr) (k : Nat) : (a.add k).block = a.block := by unfold Addr.add; split <;> rfl
/-- The cells of a row of items, from an address on. -/
def ItemsAt (w : World) (a : Addr) (xs : List SItem) : Prop := a.block < w.heap.size ∧ ∀ (i : Nat) (x : SItem), xs[i]? = some x →
  w.cell? (a.add (i * 4)) = some (.int .i64 x.1) ∧ w.cell? ⟨(a.add (i * 4)).block, (a.add (i * 4)).off + 1, none⟩ = some (.int .i64 x.2.1) ∧ w.cell? ⟨(a.add (i * 4)).block, (a.add (i * 4)).off + 2, none⟩ = some (.int .i64 x.2.2.1) ∧ w.cell? ⟨(a.add (i * 4)).block, (a.add (i * 4)).off + 3, none⟩ = some (.int .i64 x.2.2.2)
theorem ItemsAt.below {w w' : World} {a : Addr} {xs : List SItem} (h : ItemsAt w a xs) {B : Nat} (hb : Below B w w') (hB : a.block < B) {i : Nat} {x : SItem} (hx : xs[i]? = some x) :
    w'.cell? (a.add (i * 4)) = some (.int .i64 x.1) ∧ w'.cell? ⟨(a.add (i * 4)).block, (a.add (i * 4)).off + 1, none⟩ = some (.int .i64 x.2.1) ∧ w'.cell? ⟨(a.add (i * 4)).block, (a.add (i * 4)).off + 2, none⟩ = some (.int .i64 x.2.2.1) ∧ w'.cell? ⟨(a.add (i * 4)).block, (a.add (i * 4)).off + 3, none⟩ = some (.int .i64 x.2.2.2) := by
  obtain ⟨h0, h1, h2, h3⟩ := h.2 i x hx
  refine ⟨?_, ?_, ?_, ?_⟩
  · rw [hb.cell (by rw [add_block]; exact hB)]; exact h0
  · rw [hb.cell (by show (a.add (i * 4)).block < B; rw [add_block]; exact hB)]; exact h1
  · rw [hb.cell (by show (a.add (i * 4)).block < B; rw [add_block]; exact hB)]; exact h2
  · rw [hb.cell (by show (a.add (i * 4)).block < B; rw [add_block]; exact hB)]; exact h3

theorem builder_below {B b : Nat} {bs : List Value} {W W' : World} (h : Lib.IsBuilderF 83 5 B b bs W) (hb : Below W.heap.size W W') : Lib.IsBuilderF 83 5 B b bs W' := by
  have one : ∀ p, Lib.BuilderAtF 83 5 B b p bs W → Lib.BuilderAtF 83 5 B b p bs W' := fun p hp => by
    have hlt := hp.lt
    obtain ⟨hB, v, hv, hown, hne⟩ := hp
    exact ⟨hB, v, (hb.block b hlt).trans hv, hown.kept (row := none) ⟨hb.os, hb.tape, hb.output, hb.size, fun k hk _ => hb.block k hk⟩ (Classical.em _), hne⟩
  exact h.elim (fun x => .inl (one _ x)) (fun x => .inr (one _ x))
theorem tab_below {B : Nat} {w w' : World} (h : Lib.TabIs Tryd.prog w "internal/strconv.uint64pow10" .u64 Lib.pow10Tab) (hb : Below B w w') (hB : 0 < B) : Lib.TabIs Tryd.prog w' "internal/strconv.uint64pow10" .u64 Lib.pow10Tab := by
  unfold Lib.TabIs World.var? at *
  have hg : Tryd.prog.globalNamed "internal/strconv.uint64pow10" = some 0 := by kernel_rfl
  rw [hg] at h ⊢
  simp only [Option.bind_some] at h ⊢
  rw [hb.block 0 hB]; exact h
theorem alloc2 (w : World) (o1 o2 : Obj) : ((w.alloc o1).alloc o2).heap[w.heap.size + 1]? = some o2 := by
  have := heap_alloc_new (w.alloc o1) o2
  rwa [show (w.alloc o1).heap.size = w.heap.size + 1 by simp] at this
theorem keyN_snoc (l : List Int) (z : Int) : keyN (l ++ [z]) = keyN l ++ (Lib.itoa z ++ [32]) := by simp [keyN]
theorem keyS_snoc (l : List SItem) (x : SItem) : keyS (l ++ [x]) = keyS l ++ keyN (nums4 x) := by simp [keyS, keyN, numsS]
theorem keyN_len {l : List Int} (h : ∀ z ∈ l, InR .i64 z) : (keyN l).length ≤ 22 * l.length := by
  induction l with
  | nil => simp [keyN]
  | cons z l ih =>
    have h1 := inR_i64.1 (h z (by simp))
    have h2 := Lib.itoa_length_le z h1.1 h1.2
    have h3 := ih fun y hy => h y (by simp [hy])
    have e : keyN (z :: l) = (Lib.itoa z ++ [32]) ++ keyN l := by simp [keyN]
    rw [e]
    simp only [List.length_append, List.length_cons, List.length_nil]
    omega
theorem numsS_len (l : List SItem) : (numsS l).length = 4 * l.length := by
  induction l with
  | nil => rfl
  | cons x l ih => simp only [numsS, List.flatMap_cons, List.length_append] at ih ⊢; rw [ih]; simp [nums4]; omega

set_option maxHeartbeats 4000000 in
set_option maxRecDepth 1000000 in
theorem key_walk (xs : List SItem) (a : Addr) (cap : Nat) (w : World) (hn : xs.length ≤ 1000) (hz : ∀ x ∈ xs, ∀ z ∈ nums4 x, InR .i64 z) (hc : ItemsAt w a xs) (htab : Lib.TabIs Tryd.prog w "internal/strconv.uint64pow10" .u64 Lib.pow10Tab) :
    Calls Tryd.prog 23 #[.slice (some a) xs.length cap] w fun e w' => e = .returned (.string ⟨(keyS xs).toArray⟩) ∧ Below w.heap.size w w' := by
  have hpos : 0 < w.heap.size := by have := hc.1; omega
  have hlen : ∀ i, (keyS (xs.take i)).length ≤ 88000 := fun i => by
    have h1 := keyN_len (l := numsS (xs.take i)) fun z hzz => by
      obtain ⟨x, hx, hzx⟩ := List.mem_flatMap.1 hzz
      exact hz x (List.mem_of_mem_take hx) z hzx
    have h2 := numsS_len (xs.take i)
    have h3 : (xs.take i).length ≤ xs.length := by simp; omega
    show (keyN (numsS (xs.take i))).length ≤ _
    omega
  go_enter Tryd.func23, Tryd.ntmps23
  go_wp2
  go_loopw [10] (fun v10 wr => ∃ i : Nat, v10 = .int .i64 i ∧ i ≤ xs.length ∧ Lib.IsBuilderF 83 5 w.heap.size w.heap.size (Lib.byteCells (keyS (xs.take i))) wr ∧ Below w.heap.size w wr) (fun v10 _ => xs.length - (Lib.intOf v10).toNat)
  case atStart =>
    refine ⟨0, rfl, Nat.zero_le _, Lib.IsBuilderF.of (Lib.fresh_isBuilder 83 5 w), (Below.refl _ w).alloc (Nat.le_refl _) _⟩
  case round =>
    obtain ⟨i, rfl, hi, hB, hbw⟩ := hrel
    obtain ⟨wo, hwo⟩ : ∃ wo, wo = wr := ⟨wr, rfl⟩
    subst hwo
    by_cases hlt : i < xs.length
    · obtain ⟨x, hx⟩ : ∃ x, xs[i]? = some x := ⟨xs[i], by simp [hlt]⟩
      have hxm : x ∈ xs := List.mem_of_getElem? hx
      obtain ⟨c0, c1, c2, c3⟩ := hc.below hbw hc.1 hx
      have hsz := hbw.size
      have hli := hlen i
      go_wp2
      go_loopw [24] (fun v24 wi => ∃ j : Nat, v24 = .int .i64 j ∧ j ≤ 4 ∧ Lib.IsBuilderF 83 5 w.heap.size w.heap.size (Lib.byteCells (keyS (xs.take i) ++ keyN ((nums4 x).take j))) wi ∧ wi.heap[wo.heap.size + 1]? = some (.cells #[.int .i64 x.1, .int .i64 x.2.1, .int .i64 x.2.2.1, .int .i64 x.2.2.2] 3 (0, 0)) ∧ Below w.heap.size w wi) (fun v24 _ => 4 - (Lib.intOf v24).toNat)
      case atStart =>
        refine ⟨0, rfl, by omega, ?_, ?_, ?_⟩
        · have : keyS (xs.take i) ++ keyN ((nums4 x).take 0) = keyS (xs.take i) := by simp [keyN]
          rw [this]
          exact (hB.alloc _).alloc _
        · exact alloc2 wo _ _
        · exact (hbw.alloc hsz _).alloc (by simp; omega) _
      case round =>
        obtain ⟨j, rfl, hj, hBi, hgi, hbi⟩ := hrel
        by_cases hjl : j < 4
        · obtain ⟨z, hzj⟩ : ∃ z, (nums4 x)[j]? = some z := ⟨(nums4 x)[j]'(by simpa [nums4] using hjl), by simp [nums4, hjl]⟩
          have hzr := inR_i64.1 (hz x hxm z (List.mem_of_getElem? hzj))
          have hil := Lib.itoa_length_le z hzr.1 hzr.2
          have hll : (keyS (xs.take i) ++ keyN ((nums4 x).take j)).length ≤ 88088 := by
            have h1 := keyN_len (l := (nums4 x).take j) fun y hy => hz x hxm y (List.mem_of_mem_take hy)
            have h2 : ((nums4 x).take j).length ≤ 4 := by simp [nums4]; omega
            rw [List.length_append]; omega
          have hcell : wr.cell? ⟨wo.heap.size + 1, j, none⟩ = some (.int .i64 z) := by
            have e : (#[Value.int .i64 x.1, .int .i64 x.2.1, .int .i64 x.2.2.1, .int .i64 x.2.2.2] : Array Value)[j]? = ((nums4 x).map (Value.int .i64))[j]? := by simp [nums4]
            rw [cell_of_row wr (wo.heap.size + 1) _ _ 3 (0, 0) hgi, e, List.getElem?_map, hzj]; rfl
          have hszi := hbi.size
          have htk : keyS (xs.take i) ++ keyN ((nums4 x).take (j + 1)) = (keyS (xs.take i) ++ keyN ((nums4 x).take j)) ++ (Lib.itoa z ++ [32]) := by
            rw [List.take_add_one, hzj, Option.toList_some, keyN_snoc, List.append_assoc]
          generalize hK : keyS (xs.take i) ++ keyN ((nums4 x).take j) = K at *
          go_wp2_with (go_at_call 46; refine (b_itoa z hzr.1 hzr.2 _ (tab_below htab hbi hpos)).mono ?_; rintro e w1 ⟨rfl, k, os, rfl⟩; refine Hid.out ?_)
          refine Lib.hid ?_
          have hb1 : Below wr.heap.size wr (Sort.grow (wr.drewN k) os) := Lib.below_grow _ wr (Nat.le_refl _) k os
          generalize Sort.grow (wr.drewN k) os = W1 at *
          have hB1 := builder_below hBi hb1
          have hgl : wo.heap.size + 1 < wr.heap.size := (Array.getElem?_eq_some_iff.1 hgi).1
          have hg1 := (hb1.block _ hgl).trans hgi
          have hbi1 := hbi.trans (hb1.mono hszi)
          have hsz1 := hbi1.size
          go_wp2_with (go_at_call 45; refine (b_text w.heap.size w.heap.size _ ⟨(Lib.itoa z).toArray⟩ W1 hB1 (by rw [Lib.byteCells_length]; show K.length + (Lib.itoa z).toArray.size ≤ _; simp; omega) hsz1).mono ?_; rintro e w2 ⟨rfl, h2, b2, k2⟩; refine Hid.out ?_)
          refine Lib.hid ?_
          have hB2 : Lib.IsBuilderF 83 5 w.heap.size w.heap.size (Lib.byteCells (K ++ Lib.itoa z)) w2 := by rw [Lib.byteCells_append]; exact .inr h2
          have hg2 := k2 _ _ hg1 (by simp; omega) (by intro c fz he; cases he)
          have hsz2 := (hbi1.trans b2).size
          go_wp2_with (go_at_call 47; refine (b_byte w.heap.size w.heap.size _ 32 w2 hB2 (by rw [Lib.byteCells_length, List.length_append]; omega) hsz2).mono ?_; rintro e w3 ⟨rfl, h3, b3, k3⟩; refine Hid.out ?_)
          refine Lib.hid ?_
          have hB3 : Lib.IsBuilderF 83 5 w.heap.size w.heap.size (Lib.byteCells (K ++ (Lib.itoa z ++ [32]))) w3 := by
            rw [← List.append_assoc, Lib.byteCells_append]; exact .inr h3
          have hg3 := k3 _ _ hg2 (by simp; omega) (by intro c fz he; cases he)
          have hb3 := (hbi1.trans b2).trans b3
          go_wp2
          go_roundw
          case rel => exact ⟨j + 1, rfl, by omega, by rw [htk]; exact hB3, hg3, hb3⟩
          case measure => simp [Lib.intOf]; omega
        · have hj4 : j = 4 := by omega
          subst hj4
          go_wp2
          go_roundw
          case rel =>
            refine ⟨i + 1, rfl, by omega, ?_, hbi⟩
            have e : xs.take (i + 1) = xs.take i ++ [x] := by rw [List.take_add_one, hx]; rfl
            rw [e, keyS_snoc]
            have e4 : (nums4 x).take 4 = nums4 x := rfl
            rw [e4] at hBi; exact hBi
          case measure => simp [Lib.intOf]; omega
    · have hin : i = xs.length := by omega
      subst hin
      go_wp2_with (go_at_call 48; refine (b_string w.heap.size w.heap.size _ _ hB hbw.size).mono ?_)
      rintro e W1 ⟨rfl, _, b1, _⟩
      go_wp2
      go_ret
      exact ⟨by simp, hbw.trans b1⟩

set_option maxHeartbeats 4000000 in
set_option maxRecDepth 1000000 in
theorem key_none (ad : Option Addr) (cap : Nat) (w : World) : Calls Tryd.prog 23 #[.slice ad 0 cap] w fun e w' => e = .returned (.string ⟨#[]⟩) ∧ Below w.heap.size w w' := by
  go_enter Tryd.func23, Tryd.ntmps23
  go_wp2
  go_loopw [10] (fun v10 wr => v10 = .int .i64 0 ∧ Lib.IsBuilderF 83 5 w.heap.size w.heap.size (Lib.byteCells []) wr ∧ Below w.heap.size w wr) (fun _ _ => 0)
  case atStart =>
    exact ⟨rfl, Lib.IsBuilderF.of (Lib.fresh_isBuilder 83 5 w), (Below.refl _ w).alloc (Nat.le_refl _) _⟩
  case round =>
    obtain ⟨rfl, hB, hbw⟩ := hrel
    go_wp2_with (go_at_call 48; refine (b_string w.heap.size w.heap.size _ _ hB hbw.size).mono ?_)
    rintro e W1 ⟨rfl, _, b1, _⟩
    go_wp2
    go_ret
    exact ⟨rfl, hbw.trans b1⟩

theorem items_at {w : World} {S : Nat → Prop} {v : Value} {xs : List SItem} (h : SlV En.SItem w S v xs) (hS : ∀ b, S b → b < w.heap.size) (hne : xs ≠ []) : ∃ a cap, v = .slice (some a) xs.length cap ∧ ItemsAt w a xs ∧ ∀ x ∈ xs, ∀ z ∈ nums4 x, InR .i64 z := by
  obtain ⟨ad, cap, rfl, h1, h2, h3, h4⟩ := h
  obtain ⟨b, off, css, rfl, hb, hE, hc⟩ := h4 hne
  have key : ∀ (i : Nat) (x : SItem), xs[i]? = some x → ∃ p q r t : Int, x = (p, q, r, t) ∧ InR .i64 p ∧ InR .i64 q ∧ InR .i64 r ∧ InR .i64 t ∧ css[i]? = some [.int .i64 p, .int .i64 q, .int .i64 r, .int .i64 t] := by
    intro i x hx
    have hlt : i < xs.length := (List.getElem?_eq_some_iff.1 hx).1
    obtain ⟨cs, hcs⟩ : ∃ cs, css[i]? = some cs := ⟨css[i]'(by rw [hE.1]; exact hlt), by simp⟩
    obtain ⟨c0, r0, rfl, ⟨rfl, i0⟩, c1, r1, rfl, ⟨rfl, i1⟩, c2, c3, rfl, ⟨rfl, i2⟩, ⟨rfl, i3⟩⟩ := hE.2 i cs x hcs hx
    exact ⟨_, _, _, _, rfl, i0, i1, i2, i3, hcs⟩
  refine ⟨⟨b, off, none⟩, cap, rfl, ⟨hS b hb, fun i x hx => ?_⟩, fun x hx z hz => ?_⟩
  · obtain ⟨p, q, r, t, rfl, _, _, _, _, hcs⟩ := key i x hx
    have hf := fun (j : Nat) (u : Value) (hu : [Value.int .i64 p, .int .i64 q, .int .i64 r, .int .i64 t][j]? = some u) => hc _ u (flat_get hE.lens hcs hu)
    have hsz : En.SItem.sz = 4 := rfl
    rw [hsz] at hf
    rw [add_lit]
    refine ⟨hf 0 _ rfl, ?_, ?_, ?_⟩
    · have := hf 1 _ rfl; rw [← Nat.add_assoc] at this; exact this
    · have := hf 2 _ rfl; rw [← Nat.add_assoc] at this; exact this
    · have := hf 3 _ rfl; rw [← Nat.add_assoc] at this; exact this
  · obtain ⟨i, hi⟩ := List.getElem?_of_mem hx
    obtain ⟨p, q, r, t, rfl, i0, i1, i2, i3, _⟩ := key i x hi
    simp only [nums4, List.mem_cons, List.not_mem_nil, or_false] at hz
    rcases hz with rfl | rfl | rfl | rfl <;> assumption

theorem keyS_len {l : List SItem} (h : ∀ x ∈ l, ∀ z ∈ nums4 x, InR .i64 z) : (keyS l).length ≤ 88 * l.length := by
  have h1 := keyN_len (l := numsS l) fun z hzz => by
    obtain ⟨x, hx, hzx⟩ := List.mem_flatMap.1 hzz
    exact h x hx z hzx
  have h2 := numsS_len l
  show (keyN (numsS l)).length ≤ _
  omega

theorem item_Key_ok {s_ : (List SItem)} {r_ : Str} (h : item_Key s_ r_) : Fn Tryd.prog 23 [(Pd.rep (En.slice En.SItem) s_)] (Rq (Pd.rep En.str r_)) := by
  obtain ⟨hn, rfl⟩ := h
  refine ⟨call_of Tryd.func23 rfl (by rfl), fun s vs hgl hv => ?_⟩
  match vs, hv with
  | [v], ⟨hv, _⟩ =>
    have hsl := rep_slice.1 hv
    have fin : ∀ (x : Str) (w' : World), x.length ≤ 9223372036854775807 → Below s.w.heap.size s.w w' → ∃ (v : Value) (s' : St), Ending.returned (.string ⟨x.toArray⟩) = .returned v ∧ s'.w = w' ∧ Ex s s' ∧ Rq (Pd.rep En.str x) s s' v := fun x w' hx hb =>
      ⟨_, ⟨w', s.X, fun b hb' => Nat.lt_of_lt_of_le (s.lt b hb') hb.size⟩, rfl, rfl, ⟨⟨hb.os, hb.tape, hb.output, hb.size, fun b hb' _ => hb.block b hb', fun _ h => h.elim, fun b h => .inl h⟩, fun b h => h⟩, rep_str.2 ⟨rfl, hx⟩⟩
    by_cases hne : s_ = []
    · subst hne
      obtain ⟨ad, cap, rfl, _⟩ := hsl
      refine (key_none ad cap s.w).mono fun e w' ⟨he, hb⟩ => ?_
      subst he
      exact fin [] w' (by simp) hb
    · obtain ⟨a, cap, rfl, hat, hz⟩ := items_at hsl (fun b hb => hb.1) hne
      have htab : Lib.TabIs Tryd.prog s.w "internal/strconv.uint64pow10" .u64 Lib.pow10Tab := by
        obtain ⟨_, t, fr, h2⟩ := hgl _ (by unfold gtab; exact List.mem_singleton.2 rfl)
        unfold Lib.TabIs World.var?
        have hg : Tryd.prog.globalNamed "internal/strconv.uint64pow10" = some 0 := by kernel_rfl
        rw [hg]
        simp only [Option.bind_some]
        rw [h2]
        simp [Lib.pow10Tab]
      have hl := keyS_len hz
      refine (key_walk s_ a cap s.w hn hz hat htab).mono fun e w' ⟨he, hb⟩ => ?_
      subst he
      exact fin _ w' (by omega) hb
end Go.Proofs.YtdfnbogkniikbaaDoor.V
