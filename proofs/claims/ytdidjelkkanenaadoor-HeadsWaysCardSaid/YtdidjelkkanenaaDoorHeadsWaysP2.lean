/-
  The texts that the law's proof needs, part 2.
-/
import Derived.BigCall
import Derived.Lib.AppendIntMem
import Derived.Lib.ItoaLen
import Derived.Shelf.LaysM
import Derived.Shelf.Strconv.Itoa3
import Derived.Shelf.Strings.BuilderK
import Derived.WalkKit
import Derived.Test.YtdidjelkkanenaaDoorHeadsWaysP1
namespace Go.Proofs.YtdidjelkkanenaaDoor.V
open Go Go.Shelf Go.RowKit
set_option linter.unusedVariables false
theorem bx169 : Builder.Extra Tryd.prog sl169_ren where
  sizeBuilder := by kernel_rfl
  liesBuilder := by kernel_rfl
  t5 := Tryd.underlying5
  a5 := Tryd.isAgg5
  z5 := Tryd.sizeOf5
  v5 := Tryd.zeroValue5
  infoByte := by kernel_rfl
  cellsByte := by kernel_rfl
  sizeByte := by kernel_rfl
  neB5 := by decide
theorem b_string (B b : Nat) (l : List UInt8) (w : World) (h : Lib.IsBuilderF 113 5 B b (Lib.byteCells l) w) (hBw : B ≤ w.heap.size) :
    Calls Tryd.prog 75 #[.pointer (some ⟨b, 0, none⟩)] w fun e w' => e = .returned (.string ⟨l.toArray⟩) ∧ (Lib.IsBuilderF 113 5 B b (Lib.byteCells l) w' ∧ Below B w w' ∧ Lib.OthersKept 5 (some b) w w') := Any.Builder_String_any_k sl169 bx169 B b l w h hBw
theorem b_itoa (n : Int) (h0 : -9223372036854775808 ≤ n) (h1 : n ≤ 9223372036854775807) (w : World) (htab : Lib.TabIs Tryd.prog w "internal/strconv.uint64pow10" .u64 Lib.pow10Tab) :
    Calls Tryd.prog 73 #[.int .i64 n] w fun e w' => e = .returned (.string ⟨(Lib.itoa n).toArray⟩) ∧ ∃ k os, w' = Sort.grow (w.drewN k) os := Any.strconv_Itoa sl171 n h0 h1 w htab
set_option maxHeartbeats 1000000 in
set_option maxRecDepth 100000 in
theorem b_used (b : Nat) (w : World) (h0 : w.cell? ⟨b, 0, none⟩ = some (.pointer (some ⟨b, 0, none⟩))) :
    Calls Tryd.prog 94 #[.pointer (some ⟨b, 0, none⟩)] w fun e w' => e = .returned (.tuple #[]) ∧ w' = w := by
  obtain ⟨j, hj, _⟩ := Option.map_eq_some_iff.1 bx169.sizeBuilder
  go_enter Tryd.func94, Tryd.ntmps94
  go_wp2
  rw [Lib.run_neq_ptr_same w _ Tryd.underlying111 hj]
  go_wp2
  go_end0
  exact ⟨rfl, rfl⟩
set_option maxHeartbeats 1000000 in
set_option maxRecDepth 100000 in
theorem b_fresh (b : Nat) (w : World) (h0 : w.cell? ⟨b, 0, none⟩ = some (.pointer none)) (hsh : w.shape? b = some (113, 2)) (hfz : w.frozen? ⟨b, 0, none⟩ = false) :
    Calls Tryd.prog 94 #[.pointer (some ⟨b, 0, none⟩)] w fun e w' => e = .returned (.tuple #[]) ∧ w' = w.setCell ⟨b, 0, none⟩ (.pointer (some ⟨b, 0, none⟩)) := by
  obtain ⟨j, hj, hjs⟩ := Option.map_eq_some_iff.1 bx169.sizeBuilder
  go_enter Tryd.func94, Tryd.ntmps94
  go_wp2
  rw [Lib.run_to_unsafe w ⟨b, 0, none⟩ Tryd.underlying111 Tryd.underlying146 hj (by rw [hjs]; decide) hsh (Nat.zero_lt_succ 1)]
  simp only [Result.andThen]
  rw [Oper.upon_value]
  go_wp2
  rw [run_callFunc_extern Tryd.func102 (by kernel_rfl) (by kernel_rfl) (by kernel_rfl) (e := Extern.AbiNoEscape.same) (by kernel_rfl)]
  rw [Lib.run_noEscape]
  simp only [Result.andThen]
  rw [Oper.upon_value]
  go_wp2
  rw [Lib.run_from_unsafe w ⟨b, 0, none⟩ Tryd.underlying146 Tryd.underlying111 hj hsh bx169.liesBuilder]
  simp only [Result.andThen]
  rw [Oper.upon_value]
  go_wp2
  go_end0
  exact ⟨rfl, rfl⟩
theorem b_check (B b : Nat) (bs : List Value) (w : World) (h : Lib.IsBuilderF 113 5 B b bs w) :
    Calls Tryd.prog 94 #[.pointer (some ⟨b, 0, none⟩)] w fun e w' => e = .returned (.tuple #[]) ∧ (Lib.BuilderAtF 113 5 B b (.pointer (some ⟨b, 0, none⟩)) bs w' ∧ Below B w w' ∧ Lib.OthersKept 5 (some b) w w') := by
  rcases h with h | h
  · refine (b_fresh b w h.cell0 h.shape h.frozen0).mono ?_
    rintro e w' ⟨rfl, rfl⟩
    exact ⟨rfl, h.used _, (Below.refl B w).setCell (p := ⟨b, 0, none⟩) h.1 _, (Lib.OthersKept.refl _ _ w).setCell ⟨b, 0, none⟩ rfl _⟩
  · refine (b_used b w h.cell0).mono ?_
    rintro e w' ⟨rfl, rfl⟩
    exact ⟨rfl, h, Below.refl B _, Lib.OthersKept.refl _ _ _⟩
set_option maxHeartbeats 2000000 in
set_option maxRecDepth 100000 in
theorem b_byte (B b : Nat) (bs : List Value) (c : Int) (w : World) (h : Lib.IsBuilderF 113 5 B b bs w) (hlen : bs.length + 1 ≤ 140737488355328) (hBw : B ≤ w.heap.size) :
    Calls Tryd.prog 74 #[.pointer (some ⟨b, 0, none⟩), .int .u8 c] w fun e w' => e = .returned .nilIface ∧ (Lib.BuilderAtF 113 5 B b (.pointer (some ⟨b, 0, none⟩)) (bs ++ [.int .u8 c]) w' ∧ Below B w w' ∧ Lib.OthersKept 5 (some b) w w') := by
  obtain ⟨i0, hi, hz0, hz1, hz2⟩ := info_parts bx169.infoByte
  go_enter Tryd.func74, Tryd.ntmps74
  go_wp2_with (go_at_call 94; refine (b_check B b bs _ h).mono ?_)
  rintro e w1 ⟨rfl, h1, hb1, hk1⟩
  obtain ⟨hB, v, hbk, hown, hne⟩ := h1
  have c0 : w1.cell? ⟨b, 0, none⟩ = some (.pointer (some ⟨b, 0, none⟩)) := by rw [Lib.cell_of_heap hbk]; rfl
  have c1 : w1.cell? ⟨b, 1, none⟩ = some v := by rw [Lib.cell_of_heap hbk]; rfl
  go_wp2_with (at_builtin; refine wpList_append_ownF _ rfl _ _ 53 rfl B 5 i0 (.int .u8 0) 1 1 Tryd.underlying53 hi hz0 hz1 hz2 rfl (by decide) _ _ _ rfl (hown.alloc _) ⟨w1.heap.size, 0, none⟩ 1 1 [.int .u8 c] rfl rfl ?c1 ?c2 ?c3 ?c4 ?c5 ?_)
  case c1 =>
    intro j u hj
    match j, hj with
    | 0, hj => simp at hj; subst hj; simp [Addr.add]
  case c2 => intro u hu; simp at hu; subst hu; rfl
  case c3 => unfold maxLen; omega
  case c4 => omega
  case c5 => have := hb1.size; simp; omega
  intro v' w2 hown' hgrow _
  have hlt : b < w1.heap.size := (Array.getElem?_eq_some_iff.1 hbk).1
  have hb2 : w2.heap[b]? = some (.cells #[.pointer (some ⟨b, 0, none⟩), v] 113 (0, 0)) := by
    rw [hgrow.block b (by simp; omega) (fun e => hne e.symm), Lib.alloc_old w1 _ b hlt]
    exact hbk
  have d0 : w2.cell? ⟨b, 0, none⟩ = some (.pointer (some ⟨b, 0, none⟩)) := by rw [Lib.cell_of_heap hb2]; rfl
  have d1 : w2.cell? ⟨b, 1, none⟩ = some v := by rw [Lib.cell_of_heap hb2]; rfl
  have f1 : w2.frozen? ⟨b, 1, none⟩ = false := Lib.frozen_of_heap hb2 1
  obtain ⟨g, cap, rfl⟩ : ∃ g cap, v' = .slice (some ⟨g, 0, none⟩) (bs.length + 1) cap := by
    rcases hown'.2 with ⟨_, h0⟩ | ⟨g, cap, cur, fz, hv, _⟩
    · omega
    · exact ⟨g, cap, hv⟩
  go_wp2
  go_ret
  refine ⟨rfl, ?_, ?_, ((hk1.alloc _).grown hgrow (Lib.ownsRowF_kind (hown.alloc _))).setCell ⟨b, 1, none⟩ rfl _⟩
  · exact Lib.BuilderAtF.put (T := 113) (e := 5) hB hb2 (bs' := bs ++ [.int .u8 c]) (by simpa using hown') (by decide)
  · exact ((hb1.alloc (by have := hb1.size; omega) _).grown hgrow (by have := hb1.size; simp; omega) (fun k hk => (hown.lt k hk).1)).setCell (p := ⟨b, 1, none⟩) hB _
set_option maxHeartbeats 2000000 in
set_option maxRecDepth 100000 in
theorem b_text (B b : Nat) (bs : List Value) (s : ByteArray) (w : World) (h : Lib.IsBuilderF 113 5 B b bs w) (hlen : bs.length + s.size ≤ 140737488355328) (hBw : B ≤ w.heap.size) :
    Calls Tryd.prog 72 #[.pointer (some ⟨b, 0, none⟩), .string s] w fun e w' => e = .returned (.tuple #[.int .i64 s.size, .nilIface]) ∧ (Lib.BuilderAtF 113 5 B b (.pointer (some ⟨b, 0, none⟩)) (bs ++ Lib.strCells s) w' ∧ Below B w w' ∧ Lib.OthersKept 5 (some b) w w') := by
  obtain ⟨i0, hi, hz0, hz1, hz2⟩ := info_parts bx169.infoByte
  go_enter Tryd.func72, Tryd.ntmps72
  go_wp2_with (go_at_call 94; refine (b_check B b bs _ h).mono ?_)
  rintro e w1 ⟨rfl, h1, hb1, hk1⟩
  obtain ⟨hB, v, hbk, hown, hne⟩ := h1
  have c0 : w1.cell? ⟨b, 0, none⟩ = some (.pointer (some ⟨b, 0, none⟩)) := by rw [Lib.cell_of_heap hbk]; rfl
  have c1 : w1.cell? ⟨b, 1, none⟩ = some v := by rw [Lib.cell_of_heap hbk]; rfl
  go_wp2_with (at_builtin; refine Lib.wpList_append_own_stringF _ rfl _ _ 53 9 rfl B 5 i0 Tryd.underlying53 Tryd.underlying9 hi hz0 hz1 hz2 _ _ _ rfl hown s rfl ?c3 ?c4 ?c5 ?_)
  case c3 => unfold maxLen; omega
  case c4 => omega
  case c5 => have := hb1.size; omega
  intro v' w2 hown' hgrow _
  have hlt : b < w1.heap.size := (Array.getElem?_eq_some_iff.1 hbk).1
  have hb2 : w2.heap[b]? = some (.cells #[.pointer (some ⟨b, 0, none⟩), v] 113 (0, 0)) := by
    rw [hgrow.block b hlt (fun e => hne e.symm)]
    exact hbk
  have d0 : w2.cell? ⟨b, 0, none⟩ = some (.pointer (some ⟨b, 0, none⟩)) := by rw [Lib.cell_of_heap hb2]; rfl
  have d1 : w2.cell? ⟨b, 1, none⟩ = some v := by rw [Lib.cell_of_heap hb2]; rfl
  have f1 : w2.frozen? ⟨b, 1, none⟩ = false := Lib.frozen_of_heap hb2 1
  obtain ⟨ao, n', cap, rfl⟩ : ∃ ao n' cap, v' = .slice ao n' cap := by
    rcases hown'.2 with ⟨hv, _⟩ | ⟨g, cap, cur, fz, hv, _⟩
    · exact ⟨_, _, _, hv⟩
    · exact ⟨_, _, _, hv⟩
  go_wp2
  go_ret2
  refine ⟨rfl, ?_, ?_, (hk1.grown hgrow (Lib.ownsRowF_kind hown)).setCell ⟨b, 1, none⟩ rfl _⟩
  · exact Lib.BuilderAtF.put (T := 113) (e := 5) hB hb2 (bs' := bs ++ Lib.strCells s) (by simpa [Lib.strCells_length] using hown') (by decide)
  · exact (hb1.grown hgrow (by have := hb1.size; omega) (fun k hk => (hown.lt k hk).1)).setCell (p := ⟨b, 1, none⟩) hB _
end Go.Proofs.YtdidjelkkanenaaDoor.V
namespace Go.Proofs.YtdidjelkkanenaaDoor.V
open Go Go.Shelf Go.RowKit
set_option linter.unusedVariables false
theorem add_block (a : Addr) (k : Nat) : (a.add k).block = a.block := by unfold Addr.add; split <;> rfl
def ItemsAt (w : World) (a : Addr) (xs : List SItem) : Prop := a.block < w.heap.size ∧ ∀ (i : Nat) (x : SItem), xs[i]? = some x →
  w.cell? (a.add (i * 4)) = some (.int .i64 x.1) ∧ w.cell? ⟨(a.add (i * 4)).block, (a.add (i * 4)).off + 1, none⟩ = some (.int .i64 x.2.1) ∧ w.cell? ⟨(a.add (i * 4)).block, (a.add (i * 4)).off + 2, none⟩ = some (.int .i64 x.2.2.1) ∧ w.cell? ⟨(a.add (i * 4)).block, (a.add (i * 4)).off + 3, none⟩ = some (.int .i64 x.2.2.2)
theorem ItemsAt.below {w w' : World} {a : Addr} {xs : List SItem} (h : ItemsAt w a xs) {B : Nat} (hb : Below B w w') (hB : a.block < B) {i : Nat} {x : SItem} (hx : xs[i]? = some x) :
    w'.cell? (a.add (i * 4)) = some (.int .i64 x.1) ∧ w'.cell? ⟨(a.add (i * 4)).block, (a.add (i * 4)).off + 1, none⟩ = some (.int .i64 x.2.1) ∧ w'.cell? ⟨(a.add (i * 4)).block, (a.add (i * 4)).off + 2, none⟩ = some (.int .i64 x.2.2.1) ∧ w'.cell? ⟨(a.add (i * 4)).block, (a.add (i * 4)).off + 3, none⟩ = some (.int .i64 x.2.2.2) := by
  obtain ⟨h0, h1, h2, h3⟩ := h.2 i x hx
  refine ⟨?_, ?_, ?_, ?_⟩
  · rw [hb.cell (by rw [add_block]; exact hB)]; exact h0
  · rw [hb.cell (by show (a.add (i * 4)).block < B; rw [add_block]; exact hB)]; exact h1
  · rw [hb.cell (by show (a.add (i * 4)).block < B; rw [add_block]; exact hB)]; exact h2
  · rw [hb.cell (by show (a.add (i * 4)).block < B; rw [add_block]; exact hB)]; exact h3
theorem builder_below {B b : Nat} {bs : List Value} {W W' : World} (h : Lib.IsBuilderF 113 5 B b bs W) (hb : Below W.heap.size W W') : Lib.IsBuilderF 113 5 B b bs W' := by
  have one : ∀ p, Lib.BuilderAtF 113 5 B b p bs W → Lib.BuilderAtF 113 5 B b p bs W' := fun p hp => by
    have hlt := hp.lt
    obtain ⟨hB, v, hv, hown, hne⟩ := hp
    exact ⟨hB, v, (hb.block b hlt).trans hv, hown.kept (row := none) ⟨hb.os, hb.tape, hb.output, hb.size, fun k hk _ => hb.block k hk⟩ (Classical.em _), hne⟩
  exact h.elim (fun x => .inl (one _ x)) (fun x => .inr (one _ x))
theorem tab_below {B : Nat} {w w' : World} (h : Lib.TabIs Tryd.prog w "internal/strconv.uint64pow10" .u64 Lib.pow10Tab) (hb : Below B w w') (hB : 2 < B) : Lib.TabIs Tryd.prog w' "internal/strconv.uint64pow10" .u64 Lib.pow10Tab := by
  unfold Lib.TabIs World.var? at *
  have hg : Tryd.prog.globalNamed "internal/strconv.uint64pow10" = some 2 := by kernel_rfl
  rw [hg] at h ⊢
  simp only [Option.bind_some] at h ⊢
  rw [hb.block 2 hB]; exact h
theorem alloc2 (w : World) (o1 o2 : Obj) : ((w.alloc o1).alloc o2).heap[w.heap.size + 1]? = some o2 := by
  have := heap_alloc_new (w.alloc o1) o2
  rwa [show (w.alloc o1).heap.size = w.heap.size + 1 by simp] at this
theorem keyN_snoc (l : List Int) (z : Int) : keyN (l ++ [z]) = keyN l ++ (Lib.itoa z ++ [32]) := by simp [keyN]
theorem keyS_snoc (l : List SItem) (x : SItem) : keyS (l ++ [x]) = keyS l ++ keyN (nums4 x) := by simp [keyS, keyN, numsS]
theorem keyN_len {l : List Int} (h : ∀ z ∈ l, InR .i64 z) : (keyN l).length ≤ 22 * l.length := by
  induction l with
  | nil => simp [keyN]
  | cons z l ih =>
    have h1 := inR_i64.1 (h z (by simp))
    have h2 := Lib.itoa_length_le z h1.1 h1.2
    have h3 := ih fun y hy => h y (by simp [hy])
    have e : keyN (z :: l) = (Lib.itoa z ++ [32]) ++ keyN l := by simp [keyN]
    rw [e]
    simp only [List.length_append, List.length_cons, List.length_nil]
    omega
theorem numsS_len (l : List SItem) : (numsS l).length = 4 * l.length := by
  induction l with
  | nil => rfl
  | cons x l ih => simp only [numsS, List.flatMap_cons, List.length_append] at ih ⊢; rw [ih]; simp [nums4]; omega
set_option maxHeartbeats 4000000 in
set_option maxRecDepth 1000000 in
theorem key_walk (xs : List SItem) (a : Addr) (cap : Nat) (w : World) (hn : xs.length ≤ 1000) (hz : ∀ x ∈ xs, ∀ z ∈ nums4 x, InR .i64 z) (hc : ItemsAt w a xs) (htab : Lib.TabIs Tryd.prog w "internal/strconv.uint64pow10" .u64 Lib.pow10Tab) :
    Calls Tryd.prog 56 #[.slice (some a) xs.length cap] w fun e w' => e = .returned (.string ⟨(keyS xs).toArray⟩) ∧ Below w.heap.size w w' := by
  have hpos : 2 < w.heap.size := by
    have h := htab
    unfold Lib.TabIs World.var? at h
    have hg : Tryd.prog.globalNamed "internal/strconv.uint64pow10" = some 2 := by kernel_rfl
    rw [hg] at h
    simp only [Option.bind_some] at h
    rcases Nat.lt_or_ge 2 w.heap.size with hh | hh
    · exact hh
    · rw [Array.getElem?_eq_none hh] at h; cases h
  have hlen : ∀ i, (keyS (xs.take i)).length ≤ 88000 := fun i => by
    have h1 := keyN_len (l := numsS (xs.take i)) fun z hzz => by
      obtain ⟨x, hx, hzx⟩ := List.mem_flatMap.1 hzz
      exact hz x (List.mem_of_mem_take hx) z hzx
    have h2 := numsS_len (xs.take i)
    have h3 : (xs.take i).length ≤ xs.length := by simp; omega
    show (keyN (numsS (xs.take i))).length ≤ _
    omega
  go_enter Tryd.func56, Tryd.ntmps56
  go_wp2
  go_loopw [10] (fun v10 wr => ∃ i : Nat, v10 = .int .i64 i ∧ i ≤ xs.length ∧ Lib.IsBuilderF 113 5 w.heap.size w.heap.size (Lib.byteCells (keyS (xs.take i))) wr ∧ Below w.heap.size w wr) (fun v10 _ => xs.length - (Lib.intOf v10).toNat)
  case atStart =>
    refine ⟨0, rfl, Nat.zero_le _, Lib.IsBuilderF.of (Lib.fresh_isBuilder 113 5 w), (Below.refl _ w).alloc (Nat.le_refl _) _⟩
  case round =>
    obtain ⟨i, rfl, hi, hB, hbw⟩ := hrel
    obtain ⟨wo, hwo⟩ : ∃ wo, wo = wr := ⟨wr, rfl⟩
    subst hwo
    by_cases hlt : i < xs.length
    · obtain ⟨x, hx⟩ : ∃ x, xs[i]? = some x := ⟨xs[i], by simp [hlt]⟩
      have hxm : x ∈ xs := List.mem_of_getElem? hx
      obtain ⟨c0, c1, c2, c3⟩ := hc.below hbw hc.1 hx
      have hsz := hbw.size
      have hli := hlen i
      go_wp2
      go_loopw [24] (fun v24 wi => ∃ j : Nat, v24 = .int .i64 j ∧ j ≤ 4 ∧ Lib.IsBuilderF 113 5 w.heap.size w.heap.size (Lib.byteCells (keyS (xs.take i) ++ keyN ((nums4 x).take j))) wi ∧ wi.heap[wo.heap.size + 1]? = some (.cells #[.int .i64 x.1, .int .i64 x.2.1, .int .i64 x.2.2.1, .int .i64 x.2.2.2] 3 (0, 0)) ∧ Below w.heap.size w wi) (fun v24 _ => 4 - (Lib.intOf v24).toNat)
      case atStart =>
        refine ⟨0, rfl, by omega, ?_, ?_, ?_⟩
        · have : keyS (xs.take i) ++ keyN ((nums4 x).take 0) = keyS (xs.take i) := by simp [keyN]
          rw [this]
          exact (hB.alloc _).alloc _
        · exact alloc2 wo _ _
        · exact (hbw.alloc hsz _).alloc (by simp; omega) _
      case round =>
        obtain ⟨j, rfl, hj, hBi, hgi, hbi⟩ := hrel
        by_cases hjl : j < 4
        · obtain ⟨z, hzj⟩ : ∃ z, (nums4 x)[j]? = some z := ⟨(nums4 x)[j]'(by simpa [nums4] using hjl), by simp [nums4, hjl]⟩
          have hzr := inR_i64.1 (hz x hxm z (List.mem_of_getElem? hzj))
          have hil := Lib.itoa_length_le z hzr.1 hzr.2
          have hll : (keyS (xs.take i) ++ keyN ((nums4 x).take j)).length ≤ 88088 := by
            have h1 := keyN_len (l := (nums4 x).take j) fun y hy => hz x hxm y (List.mem_of_mem_take hy)
            have h2 : ((nums4 x).take j).length ≤ 4 := by simp [nums4]; omega
            rw [List.length_append]; omega
          have hcell : wr.cell? ⟨wo.heap.size + 1, j, none⟩ = some (.int .i64 z) := by
            have e : (#[Value.int .i64 x.1, .int .i64 x.2.1, .int .i64 x.2.2.1, .int .i64 x.2.2.2] : Array Value)[j]? = ((nums4 x).map (Value.int .i64))[j]? := by simp [nums4]
            rw [cell_of_row wr (wo.heap.size + 1) _ _ 3 (0, 0) hgi, e, List.getElem?_map, hzj]; rfl
          have hszi := hbi.size
          have htk : keyS (xs.take i) ++ keyN ((nums4 x).take (j + 1)) = (keyS (xs.take i) ++ keyN ((nums4 x).take j)) ++ (Lib.itoa z ++ [32]) := by
            rw [List.take_add_one, hzj, Option.toList_some, keyN_snoc, List.append_assoc]
          generalize hK : keyS (xs.take i) ++ keyN ((nums4 x).take j) = K at *
          go_wp2_with (go_at_call 73; refine (b_itoa z hzr.1 hzr.2 _ (tab_below htab hbi hpos)).mono ?_; rintro e w1 ⟨rfl, k, os, rfl⟩; refine Hid.out ?_)
          refine Lib.hid ?_
          have hb1 : Below wr.heap.size wr (Sort.grow (wr.drewN k) os) := Lib.below_grow _ wr (Nat.le_refl _) k os
          generalize Sort.grow (wr.drewN k) os = W1 at *
          have hB1 := builder_below hBi hb1
          have hgl : wo.heap.size + 1 < wr.heap.size := (Array.getElem?_eq_some_iff.1 hgi).1
          have hg1 := (hb1.block _ hgl).trans hgi
          have hbi1 := hbi.trans (hb1.mono hszi)
          have hsz1 := hbi1.size
          go_wp2_with (go_at_call 72; refine (b_text w.heap.size w.heap.size _ ⟨(Lib.itoa z).toArray⟩ W1 hB1 (by rw [Lib.byteCells_length]; show K.length + (Lib.itoa z).toArray.size ≤ _; simp; omega) hsz1).mono ?_; rintro e w2 ⟨rfl, h2, b2, k2⟩; refine Hid.out ?_)
          refine Lib.hid ?_
          have hB2 : Lib.IsBuilderF 113 5 w.heap.size w.heap.size (Lib.byteCells (K ++ Lib.itoa z)) w2 := by rw [Lib.byteCells_append]; exact .inr h2
          have hg2 := k2 _ _ hg1 (by simp; omega) (by intro c fz he; cases he)
          have hsz2 := (hbi1.trans b2).size
          go_wp2_with (go_at_call 74; refine (b_byte w.heap.size w.heap.size _ 32 w2 hB2 (by rw [Lib.byteCells_length, List.length_append]; omega) hsz2).mono ?_; rintro e w3 ⟨rfl, h3, b3, k3⟩; refine Hid.out ?_)
          refine Lib.hid ?_
          have hB3 : Lib.IsBuilderF 113 5 w.heap.size w.heap.size (Lib.byteCells (K ++ (Lib.itoa z ++ [32]))) w3 := by
            rw [← List.append_assoc, Lib.byteCells_append]; exact .inr h3
          have hg3 := k3 _ _ hg2 (by simp; omega) (by intro c fz he; cases he)
          have hb3 := (hbi1.trans b2).trans b3
          go_wp2
          go_roundw
          case rel => exact ⟨j + 1, rfl, by omega, by rw [htk]; exact hB3, hg3, hb3⟩
          case measure => simp [Lib.intOf]; omega
        · have hj4 : j = 4 := by omega
          subst hj4
          go_wp2
          go_roundw
          case rel =>
            refine ⟨i + 1, rfl, by omega, ?_, hbi⟩
            have e : xs.take (i + 1) = xs.take i ++ [x] := by rw [List.take_add_one, hx]; rfl
            rw [e, keyS_snoc]
            have e4 : (nums4 x).take 4 = nums4 x := rfl
            rw [e4] at hBi; exact hBi
          case measure => simp [Lib.intOf]; omega
    · have hin : i = xs.length := by omega
      subst hin
      go_wp2_with (go_at_call 75; refine (b_string w.heap.size w.heap.size _ _ hB hbw.size).mono ?_)
      rintro e W1 ⟨rfl, _, b1, _⟩
      go_wp2
      go_ret
      exact ⟨by simp, hbw.trans b1⟩
set_option maxHeartbeats 4000000 in
set_option maxRecDepth 1000000 in
theorem key_none (ad : Option Addr) (cap : Nat) (w : World) : Calls Tryd.prog 56 #[.slice ad 0 cap] w fun e w' => e = .returned (.string ⟨#[]⟩) ∧ Below w.heap.size w w' := by
  go_enter Tryd.func56, Tryd.ntmps56
  go_wp2
  go_loopw [10] (fun v10 wr => v10 = .int .i64 0 ∧ Lib.IsBuilderF 113 5 w.heap.size w.heap.size (Lib.byteCells []) wr ∧ Below w.heap.size w wr) (fun _ _ => 0)
  case atStart =>
    exact ⟨rfl, Lib.IsBuilderF.of (Lib.fresh_isBuilder 113 5 w), (Below.refl _ w).alloc (Nat.le_refl _) _⟩
  case round =>
    obtain ⟨rfl, hB, hbw⟩ := hrel
    go_wp2_with (go_at_call 75; refine (b_string w.heap.size w.heap.size _ _ hB hbw.size).mono ?_)
    rintro e W1 ⟨rfl, _, b1, _⟩
    go_wp2
    go_ret
    exact ⟨rfl, hbw.trans b1⟩
theorem items_at {w : World} {S : Nat → Prop} {v : Value} {xs : List SItem} (h : SlV En.SItem w S v xs) (hS : ∀ b, S b → b < w.heap.size) (hne : xs ≠ []) : ∃ a cap, v = .slice (some a) xs.length cap ∧ ItemsAt w a xs ∧ ∀ x ∈ xs, ∀ z ∈ nums4 x, InR .i64 z := by
  obtain ⟨ad, cap, rfl, h1, h2, h3, h4⟩ := h
  obtain ⟨b, off, css, rfl, hb, hE, hc⟩ := h4 hne
  have key : ∀ (i : Nat) (x : SItem), xs[i]? = some x → ∃ p q r t : Int, x = (p, q, r, t) ∧ InR .i64 p ∧ InR .i64 q ∧ InR .i64 r ∧ InR .i64 t ∧ css[i]? = some [.int .i64 p, .int .i64 q, .int .i64 r, .int .i64 t] := by
    intro i x hx
    have hlt : i < xs.length := (List.getElem?_eq_some_iff.1 hx).1
    obtain ⟨cs, hcs⟩ : ∃ cs, css[i]? = some cs := ⟨css[i]'(by rw [hE.1]; exact hlt), by simp⟩
    obtain ⟨c0, r0, rfl, ⟨rfl, i0⟩, c1, r1, rfl, ⟨rfl, i1⟩, c2, c3, rfl, ⟨rfl, i2⟩, ⟨rfl, i3⟩⟩ := hE.2 i cs x hcs hx
    exact ⟨_, _, _, _, rfl, i0, i1, i2, i3, hcs⟩
  refine ⟨⟨b, off, none⟩, cap, rfl, ⟨hS b hb, fun i x hx => ?_⟩, fun x hx z hz => ?_⟩
  · obtain ⟨p, q, r, t, rfl, _, _, _, _, hcs⟩ := key i x hx
    have hf := fun (j : Nat) (u : Value) (hu : [Value.int .i64 p, .int .i64 q, .int .i64 r, .int .i64 t][j]? = some u) => hc _ u (flat_get hE.lens hcs hu)
    have hsz : En.SItem.sz = 4 := rfl
    rw [hsz] at hf
    rw [add_lit]
    refine ⟨hf 0 _ rfl, ?_, ?_, ?_⟩
    · have := hf 1 _ rfl; rw [← Nat.add_assoc] at this; exact this
    · have := hf 2 _ rfl; rw [← Nat.add_assoc] at this; exact this
    · have := hf 3 _ rfl; rw [← Nat.add_assoc] at this; exact this
  · obtain ⟨i, hi⟩ := List.getElem?_of_mem hx
    obtain ⟨p, q, r, t, rfl, i0, i1, i2, i3, _⟩ := key i x hi
    simp only [nums4, List.mem_cons, List.not_mem_nil, or_false] at hz
    rcases hz with rfl | rfl | rfl | rfl <;> assumption
theorem keyS_len {l : List SItem} (h : ∀ x ∈ l, ∀ z ∈ nums4 x, InR .i64 z) : (keyS l).length ≤ 88 * l.length := by
  have h1 := keyN_len (l := numsS l) fun z hzz => by
    obtain ⟨x, hx, hzx⟩ := List.mem_flatMap.1 hzz
    exact h x hx z hzx
  have h2 := numsS_len l
  show (keyN (numsS l)).length ≤ _
  omega
theorem item_Key_ok {s_ : (List SItem)} {r_ : Str} (h : item_Key s_ r_) : Fn Tryd.prog 56 [(Pd.rep (En.slice En.SItem) s_)] (Rq (Pd.rep En.str r_)) := by
  obtain ⟨hn, rfl⟩ := h
  refine ⟨call_of Tryd.func56 rfl (by rfl), fun s vs hgl hv => ?_⟩
  match vs, hv with
  | [v], ⟨hv, _⟩ =>
    have hsl := rep_slice.1 hv
    have fin : ∀ (x : Str) (w' : World), x.length ≤ 9223372036854775807 → Below s.w.heap.size s.w w' → ∃ (v : Value) (s' : St), Ending.returned (.string ⟨x.toArray⟩) = .returned v ∧ s'.w = w' ∧ Ex s s' ∧ Rq (Pd.rep En.str x) s s' v := fun x w' hx hb =>
      ⟨_, ⟨w', s.X, fun b hb' => Nat.lt_of_lt_of_le (s.lt b hb') hb.size⟩, rfl, rfl, ⟨⟨DR.kit, hb.os, hb.tape, hb.output, hb.size, fun b hb' _ => hb.block b hb', fun _ h => h.elim, fun b h => .inl h⟩, fun b h => h⟩, rep_str.2 ⟨rfl, hx⟩⟩
    by_cases hne : s_ = []
    · subst hne
      obtain ⟨ad, cap, rfl, _⟩ := hsl
      refine (key_none ad cap s.w).mono fun e w' ⟨he, hb⟩ => ?_
      subst he
      exact fin [] w' (by simp) hb
    · obtain ⟨a, cap, rfl, hat, hz⟩ := items_at hsl (fun b hb => hb.1) hne
      have htab : Lib.TabIs Tryd.prog s.w "internal/strconv.uint64pow10" .u64 Lib.pow10Tab := by
        obtain ⟨_, t, fr, h2⟩ := hgl _ (by unfold gtab; exact List.mem_cons_self)
        unfold Lib.TabIs World.var?
        have hg : Tryd.prog.globalNamed "internal/strconv.uint64pow10" = some 2 := by kernel_rfl
        rw [hg]
        simp only [Option.bind_some]
        rw [h2]
        simp [Lib.pow10Tab]
      have hl := keyS_len hz
      refine (key_walk s_ a cap s.w hn hz hat htab).mono fun e w' ⟨he, hb⟩ => ?_
      subst he
      exact fin _ w' (by omega) hb
end Go.Proofs.YtdidjelkkanenaaDoor.V
namespace Go.Proofs.YtdidjelkkanenaaDoor.V
open Go
set_option linter.unusedVariables false
def slices_Concat_api_State_api_Item.j1 (r_ : (List SItem)) (newslice13 : (List SItem)) : Prop := r_ = newslice13
def slices_Concat_api_State_api_Item.l1 (slices_ : (List (List SItem))) (X1 : (List SItem) → Prop) : Nat → (List SItem) → Int → Prop
  | 0, _, _ => False
  | k_0 + 1, newslice17, v19 => ((decide (v19 < (slices_.length : Int))) = true → ∃ e27 : (List SItem), at? slices_ v19 = some e27 ∧ (newslice17.length + e27.length ≤ 2147483648) ∧ (InR .i64 (v19 + 1)) ∧ slices_Concat_api_State_api_Item.l1 slices_ X1 k_0 (newslice17 ++ e27) (v19 + 1)) ∧ ((decide (v19 < (slices_.length : Int))) = false → X1 newslice17)
def slices_Concat_api_State_api_Item.j2 (slices_ : (List (List SItem))) (r_ : (List SItem)) (size5 : Int) : Prop := ∃ r8 : (List SItem), slices_Grow_api_State_api_Item [] size5 r8 ∧ ∃ k20, slices_Concat_api_State_api_Item.l1 slices_ (slices_Concat_api_State_api_Item.j1 r_) k20 r8 0
def slices_Concat_api_State_api_Item.l2 (slices_ : (List (List SItem))) (X2 : Int → Prop) : Nat → Int → Int → Prop
  | 0, _, _ => False
  | k_0 + 1, size32, v33 => ((decide (v33 < (slices_.length : Int))) = true → ∃ e41 : (List SItem), at? slices_ v33 = some e41 ∧ (InR .i64 (size32 + (e41.length : Int))) ∧ ((decide (size32 + (e41.length : Int) < 0)) = true → False) ∧ ((decide (size32 + (e41.length : Int) < 0)) = false → (InR .i64 (v33 + 1)) ∧ slices_Concat_api_State_api_Item.l2 slices_ X2 k_0 (size32 + (e41.length : Int)) (v33 + 1))) ∧ ((decide (v33 < (slices_.length : Int))) = false → X2 size32)
def slices_Concat_api_State_api_Item (slices_ : (List (List SItem))) (r_ : (List SItem)) : Prop := ∃ k34, slices_Concat_api_State_api_Item.l2 slices_ (slices_Concat_api_State_api_Item.j2 slices_ r_) k34 0 0
def cmp_isNaN_int (x_ : Int) (r_ : Bool) : Prop := r_ = (x_ != x_)
def cmp_Compare_int (x_ : Int) (y_ : Int) (r_ : Int) : Prop := ∃ r3 : Bool, cmp_isNaN_int x_ r3 ∧ ∃ r6 : Bool, cmp_isNaN_int y_ r6 ∧ ((r3) = true → ((r6) = true → r_ = 0) ∧ ((r6) = false → r_ = (-1))) ∧ ((r3) = false → ((r6) = true → r_ = 1) ∧ ((r6) = false → ((decide (x_ < y_)) = true → r_ = (-1)) ∧ ((decide (x_ < y_)) = false → ((decide (y_ < x_)) = true → r_ = 1) ∧ ((decide (y_ < x_)) = false → r_ = 0))))
def slices_CompareFunc_api_State_api_State_api_Item_api_Item.j1 (s1_ : (List SItem)) (s2_ : (List SItem)) (r_ : Int) : Prop := ((decide ((s1_.length : Int) < (s2_.length : Int))) = true → r_ = (-1)) ∧ ((decide ((s1_.length : Int) < (s2_.length : Int))) = false → r_ = 0)
def slices_CompareFunc_api_State_api_State_api_Item_api_Item.l1 (s1_ : (List SItem)) (s2_ : (List SItem)) (cmp_ : (SItem × SItem × Int → Prop)) (r_ : Int) (X1 : Prop) : Nat → Int → Prop
  | 0, _ => False
  | k_0 + 1, v9 => ((decide (v9 < (s1_.length : Int))) = true → ∃ e17 : SItem, at? s1_ v9 = some e17 ∧ ((decide ((s2_.length : Int) ≤ v9)) = true → r_ = 1) ∧ ((decide ((s2_.length : Int) ≤ v9)) = false → ∃ e24 : SItem, at? s2_ v9 = some e24 ∧ ∃ r29 : Int, cmp_ (e17, e24, r29) ∧ (((r29 != 0)) = true → r_ = r29) ∧ (((r29 != 0)) = false → (InR .i64 (v9 + 1)) ∧ slices_CompareFunc_api_State_api_State_api_Item_api_Item.l1 s1_ s2_ cmp_ r_ X1 k_0 (v9 + 1)))) ∧ ((decide (v9 < (s1_.length : Int))) = false → X1)
def slices_CompareFunc_api_State_api_State_api_Item_api_Item (s1_ : (List SItem)) (s2_ : (List SItem)) (cmp_ : (SItem × SItem × Int → Prop)) (r_ : Int) : Prop := ∃ k10, slices_CompareFunc_api_State_api_State_api_Item_api_Item.l1 s1_ s2_ cmp_ r_ (slices_CompareFunc_api_State_api_State_api_Item_api_Item.j1 s1_ s2_ r_) k10 0
def cmp_Or_int.j1 (r_ : Int) : Prop := r_ = 0
def cmp_Or_int.l1 (vals_ : (List Int)) (r_ : Int) (X1 : Prop) : Nat → Int → Prop
  | 0, _ => False
  | k_0 + 1, v7 => ((decide (v7 < (vals_.length : Int))) = true → ∃ e15 : Int, at? vals_ v7 = some e15 ∧ (((e15 != 0)) = true → r_ = e15) ∧ (((e15 != 0)) = false → (InR .i64 (v7 + 1)) ∧ cmp_Or_int.l1 vals_ r_ X1 k_0 (v7 + 1))) ∧ ((decide (v7 < (vals_.length : Int))) = false → X1)
def cmp_Or_int (vals_ : (List Int)) (r_ : Int) : Prop := ∃ k8, cmp_Or_int.l1 vals_ r_ (cmp_Or_int.j1 r_) k8 0
def slices_Clone_api_State_api_Item (s_ : (List SItem)) (r_ : (List SItem)) : Prop := ∀ b4 : Bool, (b4 = true → s_ = []) → ((b4) = true → r_ = ([] : (List SItem))) ∧ ((b4) = false → (([] : (List SItem)).length + s_.length ≤ 2147483648) ∧ r_ = ([] : (List SItem)) ++ s_)
end Go.Proofs.YtdidjelkkanenaaDoor.V
namespace Go.Proofs.YtdidjelkkanenaaDoor.V
open Go
set_option linter.unusedVariables false
set_option maxRecDepth 100000
theorem slices_Concat_api_State_api_Item_ok {slices_ : (List (List SItem))} {r_ : (List SItem)} (h : slices_Concat_api_State_api_Item slices_ r_) : Fn Tryd.prog 62 [(Pd.rep (En.slice (En.slice En.SItem)) slices_)] (Ro En.SItem 43 r_) := by
  unfold slices_Concat_api_State_api_Item at h
  refine fn_of Tryd.func62 rfl Tryd.ntmps62 (by rfl) (by simp) fun s0 a hL => ?_
  refine wp_seq_k fun K1 hK1 => ?_
  refine rg ?_
  refine st 2 (t_assign (o_nil (E := En.SItem) (N := s0.w.heap.size) (te := 43)) rfl rfl) rfl rfl hL fun a s e_ hL => ?_
  refine en' ?_
  show K1 a s.w
  refine hK1 _ _ ?_
  refine wp_seq_k fun K2 hK2 => ?_
  refine rg ?_
  refine st 3 (t_assign (o_i (k := .i64) (by decide)) rfl rfl) rfl rfl hL fun a s e_ hL => ?_
  refine en' ?_
  show K2 a s.w
  refine hK2 _ _ ?_
  refine wp_seq_k fun K3 hK3 => ?_
  refine wp_seq_k fun K4 hK4 => ?_
  refine rg ?_
  refine st 9 (t_move (o_t 0 rfl) rfl rfl) rfl rfl hL fun a s e_ hL => ?_
  refine st 10 (t_len (o_t 9 rfl) Tryd.underlying33 rfl rfl) rfl rfl hL fun a s e_ hL => ?_
  refine st 11 (t_move (o_i (k := .i64) (by decide)) rfl rfl) rfl rfl hL fun a s e_ hL => ?_
  refine en' ?_
  show K4 a s.w
  refine hK4 _ _ ?_
  refine wp_block ?_
  have J6 : ∀ (size5 : Int) (a : Act) (s : St), Has N0 36 s0 a s [(0, (Pd.rep (En.slice (En.slice En.SItem)) slices_)), (3, (Pd.rep (En.int .i64) size5))] → ((slices_Concat_api_State_api_Item.j2 slices_ r_) size5) → K3 a s.w := by
    intro size5 a s hL h
    unfold slices_Concat_api_State_api_Item.j2 at h
    show K3 a s.w
    refine hK3 _ _ ?_
    refine wp_seq_k fun K7 hK7 => ?_
    obtain ⟨r8, h9, h⟩ := h
    refine rg ?_
    refine st 23 (t_move (o_t 3 rfl) rfl rfl) rfl rfl hL fun a s e_ hL => ?_
    refine st_callo 24 hL (slices_Grow_api_State_api_Item_ok h9) (xs := [.const (.slice none 0 0), .tmp 23]) (.cons o_nilv (.cons (o_t 23 rfl) .nil)) rfl rfl rfl rfl fun a s og10 hg_ hL => ?_
    refine st 6 (t_assign (o_t 24 rfl) rfl rfl) rfl rfl hL fun a s e_ hL => ?_
    refine en' ?_
    show K7 a s.w
    refine hK7 _ _ ?_
    refine wp_seq_k fun K11 hK11 => ?_
    refine wp_seq_k fun K12 hK12 => ?_
    refine rg ?_
    refine st 25 (t_move (o_t 0 rfl) rfl rfl) rfl rfl hL fun a s e_ hL => ?_
    refine st 26 (t_len (o_t 25 rfl) Tryd.underlying33 rfl rfl) rfl rfl hL fun a s e_ hL => ?_
    refine st 27 (t_move (o_i (k := .i64) (by decide)) rfl rfl) rfl rfl hL fun a s e_ hL => ?_
    refine en' ?_
    show K12 a s.w
    refine hK12 _ _ ?_
    refine wp_block ?_
    have J15 : ∀ (newslice13 : (List SItem)) (og14 : Option Nat) (a : Act) (s : St), Has N0 36 s0 a s [(6, (Pd.row En.SItem s0.w.heap.size 43 og14 newslice13))] → ((slices_Concat_api_State_api_Item.j1 r_) newslice13) → K11 a s.w := by
      intro newslice13 og14 a s hL h
      unfold slices_Concat_api_State_api_Item.j1 at h
      show K11 a s.w
      refine hK11 _ _ ?_
      refine wp_seq_k fun K16 hK16 => ?_
      refine rg ?_
      refine st 35 (t_move (o_t 6 rfl) rfl rfl) rfl rfl hL fun a s e_ hL => ?_
      refine st 2 (t_assign (o_t 35 rfl) rfl rfl) rfl rfl hL fun a s e_ hL => ?_
      refine en' ?_
      show K16 a s.w
      refine hK16 _ _ ?_
      subst h
      exact wp_ret (reto rfl hL rfl)
    obtain ⟨k20, h⟩ := h
    refine lpg (fun k21 a s => ∃ (newslice17 : (List SItem)) (v19 : Int) (og18 : Option Nat), Has N0 36 s0 a s [(6, (Pd.row En.SItem s0.w.heap.size 43 og18 newslice17)), (25, (Pd.rep (En.slice (En.slice En.SItem)) slices_)), (26, (Pd.rep (En.int .i64) (slices_.length : Int))), (27, (Pd.rep (En.int .i64) v19))] ∧ slices_Concat_api_State_api_Item.l1 slices_ (slices_Concat_api_State_api_Item.j1 r_) k21 newslice17 v19) k20 ⟨r8, 0, og10, hL.keep (.cons (t := 6) rfl (fun _ _ h_ => h_) (.cons (t := 25) rfl (fun _ h_ => h_.elim) (.cons (t := 26) rfl (fun _ h_ => h_.elim) (.cons (t := 27) rfl (fun _ h_ => h_.elim) .nil)))), h⟩ ?_
    rintro k21 a s ⟨newslice17, v19, og18, hL, h⟩ KL22 hKL22
    cases k21 with
    | zero => exact h.elim
    | succ k21 =>
    unfold slices_Concat_api_State_api_Item.l1 at h
    refine wp_seq_k fun K23 hK23 => ?_
    refine rg ?_
    refine st 28 (t_lss (o_t 27 rfl) (o_t 26 rfl) rfl rfl) rfl rfl hL fun a s e_ hL => ?_
    refine en' ?_
    show K23 a s.w
    refine hK23 _ _ ?_
    refine wp_seq_k fun K24 hK24 => ?_
    refine cnd hL rfl (fun hb_ => ?_) (fun hb_ => ?_)
    · replace h := h.1 hb_
      refine wp_skip ?_
      show K24 a s.w
      refine hK24 _ _ ?_
      refine wp_seq_k fun K25 hK25 => ?_
      refine wp_block ?_
      refine wp_seq_k fun K26 hK26 => ?_
      obtain ⟨e27, h28, h⟩ := h
      refine rg ?_
      refine st 29 (t_idx (o_t 25 rfl) (o_t 27 rfl) h28 Tryd.underlying33 ty26 rfl rfl) rfl rfl hL fun a s e_ hL => ?_
      refine st 30 (t_load ty26 (o_t 29 rfl) rfl rfl) rfl rfl hL fun a s e_ hL => ?_
      refine st 8 (t_assign (o_t 30 rfl) rfl rfl) rfl rfl hL fun a s e_ hL => ?_
      refine en' ?_
      show K26 a s.w
      refine hK26 _ _ ?_
      obtain ⟨h29, h⟩ := h
      refine rg ?_
      refine st 31 (t_move (o_t 6 rfl) rfl rfl) rfl rfl hL fun a s e_ hL => ?_
      refine st 32 (t_move (o_t 8 rfl) rfl rfl) rfl rfl hL fun a s e_ hL => ?_
      refine st_app (L' := [(25, (Pd.rep (En.slice (En.slice En.SItem)) slices_)), (26, (Pd.rep (En.int .i64) (slices_.length : Int))), (27, (Pd.rep (En.int .i64) v19))]) 33 hL (o_t 31 rfl) (o_t 32 rfl) Tryd.underlying26 ty43 h29 rfl rfl rfl rfl (.cons (t := 25) rfl (fun _ h_ => h_.elim) (.cons (t := 26) rfl (fun _ h_ => h_.elim) (.cons (t := 27) rfl (fun _ h_ => h_.elim) .nil))) fun a s og30 hg_ hL => ?_
      refine st 6 (t_assign (o_t 33 rfl) rfl rfl) rfl rfl hL fun a s e_ hL => ?_
      refine en' ?_
      show K25 a s.w
      refine hK25 _ _ ?_
      obtain ⟨h31, h⟩ := h
      refine rg ?_
      refine st 34 (t_add (o_t 27 rfl) (o_i (k := .i64) (by decide)) h31 rfl rfl) rfl rfl hL fun a s e_ hL => ?_
      refine st 27 (t_move (o_t 34 rfl) rfl rfl) rfl rfl hL fun a s e_ hL => ?_
      refine en' ?_
      exact hKL22 k21 a s (Nat.lt_succ_self _) ⟨(newslice17 ++ e27), (v19 + 1), og30, hL.keep (.cons (t := 6) rfl (fun _ _ h_ => h_) (.cons (t := 25) rfl (fun _ h_ => h_.elim) (.cons (t := 26) rfl (fun _ h_ => h_.elim) (.cons (t := 27) rfl (fun _ h_ => h_.elim) .nil)))), h⟩
    · replace h := h.2 hb_
      refine wp_exit ?_
      exact J15 newslice17 og18 a s (hL.keep (.cons (t := 6) rfl (fun _ _ h_ => h_) .nil)) h
  obtain ⟨k34, h⟩ := h
  refine lpg (fun k35 a s => ∃ (size32 : Int) (v33 : Int), Has N0 36 s0 a s [(0, (Pd.rep (En.slice (En.slice En.SItem)) slices_)), (3, (Pd.rep (En.int .i64) size32)), (9, (Pd.rep (En.slice (En.slice En.SItem)) slices_)), (10, (Pd.rep (En.int .i64) (slices_.length : Int))), (11, (Pd.rep (En.int .i64) v33))] ∧ slices_Concat_api_State_api_Item.l2 slices_ (slices_Concat_api_State_api_Item.j2 slices_ r_) k35 size32 v33) k34 ⟨0, 0, hL.keep (.cons (t := 0) rfl (fun _ h_ => h_.elim) (.cons (t := 3) rfl (fun _ h_ => h_.elim) (.cons (t := 9) rfl (fun _ h_ => h_.elim) (.cons (t := 10) rfl (fun _ h_ => h_.elim) (.cons (t := 11) rfl (fun _ h_ => h_.elim) .nil))))), h⟩ ?_
  rintro k35 a s ⟨size32, v33, hL, h⟩ KL36 hKL36
  cases k35 with
  | zero => exact h.elim
  | succ k35 =>
  unfold slices_Concat_api_State_api_Item.l2 at h
  refine wp_seq_k fun K37 hK37 => ?_
  refine rg ?_
  refine st 12 (t_lss (o_t 11 rfl) (o_t 10 rfl) rfl rfl) rfl rfl hL fun a s e_ hL => ?_
  refine en' ?_
  show K37 a s.w
  refine hK37 _ _ ?_
  refine wp_seq_k fun K38 hK38 => ?_
  refine cnd hL rfl (fun hb_ => ?_) (fun hb_ => ?_)
  · replace h := h.1 hb_
    refine wp_skip ?_
    show K38 a s.w
    refine hK38 _ _ ?_
    refine wp_seq_k fun K39 hK39 => ?_
    refine wp_block ?_
    refine wp_seq_k fun K40 hK40 => ?_
    obtain ⟨e41, h42, h⟩ := h
    refine rg ?_
    refine st 13 (t_idx (o_t 9 rfl) (o_t 11 rfl) h42 Tryd.underlying33 ty26 rfl rfl) rfl rfl hL fun a s e_ hL => ?_
    refine st 14 (t_load ty26 (o_t 13 rfl) rfl rfl) rfl rfl hL fun a s e_ hL => ?_
    refine st 5 (t_assign (o_t 14 rfl) rfl rfl) rfl rfl hL fun a s e_ hL => ?_
    refine en' ?_
    show K40 a s.w
    refine hK40 _ _ ?_
    refine wp_seq_k fun K43 hK43 => ?_
    obtain ⟨h44, h⟩ := h
    refine rg ?_
    refine st 15 (t_move (o_t 3 rfl) rfl rfl) rfl rfl hL fun a s e_ hL => ?_
    refine st 16 (t_move (o_t 5 rfl) rfl rfl) rfl rfl hL fun a s e_ hL => ?_
    refine st 17 (t_len (o_t 16 rfl) Tryd.underlying26 rfl rfl) rfl rfl hL fun a s e_ hL => ?_
    refine st 18 (t_add (o_t 15 rfl) (o_t 17 rfl) h44 rfl rfl) rfl rfl hL fun a s e_ hL => ?_
    refine st 3 (t_assign (o_t 18 rfl) rfl rfl) rfl rfl hL fun a s e_ hL => ?_
    refine en' ?_
    show K43 a s.w
    refine hK43 _ _ ?_
    refine wp_seq_k fun K45 hK45 => ?_
    refine rg ?_
    refine st 19 (t_move (o_t 3 rfl) rfl rfl) rfl rfl hL fun a s e_ hL => ?_
    refine st 20 (t_lss (o_t 19 rfl) (o_i (k := .i64) (by decide)) rfl rfl) rfl rfl hL fun a s e_ hL => ?_
    refine en' ?_
    show K45 a s.w
    refine hK45 _ _ ?_
    refine cnd hL rfl (fun hb_ => ?_) (fun hb_ => ?_)
    · replace h := h.1 hb_
      exact h.elim
    · replace h := h.2 hb_
      refine wp_skip ?_
      show K39 a s.w
      refine hK39 _ _ ?_
      obtain ⟨h46, h⟩ := h
      refine rg ?_
      refine st 22 (t_add (o_t 11 rfl) (o_i (k := .i64) (by decide)) h46 rfl rfl) rfl rfl hL fun a s e_ hL => ?_
      refine st 11 (t_move (o_t 22 rfl) rfl rfl) rfl rfl hL fun a s e_ hL => ?_
      refine en' ?_
      exact hKL36 k35 a s (Nat.lt_succ_self _) ⟨(size32 + (e41.length : Int)), (v33 + 1), hL.keep (.cons (t := 0) rfl (fun _ h_ => h_.elim) (.cons (t := 3) rfl (fun _ h_ => h_.elim) (.cons (t := 9) rfl (fun _ h_ => h_.elim) (.cons (t := 10) rfl (fun _ h_ => h_.elim) (.cons (t := 11) rfl (fun _ h_ => h_.elim) .nil))))), h⟩
  · replace h := h.2 hb_
    refine wp_exit ?_
    exact J6 size32 a s (hL.keep (.cons (t := 0) rfl (fun _ h_ => h_.elim) (.cons (t := 3) rfl (fun _ h_ => h_.elim) .nil))) h
theorem cmp_isNaN_int_ok {x_ : Int} {r_ : Bool} (h : cmp_isNaN_int x_ r_) : Fn Tryd.prog 93 [(Pd.rep (En.int .i64) x_)] (Rq (Pd.rep En.bool r_)) := by
  unfold cmp_isNaN_int at h
  refine fn_of Tryd.func93 rfl Tryd.ntmps93 (by rfl) (by simp) fun s0 a hL => ?_
  refine wp_seq_k fun K1 hK1 => ?_
  refine rg ?_
  refine st 2 (t_assign o_b rfl rfl) rfl rfl hL fun a s e_ hL => ?_
  refine en' ?_
  show K1 a s.w
  refine hK1 _ _ ?_
  refine wp_seq_k fun K2 hK2 => ?_
  refine rg ?_
  refine st 3 (t_move (o_t 0 rfl) rfl rfl) rfl rfl hL fun a s e_ hL => ?_
  refine st 4 (t_move (o_t 0 rfl) rfl rfl) rfl rfl hL fun a s e_ hL => ?_
  refine st 5 (t_nei (o_t 3 rfl) (o_t 4 rfl) rfl rfl) rfl rfl hL fun a s e_ hL => ?_
  refine st 2 (t_assign (o_t 5 rfl) rfl rfl) rfl rfl hL fun a s e_ hL => ?_
  refine en' ?_
  show K2 a s.w
  refine hK2 _ _ ?_
  subst h
  exact wp_ret (retq rfl hL rfl)
theorem cmp_Compare_int_ok {x_ : Int} {y_ : Int} {r_ : Int} (h : cmp_Compare_int x_ y_ r_) : Fn Tryd.prog 67 [(Pd.rep (En.int .i64) x_), (Pd.rep (En.int .i64) y_)] (Rq (Pd.rep (En.int .i64) r_)) := by
  unfold cmp_Compare_int at h
  refine fn_of Tryd.func67 rfl Tryd.ntmps67 (by rfl) (by simp) fun s0 a hL => ?_
  refine wp_seq_k fun K1 hK1 => ?_
  refine rg ?_
  refine st 4 (t_assign (o_i (k := .i64) (by decide)) rfl rfl) rfl rfl hL fun a s e_ hL => ?_
  refine en' ?_
  show K1 a s.w
  refine hK1 _ _ ?_
  refine wp_seq_k fun K2 hK2 => ?_
  obtain ⟨r3, h4, h⟩ := h
  refine rg ?_
  refine st 7 (t_move (o_t 0 rfl) rfl rfl) rfl rfl hL fun a s e_ hL => ?_
  refine st 8 (t_call (cmp_isNaN_int_ok h4) (xs := [.tmp 7]) (.cons (o_t 7 rfl) .nil) rfl rfl) rfl rfl hL fun a s e_ hL => ?_
  refine st 5 (t_assign (o_t 8 rfl) rfl rfl) rfl rfl hL fun a s e_ hL => ?_
  refine en' ?_
  show K2 a s.w
  refine hK2 _ _ ?_
  refine wp_seq_k fun K5 hK5 => ?_
  obtain ⟨r6, h7, h⟩ := h
  refine rg ?_
  refine st 9 (t_move (o_t 1 rfl) rfl rfl) rfl rfl hL fun a s e_ hL => ?_
  refine st 10 (t_call (cmp_isNaN_int_ok h7) (xs := [.tmp 9]) (.cons (o_t 9 rfl) .nil) rfl rfl) rfl rfl hL fun a s e_ hL => ?_
  refine st 6 (t_assign (o_t 10 rfl) rfl rfl) rfl rfl hL fun a s e_ hL => ?_
  refine en' ?_
  show K5 a s.w
  refine hK5 _ _ ?_
  refine wp_seq_k fun K8 hK8 => ?_
  refine wp_seq_k fun K9 hK9 => ?_
  refine rg ?_
  refine st 11 (t_move (o_t 5 rfl) rfl rfl) rfl rfl hL fun a s e_ hL => ?_
  refine en' ?_
  show K9 a s.w
  refine hK9 _ _ ?_
  refine cnd hL rfl (fun hb_ => ?_) (fun hb_ => ?_)
  · replace h := h.1 hb_
    refine wp_seq_k fun K10 hK10 => ?_
    refine wp_seq_k fun K11 hK11 => ?_
    refine rg ?_
    refine st 12 (t_move (o_t 6 rfl) rfl rfl) rfl rfl hL fun a s e_ hL => ?_
    refine en' ?_
    show K11 a s.w
    refine hK11 _ _ ?_
    refine cnd hL rfl (fun hb_ => ?_) (fun hb_ => ?_)
    · replace h := h.1 hb_
      refine wp_seq_k fun K12 hK12 => ?_
      refine rg ?_
      refine st 4 (t_assign (o_i (k := .i64) (by decide)) rfl rfl) rfl rfl hL fun a s e_ hL => ?_
      refine en' ?_
      show K12 a s.w
      refine hK12 _ _ ?_
      subst h
      exact wp_ret (retq rfl hL rfl)
    · replace h := h.2 hb_
      refine wp_skip ?_
      show K10 a s.w
      refine hK10 _ _ ?_
      refine wp_seq_k fun K13 hK13 => ?_
      refine rg ?_
      refine st 4 (t_assign (o_i (k := .i64) (by decide)) rfl rfl) rfl rfl hL fun a s e_ hL => ?_
      refine en' ?_
      show K13 a s.w
      refine hK13 _ _ ?_
      subst h
      exact wp_ret (retq rfl hL rfl)
  · replace h := h.2 hb_
    refine wp_skip ?_
    show K8 a s.w
    refine hK8 _ _ ?_
    refine wp_seq_k fun K14 hK14 => ?_
    refine wp_seq_k fun K15 hK15 => ?_
    refine rg ?_
    refine st 13 (t_move (o_t 6 rfl) rfl rfl) rfl rfl hL fun a s e_ hL => ?_
    refine en' ?_
    show K15 a s.w
    refine hK15 _ _ ?_
    refine cnd hL rfl (fun hb_ => ?_) (fun hb_ => ?_)
    · replace h := h.1 hb_
      refine wp_seq_k fun K16 hK16 => ?_
      refine rg ?_
      refine st 4 (t_assign (o_i (k := .i64) (by decide)) rfl rfl) rfl rfl hL fun a s e_ hL => ?_
      refine en' ?_
      show K16 a s.w
      refine hK16 _ _ ?_
      subst h
      exact wp_ret (retq rfl hL rfl)
    · replace h := h.2 hb_
      refine wp_skip ?_
      show K14 a s.w
      refine hK14 _ _ ?_
      refine wp_seq_k fun K17 hK17 => ?_
      refine wp_seq_k fun K18 hK18 => ?_
      refine rg ?_
      refine st 14 (t_move (o_t 0 rfl) rfl rfl) rfl rfl hL fun a s e_ hL => ?_
      refine st 15 (t_move (o_t 1 rfl) rfl rfl) rfl rfl hL fun a s e_ hL => ?_
      refine st 16 (t_lss (o_t 14 rfl) (o_t 15 rfl) rfl rfl) rfl rfl hL fun a s e_ hL => ?_
      refine en' ?_
      show K18 a s.w
      refine hK18 _ _ ?_
      refine cnd hL rfl (fun hb_ => ?_) (fun hb_ => ?_)
      · replace h := h.1 hb_
        refine wp_seq_k fun K19 hK19 => ?_
        refine rg ?_
        refine st 4 (t_assign (o_i (k := .i64) (by decide)) rfl rfl) rfl rfl hL fun a s e_ hL => ?_
        refine en' ?_
        show K19 a s.w
        refine hK19 _ _ ?_
        subst h
        exact wp_ret (retq rfl hL rfl)
      · replace h := h.2 hb_
        refine wp_skip ?_
        show K17 a s.w
        refine hK17 _ _ ?_
        refine wp_seq_k fun K20 hK20 => ?_
        refine wp_seq_k fun K21 hK21 => ?_
        refine rg ?_
        refine st 17 (t_move (o_t 0 rfl) rfl rfl) rfl rfl hL fun a s e_ hL => ?_
        refine st 18 (t_move (o_t 1 rfl) rfl rfl) rfl rfl hL fun a s e_ hL => ?_
        refine st 19 (t_gtr (o_t 17 rfl) (o_t 18 rfl) rfl rfl) rfl rfl hL fun a s e_ hL => ?_
        refine en' ?_
        show K21 a s.w
        refine hK21 _ _ ?_
        refine cnd hL rfl (fun hb_ => ?_) (fun hb_ => ?_)
        · replace h := h.1 hb_
          refine wp_seq_k fun K22 hK22 => ?_
          refine rg ?_
          refine st 4 (t_assign (o_i (k := .i64) (by decide)) rfl rfl) rfl rfl hL fun a s e_ hL => ?_
          refine en' ?_
          show K22 a s.w
          refine hK22 _ _ ?_
          subst h
          exact wp_ret (retq rfl hL rfl)
        · replace h := h.2 hb_
          refine wp_skip ?_
          show K20 a s.w
          refine hK20 _ _ ?_
          refine wp_seq_k fun K23 hK23 => ?_
          refine rg ?_
          refine st 4 (t_assign (o_i (k := .i64) (by decide)) rfl rfl) rfl rfl hL fun a s e_ hL => ?_
          refine en' ?_
          show K23 a s.w
          refine hK23 _ _ ?_
          subst h
          exact wp_ret (retq rfl hL rfl)
theorem slices_CompareFunc_api_State_api_State_api_Item_api_Item_ok {s1_ : (List SItem)} {s2_ : (List SItem)} {cmp_ : (SItem × SItem × Int → Prop)} {r_ : Int} (h : slices_CompareFunc_api_State_api_State_api_Item_api_Item s1_ s2_ cmp_ r_) : Fn Tryd.prog 68 [(Pd.rep (En.slice En.SItem) s1_), (Pd.rep (En.slice En.SItem) s2_), (Pd.rep EnF108 cmp_)] (Rq (Pd.rep (En.int .i64) r_)) := by
  unfold slices_CompareFunc_api_State_api_State_api_Item_api_Item at h
  refine fn_of Tryd.func68 rfl Tryd.ntmps68 (by rfl) (by simp) fun s0 a hL => ?_
  refine wp_seq_k fun K1 hK1 => ?_
  refine rg ?_
  refine st 6 (t_assign (o_i (k := .i64) (by decide)) rfl rfl) rfl rfl hL fun a s e_ hL => ?_
  refine en' ?_
  show K1 a s.w
  refine hK1 _ _ ?_
  refine wp_seq_k fun K2 hK2 => ?_
  refine wp_seq_k fun K3 hK3 => ?_
  refine rg ?_
  refine st 11 (t_move (o_t 0 rfl) rfl rfl) rfl rfl hL fun a s e_ hL => ?_
  refine st 12 (t_len (o_t 11 rfl) Tryd.underlying26 rfl rfl) rfl rfl hL fun a s e_ hL => ?_
  refine st 13 (t_move (o_i (k := .i64) (by decide)) rfl rfl) rfl rfl hL fun a s e_ hL => ?_
  refine en' ?_
  show K3 a s.w
  refine hK3 _ _ ?_
  refine wp_block ?_
  have J4 : ∀ (a : Act) (s : St), Has N0 39 s0 a s [(0, (Pd.rep (En.slice En.SItem) s1_)), (1, (Pd.rep (En.slice En.SItem) s2_))] → ((slices_CompareFunc_api_State_api_State_api_Item_api_Item.j1 s1_ s2_ r_)) → K2 a s.w := by
    intro a s hL h
    unfold slices_CompareFunc_api_State_api_State_api_Item_api_Item.j1 at h
    show K2 a s.w
    refine hK2 _ _ ?_
    refine wp_seq_k fun K5 hK5 => ?_
    refine wp_seq_k fun K6 hK6 => ?_
    refine rg ?_
    refine st 34 (t_move (o_t 0 rfl) rfl rfl) rfl rfl hL fun a s e_ hL => ?_
    refine st 35 (t_len (o_t 34 rfl) Tryd.underlying26 rfl rfl) rfl rfl hL fun a s e_ hL => ?_
    refine st 36 (t_move (o_t 1 rfl) rfl rfl) rfl rfl hL fun a s e_ hL => ?_
    refine st 37 (t_len (o_t 36 rfl) Tryd.underlying26 rfl rfl) rfl rfl hL fun a s e_ hL => ?_
    refine st 38 (t_lss (o_t 35 rfl) (o_t 37 rfl) rfl rfl) rfl rfl hL fun a s e_ hL => ?_
    refine en' ?_
    show K6 a s.w
    refine hK6 _ _ ?_
    refine cnd hL rfl (fun hb_ => ?_) (fun hb_ => ?_)
    · replace h := h.1 hb_
      refine wp_seq_k fun K7 hK7 => ?_
      refine rg ?_
      refine st 6 (t_assign (o_i (k := .i64) (by decide)) rfl rfl) rfl rfl hL fun a s e_ hL => ?_
      refine en' ?_
      show K7 a s.w
      refine hK7 _ _ ?_
      subst h
      exact wp_ret (retq rfl hL rfl)
    · replace h := h.2 hb_
      refine wp_skip ?_
      show K5 a s.w
      refine hK5 _ _ ?_
      refine wp_seq_k fun K8 hK8 => ?_
      refine rg ?_
      refine st 6 (t_assign (o_i (k := .i64) (by decide)) rfl rfl) rfl rfl hL fun a s e_ hL => ?_
      refine en' ?_
      show K8 a s.w
      refine hK8 _ _ ?_
      subst h
      exact wp_ret (retq rfl hL rfl)
  obtain ⟨k10, h⟩ := h
  refine lpg (fun k11 a s => ∃ (v9 : Int), Has N0 39 s0 a s [(0, (Pd.rep (En.slice En.SItem) s1_)), (1, (Pd.rep (En.slice En.SItem) s2_)), (2, (Pd.rep EnF108 cmp_)), (11, (Pd.rep (En.slice En.SItem) s1_)), (12, (Pd.rep (En.int .i64) (s1_.length : Int))), (13, (Pd.rep (En.int .i64) v9))] ∧ slices_CompareFunc_api_State_api_State_api_Item_api_Item.l1 s1_ s2_ cmp_ r_ (slices_CompareFunc_api_State_api_State_api_Item_api_Item.j1 s1_ s2_ r_) k11 v9) k10 ⟨0, hL.keep (.cons (t := 0) rfl (fun _ h_ => h_.elim) (.cons (t := 1) rfl (fun _ h_ => h_.elim) (.cons (t := 2) rfl (fun _ h_ => h_.elim) (.cons (t := 11) rfl (fun _ h_ => h_.elim) (.cons (t := 12) rfl (fun _ h_ => h_.elim) (.cons (t := 13) rfl (fun _ h_ => h_.elim) .nil)))))), h⟩ ?_
  rintro k11 a s ⟨v9, hL, h⟩ KL12 hKL12
  cases k11 with
  | zero => exact h.elim
  | succ k11 =>
  unfold slices_CompareFunc_api_State_api_State_api_Item_api_Item.l1 at h
  refine wp_seq_k fun K13 hK13 => ?_
  refine rg ?_
  refine st 14 (t_lss (o_t 13 rfl) (o_t 12 rfl) rfl rfl) rfl rfl hL fun a s e_ hL => ?_
  refine en' ?_
  show K13 a s.w
  refine hK13 _ _ ?_
  refine wp_seq_k fun K14 hK14 => ?_
  refine cnd hL rfl (fun hb_ => ?_) (fun hb_ => ?_)
  · replace h := h.1 hb_
    refine wp_skip ?_
    show K14 a s.w
    refine hK14 _ _ ?_
    refine wp_seq_k fun K15 hK15 => ?_
    refine wp_block ?_
    refine wp_seq_k fun K16 hK16 => ?_
    obtain ⟨e17, h18, h⟩ := h
    refine rg ?_
    refine st 15 (t_move (o_t 13 rfl) rfl rfl) rfl rfl hL fun a s e_ hL => ?_
    refine st 16 (t_idx (o_t 11 rfl) (o_t 13 rfl) h18 Tryd.underlying26 ty43 rfl rfl) rfl rfl hL fun a s e_ hL => ?_
    refine st 17 (t_load ty43 (o_t 16 rfl) rfl rfl) rfl rfl hL fun a s e_ hL => ?_
    refine st_alloc En.SItem (z := (0, 0, 0, 0)) 8 hL tyz43 rfl rfl rfl rfl fun a s g19 hg_ hL => ?_
    refine st 7 (t_assign (o_t 15 rfl) rfl rfl) rfl rfl hL fun a s e_ hL => ?_
    refine st_stb (L' := [(0, (Pd.rep (En.slice En.SItem) s1_)), (1, (Pd.rep (En.slice En.SItem) s2_)), (2, (Pd.rep EnF108 cmp_)), (7, (Pd.rep (En.int .i64) v9)), (11, (Pd.rep (En.slice En.SItem) s1_)), (12, (Pd.rep (En.int .i64) (s1_.length : Int))), (13, (Pd.rep (En.int .i64) v9))]) 8 hL rfl (o_t 17 rfl) ty43 rfl rfl rfl (.cons (t := 0) rfl (fun _ h_ => h_.elim) (.cons (t := 1) rfl (fun _ h_ => h_.elim) (.cons (t := 2) rfl (fun _ h_ => h_.elim) (.cons (t := 7) rfl (fun _ h_ => h_.elim) (.cons (t := 11) rfl (fun _ h_ => h_.elim) (.cons (t := 12) rfl (fun _ h_ => h_.elim) (.cons (t := 13) rfl (fun _ h_ => h_.elim) .nil))))))) fun s hL => ?_
    refine en' ?_
    show K16 a s.w
    refine hK16 _ _ ?_
    refine wp_seq_k fun K20 hK20 => ?_
    refine wp_seq_k fun K21 hK21 => ?_
    refine rg ?_
    refine st 18 (t_move (o_t 7 rfl) rfl rfl) rfl rfl hL fun a s e_ hL => ?_
    refine st 19 (t_move (o_t 1 rfl) rfl rfl) rfl rfl hL fun a s e_ hL => ?_
    refine st 20 (t_len (o_t 19 rfl) Tryd.underlying26 rfl rfl) rfl rfl hL fun a s e_ hL => ?_
    refine st 21 (t_geq (o_t 18 rfl) (o_t 20 rfl) rfl rfl) rfl rfl hL fun a s e_ hL => ?_
    refine en' ?_
    show K21 a s.w
    refine hK21 _ _ ?_
    refine cnd hL rfl (fun hb_ => ?_) (fun hb_ => ?_)
    · replace h := h.1 hb_
      refine wp_seq_k fun K22 hK22 => ?_
      refine rg ?_
      refine st 6 (t_assign (o_i (k := .i64) (by decide)) rfl rfl) rfl rfl hL fun a s e_ hL => ?_
      refine en' ?_
      show K22 a s.w
      refine hK22 _ _ ?_
      subst h
      exact wp_ret (retq rfl hL rfl)
    · replace h := h.2 hb_
      refine wp_skip ?_
      show K20 a s.w
      refine hK20 _ _ ?_
      refine wp_seq_k fun K23 hK23 => ?_
      obtain ⟨e24, h25, h⟩ := h
      refine rg ?_
      refine st 22 (t_move (o_t 1 rfl) rfl rfl) rfl rfl hL fun a s e_ hL => ?_
      refine st 23 (t_move (o_t 7 rfl) rfl rfl) rfl rfl hL fun a s e_ hL => ?_
      refine st 24 (t_idx (o_t 22 rfl) (o_t 23 rfl) h25 Tryd.underlying26 ty43 rfl rfl) rfl rfl hL fun a s e_ hL => ?_
      refine st 25 (t_load ty43 (o_t 24 rfl) rfl rfl) rfl rfl hL fun a s e_ hL => ?_
      have lt_d27 := hL.blt 8 rfl
      refine st_alloc En.SItem (z := (0, 0, 0, 0)) 9 hL tyz43 rfl rfl rfl rfl fun a s g26 hg_ hL => ?_
      have d27 : Dis (some g26) (some g19) := Dis.newg hg_ lt_d27
      refine st_stb (L' := [(0, (Pd.rep (En.slice En.SItem) s1_)), (1, (Pd.rep (En.slice En.SItem) s2_)), (2, (Pd.rep EnF108 cmp_)), (8, (Pd.box En.SItem s0.w.heap.size g19 e17)), (11, (Pd.rep (En.slice En.SItem) s1_)), (12, (Pd.rep (En.int .i64) (s1_.length : Int))), (13, (Pd.rep (En.int .i64) v9))]) 9 hL rfl (o_t 25 rfl) ty43 rfl rfl rfl (.cons (t := 0) rfl (fun _ h_ => h_.elim) (.cons (t := 1) rfl (fun _ h_ => h_.elim) (.cons (t := 2) rfl (fun _ h_ => h_.elim) (.cons (t := 8) rfl (Dis.bx (Dis.symm d27)) (.cons (t := 11) rfl (fun _ h_ => h_.elim) (.cons (t := 12) rfl (fun _ h_ => h_.elim) (.cons (t := 13) rfl (fun _ h_ => h_.elim) .nil))))))) fun s hL => ?_
      refine en' ?_
      show K23 a s.w
      refine hK23 _ _ ?_
      refine wp_seq_k fun K28 hK28 => ?_
      obtain ⟨r29, h30, h⟩ := h
      refine rg ?_
      refine st 26 (t_move (o_t 2 rfl) rfl rfl) rfl rfl hL fun a s e_ hL => ?_
      refine st 27 (t_loadb ty43 (o_t 8 rfl) rfl rfl) rfl rfl hL fun a s e_ hL => ?_
      refine st 28 (t_loadb ty43 (o_t 9 rfl) rfl rfl) rfl rfl hL fun a s e_ hL => ?_
      refine st 29 (t_callf (q := (e17, e24, r29)) (o_t 26 rfl) h30 (xs := [.tmp 27, .tmp 28]) (.cons (o_t 27 rfl) (.cons (o_t 28 rfl) .nil)) (fun _ _ _ h_ => h_) rfl rfl) rfl rfl hL fun a s e_ hL => ?_
      refine st 10 (t_assign (o_t 29 rfl) rfl rfl) rfl rfl hL fun a s e_ hL => ?_
      refine en' ?_
      show K28 a s.w
      refine hK28 _ _ ?_
      refine wp_seq_k fun K31 hK31 => ?_
      refine rg ?_
      refine st 30 (t_move (o_t 10 rfl) rfl rfl) rfl rfl hL fun a s e_ hL => ?_
      refine st 31 (t_nei (o_t 30 rfl) (o_i (k := .i64) (by decide)) rfl rfl) rfl rfl hL fun a s e_ hL => ?_
      refine en' ?_
      show K31 a s.w
      refine hK31 _ _ ?_
      refine cnd hL rfl (fun hb_ => ?_) (fun hb_ => ?_)
      · replace h := h.1 hb_
        refine wp_seq_k fun K32 hK32 => ?_
        refine rg ?_
        refine st 32 (t_move (o_t 10 rfl) rfl rfl) rfl rfl hL fun a s e_ hL => ?_
        refine st 6 (t_assign (o_t 32 rfl) rfl rfl) rfl rfl hL fun a s e_ hL => ?_
        refine en' ?_
        show K32 a s.w
        refine hK32 _ _ ?_
        subst h
        exact wp_ret (retq rfl hL rfl)
      · replace h := h.2 hb_
        refine wp_skip ?_
        show K15 a s.w
        refine hK15 _ _ ?_
        obtain ⟨h33, h⟩ := h
        refine rg ?_
        refine st 33 (t_add (o_t 13 rfl) (o_i (k := .i64) (by decide)) h33 rfl rfl) rfl rfl hL fun a s e_ hL => ?_
        refine st 13 (t_move (o_t 33 rfl) rfl rfl) rfl rfl hL fun a s e_ hL => ?_
        refine en' ?_
        exact hKL12 k11 a s (Nat.lt_succ_self _) ⟨(v9 + 1), hL.keep (.cons (t := 0) rfl (fun _ h_ => h_.elim) (.cons (t := 1) rfl (fun _ h_ => h_.elim) (.cons (t := 2) rfl (fun _ h_ => h_.elim) (.cons (t := 11) rfl (fun _ h_ => h_.elim) (.cons (t := 12) rfl (fun _ h_ => h_.elim) (.cons (t := 13) rfl (fun _ h_ => h_.elim) .nil)))))), h⟩
  · replace h := h.2 hb_
    refine wp_exit ?_
    exact J4 a s (hL.keep (.cons (t := 0) rfl (fun _ h_ => h_.elim) (.cons (t := 1) rfl (fun _ h_ => h_.elim) .nil))) h
theorem cmp_Or_int_ok {vals_ : (List Int)} {r_ : Int} (h : cmp_Or_int vals_ r_) : Fn Tryd.prog 70 [(Pd.rep (En.slice (En.int .i64)) vals_)] (Rq (Pd.rep (En.int .i64) r_)) := by
  unfold cmp_Or_int at h
  refine fn_of Tryd.func70 rfl Tryd.ntmps70 (by rfl) (by simp) fun s0 a hL => ?_
  refine wp_seq_k fun K1 hK1 => ?_
  refine rg ?_
  refine st 2 (t_assign (o_i (k := .i64) (by decide)) rfl rfl) rfl rfl hL fun a s e_ hL => ?_
  refine en' ?_
  show K1 a s.w
  refine hK1 _ _ ?_
  refine wp_seq_k fun K2 hK2 => ?_
  refine rg ?_
  refine st 3 (t_assign (o_i (k := .i64) (by decide)) rfl rfl) rfl rfl hL fun a s e_ hL => ?_
  refine en' ?_
  show K2 a s.w
  refine hK2 _ _ ?_
  refine wp_seq_k fun K3 hK3 => ?_
  refine wp_seq_k fun K4 hK4 => ?_
  refine rg ?_
  refine st 6 (t_move (o_t 0 rfl) rfl rfl) rfl rfl hL fun a s e_ hL => ?_
  refine st 7 (t_len (o_t 6 rfl) Tryd.underlying82 rfl rfl) rfl rfl hL fun a s e_ hL => ?_
  refine st 8 (t_move (o_i (k := .i64) (by decide)) rfl rfl) rfl rfl hL fun a s e_ hL => ?_
  refine en' ?_
  show K4 a s.w
  refine hK4 _ _ ?_
  refine wp_block ?_
  have J5 : ∀ (a : Act) (s : St), Has N0 18 s0 a s [(3, (Pd.rep (En.int .i64) 0))] → ((cmp_Or_int.j1 r_)) → K3 a s.w := by
    intro a s hL h
    unfold cmp_Or_int.j1 at h
    show K3 a s.w
    refine hK3 _ _ ?_
    refine wp_seq_k fun K6 hK6 => ?_
    refine rg ?_
    refine st 17 (t_move (o_t 3 rfl) rfl rfl) rfl rfl hL fun a s e_ hL => ?_
    refine st 2 (t_assign (o_t 17 rfl) rfl rfl) rfl rfl hL fun a s e_ hL => ?_
    refine en' ?_
    show K6 a s.w
    refine hK6 _ _ ?_
    subst h
    exact wp_ret (retq rfl hL rfl)
  obtain ⟨k8, h⟩ := h
  refine lpg (fun k9 a s => ∃ (v7 : Int), Has N0 18 s0 a s [(3, (Pd.rep (En.int .i64) 0)), (6, (Pd.rep (En.slice (En.int .i64)) vals_)), (7, (Pd.rep (En.int .i64) (vals_.length : Int))), (8, (Pd.rep (En.int .i64) v7))] ∧ cmp_Or_int.l1 vals_ r_ (cmp_Or_int.j1 r_) k9 v7) k8 ⟨0, hL.keep (.cons (t := 3) rfl (fun _ h_ => h_.elim) (.cons (t := 6) rfl (fun _ h_ => h_.elim) (.cons (t := 7) rfl (fun _ h_ => h_.elim) (.cons (t := 8) rfl (fun _ h_ => h_.elim) .nil)))), h⟩ ?_
  rintro k9 a s ⟨v7, hL, h⟩ KL10 hKL10
  cases k9 with
  | zero => exact h.elim
  | succ k9 =>
  unfold cmp_Or_int.l1 at h
  refine wp_seq_k fun K11 hK11 => ?_
  refine rg ?_
  refine st 9 (t_lss (o_t 8 rfl) (o_t 7 rfl) rfl rfl) rfl rfl hL fun a s e_ hL => ?_
  refine en' ?_
  show K11 a s.w
  refine hK11 _ _ ?_
  refine wp_seq_k fun K12 hK12 => ?_
  refine cnd hL rfl (fun hb_ => ?_) (fun hb_ => ?_)
  · replace h := h.1 hb_
    refine wp_skip ?_
    show K12 a s.w
    refine hK12 _ _ ?_
    refine wp_seq_k fun K13 hK13 => ?_
    refine wp_block ?_
    refine wp_seq_k fun K14 hK14 => ?_
    obtain ⟨e15, h16, h⟩ := h
    refine rg ?_
    refine st 10 (t_idx (o_t 6 rfl) (o_t 8 rfl) h16 Tryd.underlying82 ty3 rfl rfl) rfl rfl hL fun a s e_ hL => ?_
    refine st 11 (t_load ty3 (o_t 10 rfl) rfl rfl) rfl rfl hL fun a s e_ hL => ?_
    refine st 5 (t_assign (o_t 11 rfl) rfl rfl) rfl rfl hL fun a s e_ hL => ?_
    refine en' ?_
    show K14 a s.w
    refine hK14 _ _ ?_
    refine wp_seq_k fun K17 hK17 => ?_
    refine rg ?_
    refine st 12 (t_move (o_t 5 rfl) rfl rfl) rfl rfl hL fun a s e_ hL => ?_
    refine st 13 (t_move (o_t 3 rfl) rfl rfl) rfl rfl hL fun a s e_ hL => ?_
    refine st 14 (t_nei (o_t 12 rfl) (o_t 13 rfl) rfl rfl) rfl rfl hL fun a s e_ hL => ?_
    refine en' ?_
    show K17 a s.w
    refine hK17 _ _ ?_
    refine cnd hL rfl (fun hb_ => ?_) (fun hb_ => ?_)
    · replace h := h.1 hb_
      refine wp_seq_k fun K18 hK18 => ?_
      refine rg ?_
      refine st 15 (t_move (o_t 5 rfl) rfl rfl) rfl rfl hL fun a s e_ hL => ?_
      refine st 2 (t_assign (o_t 15 rfl) rfl rfl) rfl rfl hL fun a s e_ hL => ?_
      refine en' ?_
      show K18 a s.w
      refine hK18 _ _ ?_
      subst h
      exact wp_ret (retq rfl hL rfl)
    · replace h := h.2 hb_
      refine wp_skip ?_
      show K13 a s.w
      refine hK13 _ _ ?_
      obtain ⟨h19, h⟩ := h
      refine rg ?_
      refine st 16 (t_add (o_t 8 rfl) (o_i (k := .i64) (by decide)) h19 rfl rfl) rfl rfl hL fun a s e_ hL => ?_
      refine st 8 (t_move (o_t 16 rfl) rfl rfl) rfl rfl hL fun a s e_ hL => ?_
      refine en' ?_
      exact hKL10 k9 a s (Nat.lt_succ_self _) ⟨(v7 + 1), hL.keep (.cons (t := 3) rfl (fun _ h_ => h_.elim) (.cons (t := 6) rfl (fun _ h_ => h_.elim) (.cons (t := 7) rfl (fun _ h_ => h_.elim) (.cons (t := 8) rfl (fun _ h_ => h_.elim) .nil)))), h⟩
  · replace h := h.2 hb_
    refine wp_exit ?_
    exact J5 a s (hL.keep (.cons (t := 3) rfl (fun _ h_ => h_.elim) .nil)) h
theorem slices_Clone_api_State_api_Item_ok {s_ : (List SItem)} {r_ : (List SItem)} (h : slices_Clone_api_State_api_Item s_ r_) : Fn Tryd.prog 64 [(Pd.rep (En.slice En.SItem) s_)] (Ro En.SItem 43 r_) := by
  unfold slices_Clone_api_State_api_Item at h
  refine fn_of Tryd.func64 rfl Tryd.ntmps64 (by rfl) (by simp) fun s0 a hL => ?_
  refine wp_seq_k fun K1 hK1 => ?_
  refine rg ?_
  refine st 2 (t_assign (o_nil (E := En.SItem) (N := s0.w.heap.size) (te := 43)) rfl rfl) rfl rfl hL fun a s e_ hL => ?_
  refine en' ?_
  show K1 a s.w
  refine hK1 _ _ ?_
  refine wp_seq_k fun K2 hK2 => ?_
  refine wp_seq_k fun K3 hK3 => ?_
  refine rg ?_
  refine st 3 (t_move (o_t 0 rfl) rfl rfl) rfl rfl hL fun a s e_ hL => ?_
  refine st 4 (t_isnil (o_t 3 rfl) Tryd.underlying26 rfl rfl) rfl rfl hL fun a s e_ hL => ?_
  obtain ⟨b4, h5, hL⟩ := hL.nilq 4 rfl
  replace h := h b4 h5
  refine en' ?_
  show K3 a s.w
  refine hK3 _ _ ?_
  refine cnd hL rfl (fun hb_ => ?_) (fun hb_ => ?_)
  · replace h := h.1 hb_
    refine wp_seq_k fun K6 hK6 => ?_
    refine rg ?_
    refine st 2 (t_assign (o_nil (E := En.SItem) (N := s0.w.heap.size) (te := 43)) rfl rfl) rfl rfl hL fun a s e_ hL => ?_
    refine en' ?_
    show K6 a s.w
    refine hK6 _ _ ?_
    subst h
    exact wp_ret (reto rfl hL rfl)
  · replace h := h.2 hb_
    refine wp_skip ?_
    show K2 a s.w
    refine hK2 _ _ ?_
    refine wp_seq_k fun K7 hK7 => ?_
    obtain ⟨h9, h⟩ := h
    refine rg ?_
    refine st_new En.SItem 5 hL Tryd.underlying26 ty43 rfl rfl rfl rfl fun a s g8 hg_ hL => ?_
    refine st 6 (t_move (o_t 0 rfl) rfl rfl) rfl rfl hL fun a s e_ hL => ?_
    refine st_app (L' := [(2, (Pd.row En.SItem s0.w.heap.size 43 none ([] : (List SItem))))]) 7 hL (o_t 5 rfl) (o_t 6 rfl) Tryd.underlying26 ty43 h9 rfl rfl rfl rfl (.cons (t := 2) rfl no_own .nil) fun a s og10 hg_ hL => ?_
    refine st 2 (t_assign (o_t 7 rfl) rfl rfl) rfl rfl hL fun a s e_ hL => ?_
    refine en' ?_
    show K7 a s.w
    refine hK7 _ _ ?_
    subst h
    exact wp_ret (reto rfl hL rfl)
end Go.Proofs.YtdidjelkkanenaaDoor.V
namespace Go.Proofs.YtdidjelkkanenaaDoor.V
open Go
set_option linter.unusedVariables false
def ref03_in (s_ : Str) (i_ : Int) (from_ : Int) (to_ : Int) (r_ : Bool) : Prop := ∃ c3 : Int, (((decide (i_ < (s_.length : Int))) = true) → byte? s_ i_ = some c3) ∧ ∃ b5 : Bool, b5 = ((decide (i_ < (s_.length : Int))) && (decide (from_ ≤ c3))) ∧ ∃ c7 : Int, (((b5) = true) → byte? s_ i_ = some c7) ∧ r_ = (b5 && (decide (c7 ≤ to_)))
def ref03_Utf8.j1 (r_ : Bool) : Prop := r_ = true
def ref03_Utf8.l1 (s_ : Str) (r_ : Bool) (X1 : Prop) : Nat → Int → Prop
  | 0, _ => False
  | k_0 + 1, i6 => ((decide (i6 < (s_.length : Int))) = true → ∃ c13 : Int, byte? s_ i6 = some c13 ∧ (InR .i64 (i6 + 1)) ∧ ∃ r17 : Bool, ref03_in s_ (i6 + 1) 128 191 r17 ∧ (InR .i64 (i6 + 2)) ∧ ∃ r21 : Bool, ref03_in s_ (i6 + 2) 128 191 r21 ∧ (InR .i64 (i6 + 3)) ∧ ∃ r25 : Bool, ref03_in s_ (i6 + 3) 128 191 r25 ∧ ((decide (c13 < 128)) = true → (InR .i64 (i6 + 1)) ∧ ref03_Utf8.l1 s_ r_ X1 k_0 (i6 + 1)) ∧ ((decide (c13 < 128)) = false → ∃ b30 : Bool, b30 = (((decide (194 ≤ c13)) && (decide (c13 ≤ 223))) && r17) ∧ ((b30) = true → (InR .i64 (i6 + 2)) ∧ ref03_Utf8.l1 s_ r_ X1 k_0 (i6 + 2)) ∧ ((b30) = false → ((((c13 == 224)) = true) → InR .i64 (i6 + 1)) ∧ ∃ r35 : Bool, ((((c13 == 224)) = true) → ref03_in s_ (i6 + 1) 160 191 r35) ∧ (((((c13 == 224) && r35) && r21)) = true → (InR .i64 (i6 + 3)) ∧ ref03_Utf8.l1 s_ r_ X1 k_0 (i6 + 3)) ∧ (((((c13 == 224) && r35) && r21)) = false → ∃ b39 : Bool, b39 = (((decide (225 ≤ c13)) && (decide (c13 ≤ 236))) || (c13 == 238)) ∧ (((((b39 || (c13 == 239)) && r17) && r21)) = true → (InR .i64 (i6 + 3)) ∧ ref03_Utf8.l1 s_ r_ X1 k_0 (i6 + 3)) ∧ (((((b39 || (c13 == 239)) && r17) && r21)) = false → ((((c13 == 237)) = true) → InR .i64 (i6 + 1)) ∧ ∃ r44 : Bool, ((((c13 == 237)) = true) → ref03_in s_ (i6 + 1) 128 159 r44) ∧ (((((c13 == 237) && r44) && r21)) = true → (InR .i64 (i6 + 3)) ∧ ref03_Utf8.l1 s_ r_ X1 k_0 (i6 + 3)) ∧ (((((c13 == 237) && r44) && r21)) = false → ((((c13 == 240)) = true) → InR .i64 (i6 + 1)) ∧ ∃ r49 : Bool, ((((c13 == 240)) = true) → ref03_in s_ (i6 + 1) 144 191 r49) ∧ ((((((c13 == 240) && r49) && r21) && r25)) = true → (InR .i64 (i6 + 4)) ∧ ref03_Utf8.l1 s_ r_ X1 k_0 (i6 + 4)) ∧ ((((((c13 == 240) && r49) && r21) && r25)) = false → ∃ b53 : Bool, b53 = (((decide (241 ≤ c13)) && (decide (c13 ≤ 243))) && r17) ∧ ((((b53 && r21) && r25)) = true → (InR .i64 (i6 + 4)) ∧ ref03_Utf8.l1 s_ r_ X1 k_0 (i6 + 4)) ∧ ((((b53 && r21) && r25)) = false → ((((c13 == 244)) = true) → InR .i64 (i6 + 1)) ∧ ∃ r58 : Bool, ((((c13 == 244)) = true) → ref03_in s_ (i6 + 1) 128 143 r58) ∧ ((((((c13 == 244) && r58) && r21) && r25)) = true → (InR .i64 (i6 + 4)) ∧ ref03_Utf8.l1 s_ r_ X1 k_0 (i6 + 4)) ∧ ((((((c13 == 244) && r58) && r21) && r25)) = false → r_ = false))))))))) ∧ ((decide (i6 < (s_.length : Int))) = false → X1)
def ref03_Utf8 (s_ : Str) (r_ : Bool) : Prop := ∃ k7, ref03_Utf8.l1 s_ r_ (ref03_Utf8.j1 r_) k7 0
end Go.Proofs.YtdidjelkkanenaaDoor.V
namespace Go.Proofs.YtdidjelkkanenaaDoor.V
open Go
set_option linter.unusedVariables false
set_option maxRecDepth 100000
theorem ref03_in_ok {s_ : Str} {i_ : Int} {from_ : Int} {to_ : Int} {r_ : Bool} (h : ref03_in s_ i_ from_ to_ r_) : Fn Tryd.prog 104 [(Pd.rep En.str s_), (Pd.rep (En.int .i64) i_), (Pd.rep (En.int .i64) from_), (Pd.rep (En.int .i64) to_)] (Rq (Pd.rep En.bool r_)) := by
  unfold ref03_in at h
  refine fn_of Tryd.func104 rfl Tryd.ntmps104 (by rfl) (by simp) fun s0 a hL => ?_
  refine wp_seq_k fun K1 hK1 => ?_
  refine rg ?_
  refine st 8 (t_assign o_b rfl rfl) rfl rfl hL fun a s e_ hL => ?_
  refine en' ?_
  show K1 a s.w
  refine hK1 _ _ ?_
  refine wp_seq_k fun K2 hK2 => ?_
  obtain ⟨c3, h4, b5, h6, c7, h8, h⟩ := h
  refine rg ?_
  refine st 9 (t_move (o_t 1 rfl) rfl rfl) rfl rfl hL fun a s e_ hL => ?_
  refine st 10 (t_move (o_t 0 rfl) rfl rfl) rfl rfl hL fun a s e_ hL => ?_
  refine st 11 (t_slen (o_t 10 rfl) Tryd.underlying9 rfl rfl) rfl rfl hL fun a s e_ hL => ?_
  refine st 12 (t_lss (o_t 9 rfl) (o_t 11 rfl) rfl rfl) rfl rfl hL fun a s e_ hL => ?_
  refine st 13 (t_move (o_t 12 rfl) rfl rfl) rfl rfl hL fun a s e_ hL => ?_
  refine st 14 (t_g1 rfl rfl rfl (fun hc_ => t_move (o_t 0 rfl) rfl rfl)) rfl rfl hL fun a s e_ hL => ?_
  refine st 15 (t_g1 rfl rfl rfl (fun hc_ => t_move (o_t 1 rfl) rfl rfl)) rfl rfl hL fun a s e_ hL => ?_
  refine st 16 (t_g1 rfl rfl rfl (fun hc_ => t_sidx (o_w hc_ 14 rfl) (o_w hc_ 15 rfl) (h4 hc_) Tryd.underlying9 rfl rfl)) rfl rfl hL fun a s e_ hL => ?_
  refine st 17 (t_g1 rfl rfl rfl (fun hc_ => t_up (o_w hc_ 16 rfl) (by decide) Tryd.underlying5 Tryd.underlying3 rfl rfl)) rfl rfl hL fun a s e_ hL => ?_
  refine st 18 (t_g1 rfl rfl rfl (fun hc_ => t_move (o_t 2 rfl) rfl rfl)) rfl rfl hL fun a s e_ hL => ?_
  refine st 19 (t_g1 rfl rfl rfl (fun hc_ => t_geq (o_w hc_ 17 rfl) (o_w hc_ 18 rfl) rfl rfl)) rfl rfl hL fun a s e_ hL => ?_
  refine st 20 (h6 ▸ (t_and (o_t 13 rfl) (fun hc2_ => (o_w hc2_ 19 rfl)) rfl rfl)) rfl rfl hL fun a s e_ hL => ?_
  refine st 21 (t_move (o_t 20 rfl) rfl rfl) rfl rfl hL fun a s e_ hL => ?_
  refine st 22 (t_g1 rfl rfl rfl (fun hc_ => t_move (o_t 0 rfl) rfl rfl)) rfl rfl hL fun a s e_ hL => ?_
  refine st 23 (t_g1 rfl rfl rfl (fun hc_ => t_move (o_t 1 rfl) rfl rfl)) rfl rfl hL fun a s e_ hL => ?_
  refine st 24 (t_g1 rfl rfl rfl (fun hc_ => t_sidx (o_w hc_ 22 rfl) (o_w hc_ 23 rfl) (h8 hc_) Tryd.underlying9 rfl rfl)) rfl rfl hL fun a s e_ hL => ?_
  refine st 25 (t_g1 rfl rfl rfl (fun hc_ => t_up (o_w hc_ 24 rfl) (by decide) Tryd.underlying5 Tryd.underlying3 rfl rfl)) rfl rfl hL fun a s e_ hL => ?_
  refine st 26 (t_g1 rfl rfl rfl (fun hc_ => t_move (o_t 3 rfl) rfl rfl)) rfl rfl hL fun a s e_ hL => ?_
  refine st 27 (t_g1 rfl rfl rfl (fun hc_ => t_leq (o_w hc_ 25 rfl) (o_w hc_ 26 rfl) rfl rfl)) rfl rfl hL fun a s e_ hL => ?_
  refine st 28 (t_and (o_t 21 rfl) (fun hc2_ => (o_w hc2_ 27 rfl)) rfl rfl) rfl rfl hL fun a s e_ hL => ?_
  refine st 8 (t_assign (o_t 28 rfl) rfl rfl) rfl rfl hL fun a s e_ hL => ?_
  refine en' ?_
  show K2 a s.w
  refine hK2 _ _ ?_
  subst h
  exact wp_ret (retq rfl hL rfl)
theorem ref03_Utf8_ok {s_ : Str} {r_ : Bool} (h : ref03_Utf8 s_ r_) : Fn Tryd.prog 96 [(Pd.rep En.str s_)] (Rq (Pd.rep En.bool r_)) := by
  unfold ref03_Utf8 at h
  refine fn_of Tryd.func96 rfl Tryd.ntmps96 (by rfl) (by simp) fun s0 a hL => ?_
  refine wp_seq_k fun K1 hK1 => ?_
  refine rg ?_
  refine st 2 (t_assign o_b rfl rfl) rfl rfl hL fun a s e_ hL => ?_
  refine en' ?_
  show K1 a s.w
  refine hK1 _ _ ?_
  refine wp_seq_k fun K2 hK2 => ?_
  refine rg ?_
  refine st 3 (t_assign (o_i (k := .i64) (by decide)) rfl rfl) rfl rfl hL fun a s e_ hL => ?_
  refine en' ?_
  show K2 a s.w
  refine hK2 _ _ ?_
  refine wp_seq_k fun K3 hK3 => ?_
  refine wp_block ?_
  have J4 : ∀ (a : Act) (s : St), Has N0 148 s0 a s [] → ((ref03_Utf8.j1 r_)) → K3 a s.w := by
    intro a s hL h
    unfold ref03_Utf8.j1 at h
    show K3 a s.w
    refine hK3 _ _ ?_
    refine wp_seq_k fun K5 hK5 => ?_
    refine rg ?_
    refine st 2 (t_assign o_b rfl rfl) rfl rfl hL fun a s e_ hL => ?_
    refine en' ?_
    show K5 a s.w
    refine hK5 _ _ ?_
    subst h
    exact wp_ret (retq rfl hL rfl)
  obtain ⟨k7, h⟩ := h
  refine lpg (fun k8 a s => ∃ (i6 : Int), Has N0 148 s0 a s [(0, (Pd.rep En.str s_)), (3, (Pd.rep (En.int .i64) i6))] ∧ ref03_Utf8.l1 s_ r_ (ref03_Utf8.j1 r_) k8 i6) k7 ⟨0, hL.keep (.cons (t := 0) rfl (fun _ h_ => h_.elim) (.cons (t := 3) rfl (fun _ h_ => h_.elim) .nil)), h⟩ ?_
  rintro k8 a s ⟨i6, hL, h⟩ KL9 hKL9
  cases k8 with
  | zero => exact h.elim
  | succ k8 =>
  unfold ref03_Utf8.l1 at h
  refine wp_seq_k fun K10 hK10 => ?_
  refine wp_seq_k fun K11 hK11 => ?_
  refine rg ?_
  refine st 8 (t_move (o_t 3 rfl) rfl rfl) rfl rfl hL fun a s e_ hL => ?_
  refine st 9 (t_move (o_t 0 rfl) rfl rfl) rfl rfl hL fun a s e_ hL => ?_
  refine st 10 (t_slen (o_t 9 rfl) Tryd.underlying9 rfl rfl) rfl rfl hL fun a s e_ hL => ?_
  refine st 11 (t_lss (o_t 8 rfl) (o_t 10 rfl) rfl rfl) rfl rfl hL fun a s e_ hL => ?_
  refine en' ?_
  show K11 a s.w
  refine hK11 _ _ ?_
  refine cnd hL rfl (fun hb_ => ?_) (fun hb_ => ?_)
  · replace h := h.1 hb_
    refine wp_skip ?_
    show K10 a s.w
    refine hK10 _ _ ?_
    refine wp_block ?_
    refine wp_seq_k fun K12 hK12 => ?_
    obtain ⟨c13, h14, h⟩ := h
    refine rg ?_
    refine st 12 (t_move (o_t 0 rfl) rfl rfl) rfl rfl hL fun a s e_ hL => ?_
    refine st 13 (t_move (o_t 3 rfl) rfl rfl) rfl rfl hL fun a s e_ hL => ?_
    refine st 14 (t_sidx (o_t 12 rfl) (o_t 13 rfl) h14 Tryd.underlying9 rfl rfl) rfl rfl hL fun a s e_ hL => ?_
    refine st 15 (t_up (o_t 14 rfl) (by decide) Tryd.underlying5 Tryd.underlying3 rfl rfl) rfl rfl hL fun a s e_ hL => ?_
    refine st 4 (t_assign (o_t 15 rfl) rfl rfl) rfl rfl hL fun a s e_ hL => ?_
    refine en' ?_
    show K12 a s.w
    refine hK12 _ _ ?_
    refine wp_seq_k fun K15 hK15 => ?_
    obtain ⟨h16, r17, h18, h⟩ := h
    refine rg ?_
    refine st 16 (t_move (o_t 0 rfl) rfl rfl) rfl rfl hL fun a s e_ hL => ?_
    refine st 17 (t_move (o_t 3 rfl) rfl rfl) rfl rfl hL fun a s e_ hL => ?_
    refine st 18 (t_add (o_t 17 rfl) (o_i (k := .i64) (by decide)) h16 rfl rfl) rfl rfl hL fun a s e_ hL => ?_
    refine st 19 (t_call (ref03_in_ok h18) (xs := [.tmp 16, .tmp 18, .const (.int .i64 128), .const (.int .i64 191)]) (.cons (o_t 16 rfl) (.cons (o_t 18 rfl) (.cons (o_i (k := .i64) (by decide)) (.cons (o_i (k := .i64) (by decide)) .nil)))) rfl rfl) rfl rfl hL fun a s e_ hL => ?_
    refine st 5 (t_assign (o_t 19 rfl) rfl rfl) rfl rfl hL fun a s e_ hL => ?_
    refine en' ?_
    show K15 a s.w
    refine hK15 _ _ ?_
    refine wp_seq_k fun K19 hK19 => ?_
    obtain ⟨h20, r21, h22, h⟩ := h
    refine rg ?_
    refine st 20 (t_move (o_t 0 rfl) rfl rfl) rfl rfl hL fun a s e_ hL => ?_
    refine st 21 (t_move (o_t 3 rfl) rfl rfl) rfl rfl hL fun a s e_ hL => ?_
    refine st 22 (t_add (o_t 21 rfl) (o_i (k := .i64) (by decide)) h20 rfl rfl) rfl rfl hL fun a s e_ hL => ?_
    refine st 23 (t_call (ref03_in_ok h22) (xs := [.tmp 20, .tmp 22, .const (.int .i64 128), .const (.int .i64 191)]) (.cons (o_t 20 rfl) (.cons (o_t 22 rfl) (.cons (o_i (k := .i64) (by decide)) (.cons (o_i (k := .i64) (by decide)) .nil)))) rfl rfl) rfl rfl hL fun a s e_ hL => ?_
    refine st 6 (t_assign (o_t 23 rfl) rfl rfl) rfl rfl hL fun a s e_ hL => ?_
    refine en' ?_
    show K19 a s.w
    refine hK19 _ _ ?_
    refine wp_seq_k fun K23 hK23 => ?_
    obtain ⟨h24, r25, h26, h⟩ := h
    refine rg ?_
    refine st 24 (t_move (o_t 0 rfl) rfl rfl) rfl rfl hL fun a s e_ hL => ?_
    refine st 25 (t_move (o_t 3 rfl) rfl rfl) rfl rfl hL fun a s e_ hL => ?_
    refine st 26 (t_add (o_t 25 rfl) (o_i (k := .i64) (by decide)) h24 rfl rfl) rfl rfl hL fun a s e_ hL => ?_
    refine st 27 (t_call (ref03_in_ok h26) (xs := [.tmp 24, .tmp 26, .const (.int .i64 128), .const (.int .i64 191)]) (.cons (o_t 24 rfl) (.cons (o_t 26 rfl) (.cons (o_i (k := .i64) (by decide)) (.cons (o_i (k := .i64) (by decide)) .nil)))) rfl rfl) rfl rfl hL fun a s e_ hL => ?_
    refine st 7 (t_assign (o_t 27 rfl) rfl rfl) rfl rfl hL fun a s e_ hL => ?_
    refine en' ?_
    show K23 a s.w
    refine hK23 _ _ ?_
    refine wp_block ?_
    refine wp_seq_k fun K27 hK27 => ?_
    refine rg ?_
    refine st 29 (t_move (o_t 4 rfl) rfl rfl) rfl rfl hL fun a s e_ hL => ?_
    refine st 30 (t_lss (o_t 29 rfl) (o_i (k := .i64) (by decide)) rfl rfl) rfl rfl hL fun a s e_ hL => ?_
    refine st 28 (t_assign (o_t 30 rfl) rfl rfl) rfl rfl hL fun a s e_ hL => ?_
    refine en' ?_
    show K27 a s.w
    refine hK27 _ _ ?_
    refine cnd hL rfl (fun hb_ => ?_) (fun hb_ => ?_)
    · replace h := h.1 hb_
      obtain ⟨h28, h⟩ := h
      refine rg ?_
      refine st 31 (t_move (o_t 3 rfl) rfl rfl) rfl rfl hL fun a s e_ hL => ?_
      refine st 32 (t_add (o_t 31 rfl) (o_i (k := .i64) (by decide)) h28 rfl rfl) rfl rfl hL fun a s e_ hL => ?_
      refine st 3 (t_assign (o_t 32 rfl) rfl rfl) rfl rfl hL fun a s e_ hL => ?_
      refine en' ?_
      exact hKL9 k8 a s (Nat.lt_succ_self _) ⟨(i6 + 1), hL.keep (.cons (t := 0) rfl (fun _ h_ => h_.elim) (.cons (t := 3) rfl (fun _ h_ => h_.elim) .nil)), h⟩
    · replace h := h.2 hb_
      refine wp_seq_k fun K29 hK29 => ?_
      obtain ⟨b30, h31, h⟩ := h
      refine rg ?_
      refine st 34 (t_move (o_t 4 rfl) rfl rfl) rfl rfl hL fun a s e_ hL => ?_
      refine st 35 (t_geq (o_t 34 rfl) (o_i (k := .i64) (by decide)) rfl rfl) rfl rfl hL fun a s e_ hL => ?_
      refine st 36 (t_move (o_t 35 rfl) rfl rfl) rfl rfl hL fun a s e_ hL => ?_
      refine st 37 (t_g1 rfl rfl rfl (fun hc_ => t_move (o_t 4 rfl) rfl rfl)) rfl rfl hL fun a s e_ hL => ?_
      refine st 38 (t_g1 rfl rfl rfl (fun hc_ => t_leq (o_w hc_ 37 rfl) (o_i (k := .i64) (by decide)) rfl rfl)) rfl rfl hL fun a s e_ hL => ?_
      refine st 39 (t_and (o_t 36 rfl) (fun hc2_ => (o_w hc2_ 38 rfl)) rfl rfl) rfl rfl hL fun a s e_ hL => ?_
      refine st 40 (t_move (o_t 39 rfl) rfl rfl) rfl rfl hL fun a s e_ hL => ?_
      refine st 41 (t_g1 rfl rfl rfl (fun hc_ => t_move (o_t 5 rfl) rfl rfl)) rfl rfl hL fun a s e_ hL => ?_
      refine st 42 (h31 ▸ (t_and (o_t 40 rfl) (fun hc2_ => (o_w hc2_ 41 rfl)) rfl rfl)) rfl rfl hL fun a s e_ hL => ?_
      refine st 33 (t_assign (o_t 42 rfl) rfl rfl) rfl rfl hL fun a s e_ hL => ?_
      refine en' ?_
      show K29 a s.w
      refine hK29 _ _ ?_
      refine cnd hL rfl (fun hb_ => ?_) (fun hb_ => ?_)
      · replace h := h.1 hb_
        obtain ⟨h32, h⟩ := h
        refine rg ?_
        refine st 43 (t_move (o_t 3 rfl) rfl rfl) rfl rfl hL fun a s e_ hL => ?_
        refine st 44 (t_add (o_t 43 rfl) (o_i (k := .i64) (by decide)) h32 rfl rfl) rfl rfl hL fun a s e_ hL => ?_
        refine st 3 (t_assign (o_t 44 rfl) rfl rfl) rfl rfl hL fun a s e_ hL => ?_
        refine en' ?_
        exact hKL9 k8 a s (Nat.lt_succ_self _) ⟨(i6 + 2), hL.keep (.cons (t := 0) rfl (fun _ h_ => h_.elim) (.cons (t := 3) rfl (fun _ h_ => h_.elim) .nil)), h⟩
      · replace h := h.2 hb_
        refine wp_seq_k fun K33 hK33 => ?_
        obtain ⟨h34, r35, h36, h⟩ := h
        refine rg ?_
        refine st 46 (t_move (o_t 4 rfl) rfl rfl) rfl rfl hL fun a s e_ hL => ?_
        refine st 47 (t_eqi (o_t 46 rfl) (o_i (k := .i64) (by decide)) rfl rfl) rfl rfl hL fun a s e_ hL => ?_
        refine st 48 (t_move (o_t 47 rfl) rfl rfl) rfl rfl hL fun a s e_ hL => ?_
        refine st 49 (t_g1 rfl rfl rfl (fun hc_ => t_move (o_t 0 rfl) rfl rfl)) rfl rfl hL fun a s e_ hL => ?_
        refine st 50 (t_g1 rfl rfl rfl (fun hc_ => t_move (o_t 3 rfl) rfl rfl)) rfl rfl hL fun a s e_ hL => ?_
        refine st 51 (t_g1 rfl rfl rfl (fun hc_ => t_add (o_w hc_ 50 rfl) (o_i (k := .i64) (by decide)) (h34 hc_) rfl rfl)) rfl rfl hL fun a s e_ hL => ?_
        refine st 52 (t_g1 rfl rfl rfl (fun hc_ => t_call (ref03_in_ok (h36 hc_)) (xs := [.tmp 49, .tmp 51, .const (.int .i64 160), .const (.int .i64 191)]) (.cons (o_w hc_ 49 rfl) (.cons (o_w hc_ 51 rfl) (.cons (o_i (k := .i64) (by decide)) (.cons (o_i (k := .i64) (by decide)) .nil)))) rfl rfl)) rfl rfl hL fun a s e_ hL => ?_
        refine st 53 (t_and (o_t 48 rfl) (fun hc2_ => (o_w hc2_ 52 rfl)) rfl rfl) rfl rfl hL fun a s e_ hL => ?_
        refine st 54 (t_move (o_t 53 rfl) rfl rfl) rfl rfl hL fun a s e_ hL => ?_
        refine st 55 (t_g1 rfl rfl rfl (fun hc_ => t_move (o_t 6 rfl) rfl rfl)) rfl rfl hL fun a s e_ hL => ?_
        refine st 56 (t_and (o_t 54 rfl) (fun hc2_ => (o_w hc2_ 55 rfl)) rfl rfl) rfl rfl hL fun a s e_ hL => ?_
        refine st 45 (t_assign (o_t 56 rfl) rfl rfl) rfl rfl hL fun a s e_ hL => ?_
        refine en' ?_
        show K33 a s.w
        refine hK33 _ _ ?_
        refine cnd hL rfl (fun hb_ => ?_) (fun hb_ => ?_)
        · replace h := h.1 hb_
          obtain ⟨h37, h⟩ := h
          refine rg ?_
          refine st 57 (t_move (o_t 3 rfl) rfl rfl) rfl rfl hL fun a s e_ hL => ?_
          refine st 58 (t_add (o_t 57 rfl) (o_i (k := .i64) (by decide)) h37 rfl rfl) rfl rfl hL fun a s e_ hL => ?_
          refine st 3 (t_assign (o_t 58 rfl) rfl rfl) rfl rfl hL fun a s e_ hL => ?_
          refine en' ?_
          exact hKL9 k8 a s (Nat.lt_succ_self _) ⟨(i6 + 3), hL.keep (.cons (t := 0) rfl (fun _ h_ => h_.elim) (.cons (t := 3) rfl (fun _ h_ => h_.elim) .nil)), h⟩
        · replace h := h.2 hb_
          refine wp_seq_k fun K38 hK38 => ?_
          obtain ⟨b39, h40, h⟩ := h
          refine rg ?_
          refine st 60 (t_move (o_t 4 rfl) rfl rfl) rfl rfl hL fun a s e_ hL => ?_
          refine st 61 (t_geq (o_t 60 rfl) (o_i (k := .i64) (by decide)) rfl rfl) rfl rfl hL fun a s e_ hL => ?_
          refine st 62 (t_move (o_t 61 rfl) rfl rfl) rfl rfl hL fun a s e_ hL => ?_
          refine st 63 (t_g1 rfl rfl rfl (fun hc_ => t_move (o_t 4 rfl) rfl rfl)) rfl rfl hL fun a s e_ hL => ?_
          refine st 64 (t_g1 rfl rfl rfl (fun hc_ => t_leq (o_w hc_ 63 rfl) (o_i (k := .i64) (by decide)) rfl rfl)) rfl rfl hL fun a s e_ hL => ?_
          refine st 65 (t_and (o_t 62 rfl) (fun hc2_ => (o_w hc2_ 64 rfl)) rfl rfl) rfl rfl hL fun a s e_ hL => ?_
          refine st 66 (t_move (o_t 65 rfl) rfl rfl) rfl rfl hL fun a s e_ hL => ?_
          refine st 67 (t_g1 rfl rfl rfl (fun hc_ => t_move (o_t 4 rfl) rfl rfl)) rfl rfl hL fun a s e_ hL => ?_
          refine st 68 (t_g1 rfl rfl rfl (fun hc_ => t_eqi (o_w hc_ 67 rfl) (o_i (k := .i64) (by decide)) rfl rfl)) rfl rfl hL fun a s e_ hL => ?_
          refine st 69 (h40 ▸ (t_or (o_t 66 rfl) (fun hc2_ => (o_w hc2_ 68 rfl)) rfl rfl)) rfl rfl hL fun a s e_ hL => ?_
          refine st 70 (t_move (o_t 69 rfl) rfl rfl) rfl rfl hL fun a s e_ hL => ?_
          refine st 71 (t_g1 rfl rfl rfl (fun hc_ => t_move (o_t 4 rfl) rfl rfl)) rfl rfl hL fun a s e_ hL => ?_
          refine st 72 (t_g1 rfl rfl rfl (fun hc_ => t_eqi (o_w hc_ 71 rfl) (o_i (k := .i64) (by decide)) rfl rfl)) rfl rfl hL fun a s e_ hL => ?_
          refine st 73 (t_or (o_t 70 rfl) (fun hc2_ => (o_w hc2_ 72 rfl)) rfl rfl) rfl rfl hL fun a s e_ hL => ?_
          refine st 74 (t_move (o_t 73 rfl) rfl rfl) rfl rfl hL fun a s e_ hL => ?_
          refine st 75 (t_g1 rfl rfl rfl (fun hc_ => t_move (o_t 5 rfl) rfl rfl)) rfl rfl hL fun a s e_ hL => ?_
          refine st 76 (t_and (o_t 74 rfl) (fun hc2_ => (o_w hc2_ 75 rfl)) rfl rfl) rfl rfl hL fun a s e_ hL => ?_
          refine st 77 (t_move (o_t 76 rfl) rfl rfl) rfl rfl hL fun a s e_ hL => ?_
          refine st 78 (t_g1 rfl rfl rfl (fun hc_ => t_move (o_t 6 rfl) rfl rfl)) rfl rfl hL fun a s e_ hL => ?_
          refine st 79 (t_and (o_t 77 rfl) (fun hc2_ => (o_w hc2_ 78 rfl)) rfl rfl) rfl rfl hL fun a s e_ hL => ?_
          refine st 59 (t_assign (o_t 79 rfl) rfl rfl) rfl rfl hL fun a s e_ hL => ?_
          refine en' ?_
          show K38 a s.w
          refine hK38 _ _ ?_
          refine cnd hL rfl (fun hb_ => ?_) (fun hb_ => ?_)
          · replace h := h.1 hb_
            obtain ⟨h41, h⟩ := h
            refine rg ?_
            refine st 80 (t_move (o_t 3 rfl) rfl rfl) rfl rfl hL fun a s e_ hL => ?_
            refine st 81 (t_add (o_t 80 rfl) (o_i (k := .i64) (by decide)) h41 rfl rfl) rfl rfl hL fun a s e_ hL => ?_
            refine st 3 (t_assign (o_t 81 rfl) rfl rfl) rfl rfl hL fun a s e_ hL => ?_
            refine en' ?_
            exact hKL9 k8 a s (Nat.lt_succ_self _) ⟨(i6 + 3), hL.keep (.cons (t := 0) rfl (fun _ h_ => h_.elim) (.cons (t := 3) rfl (fun _ h_ => h_.elim) .nil)), h⟩
          · replace h := h.2 hb_
            refine wp_seq_k fun K42 hK42 => ?_
            obtain ⟨h43, r44, h45, h⟩ := h
            refine rg ?_
            refine st 83 (t_move (o_t 4 rfl) rfl rfl) rfl rfl hL fun a s e_ hL => ?_
            refine st 84 (t_eqi (o_t 83 rfl) (o_i (k := .i64) (by decide)) rfl rfl) rfl rfl hL fun a s e_ hL => ?_
            refine st 85 (t_move (o_t 84 rfl) rfl rfl) rfl rfl hL fun a s e_ hL => ?_
            refine st 86 (t_g1 rfl rfl rfl (fun hc_ => t_move (o_t 0 rfl) rfl rfl)) rfl rfl hL fun a s e_ hL => ?_
            refine st 87 (t_g1 rfl rfl rfl (fun hc_ => t_move (o_t 3 rfl) rfl rfl)) rfl rfl hL fun a s e_ hL => ?_
            refine st 88 (t_g1 rfl rfl rfl (fun hc_ => t_add (o_w hc_ 87 rfl) (o_i (k := .i64) (by decide)) (h43 hc_) rfl rfl)) rfl rfl hL fun a s e_ hL => ?_
            refine st 89 (t_g1 rfl rfl rfl (fun hc_ => t_call (ref03_in_ok (h45 hc_)) (xs := [.tmp 86, .tmp 88, .const (.int .i64 128), .const (.int .i64 159)]) (.cons (o_w hc_ 86 rfl) (.cons (o_w hc_ 88 rfl) (.cons (o_i (k := .i64) (by decide)) (.cons (o_i (k := .i64) (by decide)) .nil)))) rfl rfl)) rfl rfl hL fun a s e_ hL => ?_
            refine st 90 (t_and (o_t 85 rfl) (fun hc2_ => (o_w hc2_ 89 rfl)) rfl rfl) rfl rfl hL fun a s e_ hL => ?_
            refine st 91 (t_move (o_t 90 rfl) rfl rfl) rfl rfl hL fun a s e_ hL => ?_
            refine st 92 (t_g1 rfl rfl rfl (fun hc_ => t_move (o_t 6 rfl) rfl rfl)) rfl rfl hL fun a s e_ hL => ?_
            refine st 93 (t_and (o_t 91 rfl) (fun hc2_ => (o_w hc2_ 92 rfl)) rfl rfl) rfl rfl hL fun a s e_ hL => ?_
            refine st 82 (t_assign (o_t 93 rfl) rfl rfl) rfl rfl hL fun a s e_ hL => ?_
            refine en' ?_
            show K42 a s.w
            refine hK42 _ _ ?_
            refine cnd hL rfl (fun hb_ => ?_) (fun hb_ => ?_)
            · replace h := h.1 hb_
              obtain ⟨h46, h⟩ := h
              refine rg ?_
              refine st 94 (t_move (o_t 3 rfl) rfl rfl) rfl rfl hL fun a s e_ hL => ?_
              refine st 95 (t_add (o_t 94 rfl) (o_i (k := .i64) (by decide)) h46 rfl rfl) rfl rfl hL fun a s e_ hL => ?_
              refine st 3 (t_assign (o_t 95 rfl) rfl rfl) rfl rfl hL fun a s e_ hL => ?_
              refine en' ?_
              exact hKL9 k8 a s (Nat.lt_succ_self _) ⟨(i6 + 3), hL.keep (.cons (t := 0) rfl (fun _ h_ => h_.elim) (.cons (t := 3) rfl (fun _ h_ => h_.elim) .nil)), h⟩
            · replace h := h.2 hb_
              refine wp_seq_k fun K47 hK47 => ?_
              obtain ⟨h48, r49, h50, h⟩ := h
              refine rg ?_
              refine st 97 (t_move (o_t 4 rfl) rfl rfl) rfl rfl hL fun a s e_ hL => ?_
              refine st 98 (t_eqi (o_t 97 rfl) (o_i (k := .i64) (by decide)) rfl rfl) rfl rfl hL fun a s e_ hL => ?_
              refine st 99 (t_move (o_t 98 rfl) rfl rfl) rfl rfl hL fun a s e_ hL => ?_
              refine st 100 (t_g1 rfl rfl rfl (fun hc_ => t_move (o_t 0 rfl) rfl rfl)) rfl rfl hL fun a s e_ hL => ?_
              refine st 101 (t_g1 rfl rfl rfl (fun hc_ => t_move (o_t 3 rfl) rfl rfl)) rfl rfl hL fun a s e_ hL => ?_
              refine st 102 (t_g1 rfl rfl rfl (fun hc_ => t_add (o_w hc_ 101 rfl) (o_i (k := .i64) (by decide)) (h48 hc_) rfl rfl)) rfl rfl hL fun a s e_ hL => ?_
              refine st 103 (t_g1 rfl rfl rfl (fun hc_ => t_call (ref03_in_ok (h50 hc_)) (xs := [.tmp 100, .tmp 102, .const (.int .i64 144), .const (.int .i64 191)]) (.cons (o_w hc_ 100 rfl) (.cons (o_w hc_ 102 rfl) (.cons (o_i (k := .i64) (by decide)) (.cons (o_i (k := .i64) (by decide)) .nil)))) rfl rfl)) rfl rfl hL fun a s e_ hL => ?_
              refine st 104 (t_and (o_t 99 rfl) (fun hc2_ => (o_w hc2_ 103 rfl)) rfl rfl) rfl rfl hL fun a s e_ hL => ?_
              refine st 105 (t_move (o_t 104 rfl) rfl rfl) rfl rfl hL fun a s e_ hL => ?_
              refine st 106 (t_g1 rfl rfl rfl (fun hc_ => t_move (o_t 6 rfl) rfl rfl)) rfl rfl hL fun a s e_ hL => ?_
              refine st 107 (t_and (o_t 105 rfl) (fun hc2_ => (o_w hc2_ 106 rfl)) rfl rfl) rfl rfl hL fun a s e_ hL => ?_
              refine st 108 (t_move (o_t 107 rfl) rfl rfl) rfl rfl hL fun a s e_ hL => ?_
              refine st 109 (t_g1 rfl rfl rfl (fun hc_ => t_move (o_t 7 rfl) rfl rfl)) rfl rfl hL fun a s e_ hL => ?_
              refine st 110 (t_and (o_t 108 rfl) (fun hc2_ => (o_w hc2_ 109 rfl)) rfl rfl) rfl rfl hL fun a s e_ hL => ?_
              refine st 96 (t_assign (o_t 110 rfl) rfl rfl) rfl rfl hL fun a s e_ hL => ?_
              refine en' ?_
              show K47 a s.w
              refine hK47 _ _ ?_
              refine cnd hL rfl (fun hb_ => ?_) (fun hb_ => ?_)
              · replace h := h.1 hb_
                obtain ⟨h51, h⟩ := h
                refine rg ?_
                refine st 111 (t_move (o_t 3 rfl) rfl rfl) rfl rfl hL fun a s e_ hL => ?_
                refine st 112 (t_add (o_t 111 rfl) (o_i (k := .i64) (by decide)) h51 rfl rfl) rfl rfl hL fun a s e_ hL => ?_
                refine st 3 (t_assign (o_t 112 rfl) rfl rfl) rfl rfl hL fun a s e_ hL => ?_
                refine en' ?_
                exact hKL9 k8 a s (Nat.lt_succ_self _) ⟨(i6 + 4), hL.keep (.cons (t := 0) rfl (fun _ h_ => h_.elim) (.cons (t := 3) rfl (fun _ h_ => h_.elim) .nil)), h⟩
              · replace h := h.2 hb_
                refine wp_seq_k fun K52 hK52 => ?_
                obtain ⟨b53, h54, h⟩ := h
                refine rg ?_
                refine st 114 (t_move (o_t 4 rfl) rfl rfl) rfl rfl hL fun a s e_ hL => ?_
                refine st 115 (t_geq (o_t 114 rfl) (o_i (k := .i64) (by decide)) rfl rfl) rfl rfl hL fun a s e_ hL => ?_
                refine st 116 (t_move (o_t 115 rfl) rfl rfl) rfl rfl hL fun a s e_ hL => ?_
                refine st 117 (t_g1 rfl rfl rfl (fun hc_ => t_move (o_t 4 rfl) rfl rfl)) rfl rfl hL fun a s e_ hL => ?_
                refine st 118 (t_g1 rfl rfl rfl (fun hc_ => t_leq (o_w hc_ 117 rfl) (o_i (k := .i64) (by decide)) rfl rfl)) rfl rfl hL fun a s e_ hL => ?_
                refine st 119 (t_and (o_t 116 rfl) (fun hc2_ => (o_w hc2_ 118 rfl)) rfl rfl) rfl rfl hL fun a s e_ hL => ?_
                refine st 120 (t_move (o_t 119 rfl) rfl rfl) rfl rfl hL fun a s e_ hL => ?_
                refine st 121 (t_g1 rfl rfl rfl (fun hc_ => t_move (o_t 5 rfl) rfl rfl)) rfl rfl hL fun a s e_ hL => ?_
                refine st 122 (h54 ▸ (t_and (o_t 120 rfl) (fun hc2_ => (o_w hc2_ 121 rfl)) rfl rfl)) rfl rfl hL fun a s e_ hL => ?_
                refine st 123 (t_move (o_t 122 rfl) rfl rfl) rfl rfl hL fun a s e_ hL => ?_
                refine st 124 (t_g1 rfl rfl rfl (fun hc_ => t_move (o_t 6 rfl) rfl rfl)) rfl rfl hL fun a s e_ hL => ?_
                refine st 125 (t_and (o_t 123 rfl) (fun hc2_ => (o_w hc2_ 124 rfl)) rfl rfl) rfl rfl hL fun a s e_ hL => ?_
                refine st 126 (t_move (o_t 125 rfl) rfl rfl) rfl rfl hL fun a s e_ hL => ?_
                refine st 127 (t_g1 rfl rfl rfl (fun hc_ => t_move (o_t 7 rfl) rfl rfl)) rfl rfl hL fun a s e_ hL => ?_
                refine st 128 (t_and (o_t 126 rfl) (fun hc2_ => (o_w hc2_ 127 rfl)) rfl rfl) rfl rfl hL fun a s e_ hL => ?_
                refine st 113 (t_assign (o_t 128 rfl) rfl rfl) rfl rfl hL fun a s e_ hL => ?_
                refine en' ?_
                show K52 a s.w
                refine hK52 _ _ ?_
                refine cnd hL rfl (fun hb_ => ?_) (fun hb_ => ?_)
                · replace h := h.1 hb_
                  obtain ⟨h55, h⟩ := h
                  refine rg ?_
                  refine st 129 (t_move (o_t 3 rfl) rfl rfl) rfl rfl hL fun a s e_ hL => ?_
                  refine st 130 (t_add (o_t 129 rfl) (o_i (k := .i64) (by decide)) h55 rfl rfl) rfl rfl hL fun a s e_ hL => ?_
                  refine st 3 (t_assign (o_t 130 rfl) rfl rfl) rfl rfl hL fun a s e_ hL => ?_
                  refine en' ?_
                  exact hKL9 k8 a s (Nat.lt_succ_self _) ⟨(i6 + 4), hL.keep (.cons (t := 0) rfl (fun _ h_ => h_.elim) (.cons (t := 3) rfl (fun _ h_ => h_.elim) .nil)), h⟩
                · replace h := h.2 hb_
                  refine wp_seq_k fun K56 hK56 => ?_
                  obtain ⟨h57, r58, h59, h⟩ := h
                  refine rg ?_
                  refine st 132 (t_move (o_t 4 rfl) rfl rfl) rfl rfl hL fun a s e_ hL => ?_
                  refine st 133 (t_eqi (o_t 132 rfl) (o_i (k := .i64) (by decide)) rfl rfl) rfl rfl hL fun a s e_ hL => ?_
                  refine st 134 (t_move (o_t 133 rfl) rfl rfl) rfl rfl hL fun a s e_ hL => ?_
                  refine st 135 (t_g1 rfl rfl rfl (fun hc_ => t_move (o_t 0 rfl) rfl rfl)) rfl rfl hL fun a s e_ hL => ?_
                  refine st 136 (t_g1 rfl rfl rfl (fun hc_ => t_move (o_t 3 rfl) rfl rfl)) rfl rfl hL fun a s e_ hL => ?_
                  refine st 137 (t_g1 rfl rfl rfl (fun hc_ => t_add (o_w hc_ 136 rfl) (o_i (k := .i64) (by decide)) (h57 hc_) rfl rfl)) rfl rfl hL fun a s e_ hL => ?_
                  refine st 138 (t_g1 rfl rfl rfl (fun hc_ => t_call (ref03_in_ok (h59 hc_)) (xs := [.tmp 135, .tmp 137, .const (.int .i64 128), .const (.int .i64 143)]) (.cons (o_w hc_ 135 rfl) (.cons (o_w hc_ 137 rfl) (.cons (o_i (k := .i64) (by decide)) (.cons (o_i (k := .i64) (by decide)) .nil)))) rfl rfl)) rfl rfl hL fun a s e_ hL => ?_
                  refine st 139 (t_and (o_t 134 rfl) (fun hc2_ => (o_w hc2_ 138 rfl)) rfl rfl) rfl rfl hL fun a s e_ hL => ?_
                  refine st 140 (t_move (o_t 139 rfl) rfl rfl) rfl rfl hL fun a s e_ hL => ?_
                  refine st 141 (t_g1 rfl rfl rfl (fun hc_ => t_move (o_t 6 rfl) rfl rfl)) rfl rfl hL fun a s e_ hL => ?_
                  refine st 142 (t_and (o_t 140 rfl) (fun hc2_ => (o_w hc2_ 141 rfl)) rfl rfl) rfl rfl hL fun a s e_ hL => ?_
                  refine st 143 (t_move (o_t 142 rfl) rfl rfl) rfl rfl hL fun a s e_ hL => ?_
                  refine st 144 (t_g1 rfl rfl rfl (fun hc_ => t_move (o_t 7 rfl) rfl rfl)) rfl rfl hL fun a s e_ hL => ?_
                  refine st 145 (t_and (o_t 143 rfl) (fun hc2_ => (o_w hc2_ 144 rfl)) rfl rfl) rfl rfl hL fun a s e_ hL => ?_
                  refine st 131 (t_assign (o_t 145 rfl) rfl rfl) rfl rfl hL fun a s e_ hL => ?_
                  refine en' ?_
                  show K56 a s.w
                  refine hK56 _ _ ?_
                  refine cnd hL rfl (fun hb_ => ?_) (fun hb_ => ?_)
                  · replace h := h.1 hb_
                    obtain ⟨h60, h⟩ := h
                    refine rg ?_
                    refine st 146 (t_move (o_t 3 rfl) rfl rfl) rfl rfl hL fun a s e_ hL => ?_
                    refine st 147 (t_add (o_t 146 rfl) (o_i (k := .i64) (by decide)) h60 rfl rfl) rfl rfl hL fun a s e_ hL => ?_
                    refine st 3 (t_assign (o_t 147 rfl) rfl rfl) rfl rfl hL fun a s e_ hL => ?_
                    refine en' ?_
                    exact hKL9 k8 a s (Nat.lt_succ_self _) ⟨(i6 + 4), hL.keep (.cons (t := 0) rfl (fun _ h_ => h_.elim) (.cons (t := 3) rfl (fun _ h_ => h_.elim) .nil)), h⟩
                  · replace h := h.2 hb_
                    refine wp_seq_k fun K61 hK61 => ?_
                    refine rg ?_
                    refine st 2 (t_assign o_b rfl rfl) rfl rfl hL fun a s e_ hL => ?_
                    refine en' ?_
                    show K61 a s.w
                    refine hK61 _ _ ?_
                    subst h
                    exact wp_ret (retq rfl hL rfl)
  · replace h := h.2 hb_
    refine wp_exit ?_
    exact J4 a s (hL.keep .nil) h
end Go.Proofs.YtdidjelkkanenaaDoor.V
namespace Go.Proofs.YtdidjelkkanenaaDoor.V
open Go
set_option linter.unusedVariables false
def ref04_moved.j1 (r_ : (List SNode)) (out5 : (List SNode)) : Prop := r_ = out5
def ref04_moved.j2 (L1_ : (List SNode) → Int → Prop) (out9 : (List SNode)) (i11 : Int) (n30 : SNode) : Prop := (out9.length + [n30].length ≤ 2147483648) ∧ (InR .i64 (i11 + 1)) ∧ L1_ (out9 ++ [n30]) (i11 + 1)
def ref04_moved.j3 (L1_ : (List SNode) → Int → Prop) (by_ : Int) (out9 : (List SNode)) (i11 : Int) (n25 : SNode) : Prop := ((((n25.1 == 4) || (n25.1 == 5))) = true → (InR .i64 (n25.2.2.1 + by_)) ∧ (ref04_moved.j2 (L1_) out9 i11) (n25.1, n25.2.1, n25.2.2.1 + by_, n25.2.2.2.1, n25.2.2.2.2.1, n25.2.2.2.2.2.1, n25.2.2.2.2.2.2)) ∧ ((((n25.1 == 4) || (n25.1 == 5))) = false → (ref04_moved.j2 (L1_) out9 i11) n25)
def ref04_moved.l1 (l_ : (List SNode)) (by_ : Int) (X1 : (List SNode) → Prop) : Nat → (List SNode) → Int → Prop
  | 0, _, _ => False
  | k_0 + 1, out9, i11 => ((decide (i11 < (l_.length : Int))) = true → ∃ e19 : SNode, at? l_ i11 = some e19 ∧ ((decide (4 ≤ e19.1)) = true → (InR .i64 (e19.2.1 + by_)) ∧ (ref04_moved.j3 (ref04_moved.l1 l_ by_ X1 k_0) by_ out9 i11) (e19.1, e19.2.1 + by_, e19.2.2.1, e19.2.2.2.1, e19.2.2.2.2.1, e19.2.2.2.2.2.1, e19.2.2.2.2.2.2)) ∧ ((decide (4 ≤ e19.1)) = false → (ref04_moved.j3 (ref04_moved.l1 l_ by_ X1 k_0) by_ out9 i11) e19)) ∧ ((decide (i11 < (l_.length : Int))) = false → X1 out9)
def ref04_moved (l_ : (List SNode)) (by_ : Int) (r_ : (List SNode)) : Prop := ∃ k12, ref04_moved.l1 l_ by_ (ref04_moved.j1 r_) k12 ([] : (List SNode)) 0
def ref04_Wrap (kind_ : Int) (lo_ : Int) (hi_ : Int) (a_ : SDesc) (r_ : SDesc) : Prop := ∃ r6 : (List SNode), ref04_moved a_ 0 r6 ∧ (InR .i64 ((a_.length : Int) - 1)) ∧ (r6.length + [(kind_, (a_.length : Int) - 1, 0, lo_, hi_, (0#256), ([] : Str))].length ≤ 2147483648) ∧ r_ = r6 ++ [(kind_, (a_.length : Int) - 1, 0, lo_, hi_, (0#256), ([] : Str))]
def ref04_Pair (kind_ : Int) (a_ : SDesc) (b_ : SDesc) (r_ : SDesc) : Prop := ∃ r6 : (List SNode), ref04_moved a_ 0 r6 ∧ ∃ r8 : (List SNode), ref04_moved b_ (a_.length : Int) r8 ∧ (r6.length + r8.length ≤ 2147483648) ∧ (InR .i64 ((a_.length : Int) - 1)) ∧ (InR .i64 ((a_.length : Int) + (b_.length : Int))) ∧ (InR .i64 (((a_.length : Int) + (b_.length : Int)) - 1)) ∧ ((r6 ++ r8).length + [(kind_, (a_.length : Int) - 1, ((a_.length : Int) + (b_.length : Int)) - 1, 0, 0, (0#256), ([] : Str))].length ≤ 2147483648) ∧ r_ = (r6 ++ r8) ++ [(kind_, (a_.length : Int) - 1, ((a_.length : Int) + (b_.length : Int)) - 1, 0, 0, (0#256), ([] : Str))]
def ref04_Few.j1 (d_ : SDesc) (r_ : Bool) (n5 : Int) : Prop := ∃ b8 : Bool, b8 = ((decide ((d_.length : Int) ≤ 100)) && (decide (n5 ≤ 2000))) ∧ r_ = b8
def ref04_Few.l1 (d_ : SDesc) (X1 : Int → Prop) : Nat → Int → Int → Prop
  | 0, _, _ => False
  | k_0 + 1, n10, i11 => ∃ b17 : Bool, b17 = ((decide (i11 < (d_.length : Int))) && (decide (i11 < 200))) ∧ ((b17) = true → ∃ e20 : SNode, at? d_ i11 = some e20 ∧ (InR .i64 (n10 + (e20.2.2.2.2.2.2.length : Int))) ∧ (InR .i64 (i11 + 1)) ∧ ref04_Few.l1 d_ X1 k_0 (n10 + (e20.2.2.2.2.2.2.length : Int)) (i11 + 1)) ∧ ((b17) = false → X1 n10)
def ref04_Few (d_ : SDesc) (r_ : Bool) : Prop := ∃ k12, ref04_Few.l1 d_ (ref04_Few.j1 d_ r_) k12 0 0
def ref04_text.j1 (s_ : Str) (r_ : Bool) : Prop := ∃ r6 : Bool, (((decide (0 < (s_.length : Int))) = true) → ref03_Utf8 s_ r6) ∧ r_ = ((decide (0 < (s_.length : Int))) && r6)
def ref04_text.l1 (s_ : Str) (r_ : Bool) (X1 : Prop) : Nat → Int → Prop
  | 0, _ => False
  | k_0 + 1, i8 => ((decide (i8 < (s_.length : Int))) = true → ∃ c16 : Int, byte? s_ i8 = some c16 ∧ (((c16 == 34)) = true → r_ = false) ∧ (((c16 == 34)) = false → (InR .i64 (i8 + 1)) ∧ ref04_text.l1 s_ r_ X1 k_0 (i8 + 1))) ∧ ((decide (i8 < (s_.length : Int))) = false → X1)
def ref04_text (s_ : Str) (r_ : Bool) : Prop := ∃ k9, ref04_text.l1 s_ r_ (ref04_text.j1 s_ r_) k9 0
def ref04_First.j1 (n_ : (List SNode) → Int → Int → Prop) (l_ : (List SNode)) (i_ : Int) (r_ : Int) (e6 : SNode) (want48 : SNode) : Prop := (InR .i64 (i_ - 1)) ∧ ∃ r52 : Int, n_ l_ (i_ - 1) r52 ∧ (((e6 != want48)) = true → r_ = (-1)) ∧ (((e6 != want48)) = false → r_ = r52)
def ref04_First.j2 (n_ : (List SNode) → Int → Int → Prop) (l_ : (List SNode)) (i_ : Int) (r_ : Int) (e6 : SNode) (v66 : Bool) : Prop := ((v66) = true → (InR .i64 (i_ - 1)) ∧ (InR .i64 (i_ - 1)) ∧ ∃ r73 : Int, n_ l_ (i_ - 1) r73 ∧ ((decide (r73 < 0)) = true → r_ = (-1)) ∧ ((decide (r73 < 0)) = false → (InR .i64 (r73 - 1)) ∧ (InR .i64 (r73 - 1)) ∧ ∃ r81 : Int, n_ l_ (r73 - 1) r81 ∧ ∃ b85 : Bool, b85 = (e6 != (e6.1, r73 - 1, i_ - 1, 0, 0, (0#256), ([] : Str))) ∧ ((b85) = true → r_ = (-1)) ∧ ((b85) = false → r_ = r81))) ∧ ((v66) = false → r_ = (-1))
def ref04_First.j3 (n_ : (List SNode) → Int → Int → Prop) (l_ : (List SNode)) (i_ : Int) (r_ : Int) (e6 : SNode) (v41 : Bool) : Prop := ((v41) = true → (InR .i64 (i_ - 1)) ∧ (((e6.1 == 7)) = true → ∃ b61 : Bool, b61 = ((decide (e6.2.2.2.1 < 0)) || (decide (e6.2.2.2.2.1 < e6.2.2.2.1))) ∧ (((b61 || (decide (255 < e6.2.2.2.2.1)))) = true → r_ = (-1)) ∧ (((b61 || (decide (255 < e6.2.2.2.2.1)))) = false → (ref04_First.j1 (n_) l_ i_ r_ e6) (e6.1, i_ - 1, 0, e6.2.2.2.1, e6.2.2.2.2.1, (0#256), ([] : Str)))) ∧ (((e6.1 == 7)) = false → (ref04_First.j1 (n_) l_ i_ r_ e6) (e6.1, i_ - 1, 0, 0, 0, (0#256), ([] : Str)))) ∧ ((v41) = false → (((e6.1 == 4)) = true → (ref04_First.j2 (n_) l_ i_ r_ e6) (e6.1 == 4)) ∧ (((e6.1 == 4)) = false → (ref04_First.j2 (n_) l_ i_ r_ e6) (e6.1 == 5)))
def ref04_First.n : Nat → (List SNode) → Int → Int → Prop
  | 0, _, _, _ => False
  | k_ + 1, l_, i_, r_ => ((decide (i_ < 0)) = true → r_ = (-1)) ∧ ((decide (i_ < 0)) = false → ∃ e6 : SNode, at? l_ i_ = some e6 ∧ (((e6.1 == 1)) = true → (((e6 != (e6.1, 0, 0, 0, 0, (0#256), ([] : Str)))) = true → r_ = (-1)) ∧ (((e6 != (e6.1, 0, 0, 0, 0, (0#256), ([] : Str)))) = false → r_ = i_)) ∧ (((e6.1 == 1)) = false → (((e6.1 == 2)) = true → ∃ b23 : Bool, b23 = (e6 != (e6.1, 0, 0, 0, 0, e6.2.2.2.2.2.1, ([] : Str))) ∧ ((b23) = true → r_ = (-1)) ∧ ((b23) = false → r_ = i_)) ∧ (((e6.1 == 2)) = false → (((e6.1 == 3)) = true → ∃ r30 : Bool, ref04_text e6.2.2.2.2.2.2 r30 ∧ (((!r30)) = true → r_ = (-1)) ∧ (((!r30)) = false → ∃ b35 : Bool, b35 = (e6 != (e6.1, 0, 0, 0, 0, (0#256), e6.2.2.2.2.2.2)) ∧ ((b35) = true → r_ = (-1)) ∧ ((b35) = false → r_ = i_))) ∧ (((e6.1 == 3)) = false → (((e6.1 == 6)) = true → (ref04_First.j3 (ref04_First.n k_) l_ i_ r_ e6) (e6.1 == 6)) ∧ (((e6.1 == 6)) = false → (((e6.1 == 7)) = true → (ref04_First.j3 (ref04_First.n k_) l_ i_ r_ e6) (e6.1 == 7)) ∧ (((e6.1 == 7)) = false → (((e6.1 == 8)) = true → (ref04_First.j3 (ref04_First.n k_) l_ i_ r_ e6) (e6.1 == 8)) ∧ (((e6.1 == 8)) = false → (ref04_First.j3 (ref04_First.n k_) l_ i_ r_ e6) (e6.1 == 9))))))))
def ref04_First (l_ : (List SNode)) (i_ : Int) (r_ : Int) : Prop := ∃ k_, ref04_First.n k_ l_ i_ r_
def ref04_Form (d_ : SDesc) (r_ : Bool) : Prop := (((decide (0 < (d_.length : Int))) = true) → InR .i64 ((d_.length : Int) - 1)) ∧ ∃ r4 : Int, (((decide (0 < (d_.length : Int))) = true) → ref04_First d_ ((d_.length : Int) - 1) r4) ∧ r_ = ((decide (0 < (d_.length : Int))) && (r4 == 0))
end Go.Proofs.YtdidjelkkanenaaDoor.V
namespace Go.Proofs.YtdidjelkkanenaaDoor.V
open Go
set_option linter.unusedVariables false
set_option maxRecDepth 100000
theorem ref04_moved_ok {l_ : (List SNode)} {by_ : Int} {r_ : (List SNode)} (h : ref04_moved l_ by_ r_) : Fn Tryd.prog 54 [(Pd.rep (En.slice En.SNode) l_), (Pd.rep (En.int .i64) by_)] (Ro En.SNode 48 r_) := by
  unfold ref04_moved at h
  refine fn_of Tryd.func54 rfl Tryd.ntmps54 (by rfl) (by simp) fun s0 a hL => ?_
  refine wp_seq_k fun K1 hK1 => ?_
  refine rg ?_
  refine st 4 (t_assign (o_nil (E := En.SNode) (N := s0.w.heap.size) (te := 48)) rfl rfl) rfl rfl hL fun a s e_ hL => ?_
  refine en' ?_
  show K1 a s.w
  refine hK1 _ _ ?_
  refine wp_seq_k fun K2 hK2 => ?_
  refine rg ?_
  refine st 5 (t_assign (o_nil (E := En.SNode) (N := s0.w.heap.size) (te := 48)) rfl rfl) rfl rfl hL fun a s e_ hL => ?_
  refine en' ?_
  show K2 a s.w
  refine hK2 _ _ ?_
  refine wp_seq_k fun K3 hK3 => ?_
  refine wp_seq_k fun K4 hK4 => ?_
  refine rg ?_
  refine st 6 (t_assign (o_i (k := .i64) (by decide)) rfl rfl) rfl rfl hL fun a s e_ hL => ?_
  refine en' ?_
  show K4 a s.w
  refine hK4 _ _ ?_
  refine wp_block ?_
  have J7 : ∀ (out5 : (List SNode)) (og6 : Option Nat) (a : Act) (s : St), Has N0 44 s0 a s [(5, (Pd.row En.SNode s0.w.heap.size 48 og6 out5))] → ((ref04_moved.j1 r_) out5) → K3 a s.w := by
    intro out5 og6 a s hL h
    unfold ref04_moved.j1 at h
    show K3 a s.w
    refine hK3 _ _ ?_
    refine wp_seq_k fun K8 hK8 => ?_
    refine rg ?_
    refine st 43 (t_move (o_t 5 rfl) rfl rfl) rfl rfl hL fun a s e_ hL => ?_
    refine st 4 (t_assign (o_t 43 rfl) rfl rfl) rfl rfl hL fun a s e_ hL => ?_
    refine en' ?_
    show K8 a s.w
    refine hK8 _ _ ?_
    subst h
    exact wp_ret (reto rfl hL rfl)
  obtain ⟨k12, h⟩ := h
  refine lpg (fun k13 a s => ∃ (out9 : (List SNode)) (i11 : Int) (og10 : Option Nat), Has N0 44 s0 a s [(0, (Pd.rep (En.slice En.SNode) l_)), (1, (Pd.rep (En.int .i64) by_)), (5, (Pd.row En.SNode s0.w.heap.size 48 og10 out9)), (6, (Pd.rep (En.int .i64) i11))] ∧ ref04_moved.l1 l_ by_ (ref04_moved.j1 r_) k13 out9 i11) k12 ⟨([] : (List SNode)), 0, none, hL.keep (.cons (t := 0) rfl (fun _ h_ => h_.elim) (.cons (t := 1) rfl (fun _ h_ => h_.elim) (.cons (t := 5) rfl (fun _ _ h_ => h_) (.cons (t := 6) rfl (fun _ h_ => h_.elim) .nil)))), h⟩ ?_
  rintro k13 a s ⟨out9, i11, og10, hL, h⟩ KL14 hKL14
  cases k13 with
  | zero => exact h.elim
  | succ k13 =>
  unfold ref04_moved.l1 at h
  refine wp_seq_k fun K15 hK15 => ?_
  refine wp_seq_k fun K16 hK16 => ?_
  refine rg ?_
  refine st 8 (t_move (o_t 6 rfl) rfl rfl) rfl rfl hL fun a s e_ hL => ?_
  refine st 9 (t_move (o_t 0 rfl) rfl rfl) rfl rfl hL fun a s e_ hL => ?_
  refine st 10 (t_len (o_t 9 rfl) Tryd.underlying22 rfl rfl) rfl rfl hL fun a s e_ hL => ?_
  refine st 11 (t_lss (o_t 8 rfl) (o_t 10 rfl) rfl rfl) rfl rfl hL fun a s e_ hL => ?_
  refine en' ?_
  show K16 a s.w
  refine hK16 _ _ ?_
  refine cnd hL rfl (fun hb_ => ?_) (fun hb_ => ?_)
  · replace h := h.1 hb_
    refine wp_skip ?_
    show K15 a s.w
    refine hK15 _ _ ?_
    refine wp_seq_k fun K17 hK17 => ?_
    refine wp_block ?_
    refine wp_seq_k fun K18 hK18 => ?_
    obtain ⟨e19, h20, h⟩ := h
    refine rg ?_
    refine st 14 (t_move (o_t 0 rfl) rfl rfl) rfl rfl hL fun a s e_ hL => ?_
    refine st 15 (t_move (o_t 6 rfl) rfl rfl) rfl rfl hL fun a s e_ hL => ?_
    refine st 16 (t_idx (o_t 14 rfl) (o_t 15 rfl) h20 Tryd.underlying22 ty48 rfl rfl) rfl rfl hL fun a s e_ hL => ?_
    refine st 17 (t_load ty48 (o_t 16 rfl) rfl rfl) rfl rfl hL fun a s e_ hL => ?_
    have lt_d22 := hL.rlt 5 rfl
    refine st_alloc En.SNode (z := (0, 0, 0, 0, 0, (0#256), ([] : Str))) 7 hL tyz48 rfl rfl rfl rfl fun a s g21 hg_ hL => ?_
    have d22 : Dis (some g21) og10 := Dis.newg hg_ lt_d22
    refine st_stb (L' := [(0, (Pd.rep (En.slice En.SNode) l_)), (1, (Pd.rep (En.int .i64) by_)), (5, (Pd.row En.SNode s0.w.heap.size 48 og10 out9)), (6, (Pd.rep (En.int .i64) i11))]) 7 hL rfl (o_t 17 rfl) ty48 rfl rfl rfl (.cons (t := 0) rfl (fun _ h_ => h_.elim) (.cons (t := 1) rfl (fun _ h_ => h_.elim) (.cons (t := 5) rfl (Dis.ow (Dis.symm d22)) (.cons (t := 6) rfl (fun _ h_ => h_.elim) .nil)))) fun s hL => ?_
    refine en' ?_
    show K18 a s.w
    refine hK18 _ _ ?_
    refine wp_seq_k fun K23 hK23 => ?_
    refine wp_seq_k fun K24 hK24 => ?_
    refine rg ?_
    refine st 18 (t_fab (off := 0) (o_t 7 rfl) Tryd.underlying48 rfl (prt_fst (prt_all _ _)) rfl ty3 rfl rfl) rfl rfl hL fun a s e_ hL => ?_
    refine st 19 (t_loado ty3 (o_t 18 rfl) rfl rfl) rfl rfl hL fun a s e_ hL => ?_
    refine st 20 (t_geq (o_t 19 rfl) (o_i (k := .i64) (by decide)) rfl rfl) rfl rfl hL fun a s e_ hL => ?_
    refine en' ?_
    show K24 a s.w
    refine hK24 _ _ ?_
    have J26 : ∀ (n25 : SNode) (a : Act) (s : St), Has N0 44 s0 a s [(0, (Pd.rep (En.slice En.SNode) l_)), (1, (Pd.rep (En.int .i64) by_)), (5, (Pd.row En.SNode s0.w.heap.size 48 og10 out9)), (6, (Pd.rep (En.int .i64) i11)), (7, (Pd.box En.SNode s0.w.heap.size g21 n25))] → Dis og10 (some g21) → ((ref04_moved.j3 (ref04_moved.l1 l_ by_ (ref04_moved.j1 r_) k13) by_ out9 i11) n25) → K23 a s.w := by
      intro n25 a s hL d27 h
      unfold ref04_moved.j3 at h
      show K23 a s.w
      refine hK23 _ _ ?_
      refine wp_seq_k fun K28 hK28 => ?_
      refine wp_seq_k fun K29 hK29 => ?_
      refine rg ?_
      refine st 26 (t_fab (off := 0) (o_t 7 rfl) Tryd.underlying48 rfl (prt_fst (prt_all _ _)) rfl ty3 rfl rfl) rfl rfl hL fun a s e_ hL => ?_
      refine st 27 (t_loado ty3 (o_t 26 rfl) rfl rfl) rfl rfl hL fun a s e_ hL => ?_
      refine st 28 (t_eqi (o_t 27 rfl) (o_i (k := .i64) (by decide)) rfl rfl) rfl rfl hL fun a s e_ hL => ?_
      refine st 29 (t_move (o_t 28 rfl) rfl rfl) rfl rfl hL fun a s e_ hL => ?_
      refine st 30 (t_g1 rfl rfl rfl (fun hc_ => t_fab (off := 0) (o_t 7 rfl) Tryd.underlying48 rfl (prt_fst (prt_all _ _)) rfl ty3 rfl rfl)) rfl rfl hL fun a s e_ hL => ?_
      refine st 31 (t_g1 rfl rfl rfl (fun hc_ => t_loado ty3 (o_w hc_ 30 rfl) rfl rfl)) rfl rfl hL fun a s e_ hL => ?_
      refine st 32 (t_g1 rfl rfl rfl (fun hc_ => t_eqi (o_w hc_ 31 rfl) (o_i (k := .i64) (by decide)) rfl rfl)) rfl rfl hL fun a s e_ hL => ?_
      refine st 33 (t_or (o_t 29 rfl) (fun hc2_ => (o_w hc2_ 32 rfl)) rfl rfl) rfl rfl hL fun a s e_ hL => ?_
      refine en' ?_
      show K29 a s.w
      refine hK29 _ _ ?_
      have J31 : ∀ (n30 : SNode) (a : Act) (s : St), Has N0 44 s0 a s [(0, (Pd.rep (En.slice En.SNode) l_)), (1, (Pd.rep (En.int .i64) by_)), (5, (Pd.row En.SNode s0.w.heap.size 48 og10 out9)), (6, (Pd.rep (En.int .i64) i11)), (7, (Pd.box En.SNode s0.w.heap.size g21 n30))] → Dis og10 (some g21) → ((ref04_moved.j2 (ref04_moved.l1 l_ by_ (ref04_moved.j1 r_) k13) out9 i11) n30) → K28 a s.w := by
        intro n30 a s hL d32 h
        unfold ref04_moved.j2 at h
        show K28 a s.w
        refine hK28 _ _ ?_
        obtain ⟨h33, h⟩ := h
        refine rg ?_
        refine st 39 (t_move (o_t 5 rfl) rfl rfl) rfl rfl hL fun a s e_ hL => ?_
        refine st 40 (t_loadb ty48 (o_t 7 rfl) rfl rfl) rfl rfl hL fun a s e_ hL => ?_
        refine st 41 (t_lit (xs := [.tmp 40]) (.cons (o_t 40 rfl) .nil) Tryd.underlying22 ty48 rfl rfl (by decide) rfl rfl) rfl rfl hL fun a s e_ hL => ?_
        refine st_app (L' := [(0, (Pd.rep (En.slice En.SNode) l_)), (1, (Pd.rep (En.int .i64) by_)), (6, (Pd.rep (En.int .i64) i11))]) 42 hL (o_t 39 rfl) (o_t 41 rfl) Tryd.underlying22 ty48 h33 rfl rfl rfl rfl (.cons (t := 0) rfl (fun _ h_ => h_.elim) (.cons (t := 1) rfl (fun _ h_ => h_.elim) (.cons (t := 6) rfl (fun _ h_ => h_.elim) .nil))) fun a s og34 hg_ hL => ?_
        refine st 5 (t_assign (o_t 42 rfl) rfl rfl) rfl rfl hL fun a s e_ hL => ?_
        refine en' ?_
        show K17 a s.w
        refine hK17 _ _ ?_
        obtain ⟨h35, h⟩ := h
        refine rg ?_
        refine st 12 (t_move (o_t 6 rfl) rfl rfl) rfl rfl hL fun a s e_ hL => ?_
        refine st 13 (t_add (o_t 12 rfl) (o_i (k := .i64) (by decide)) h35 rfl rfl) rfl rfl hL fun a s e_ hL => ?_
        refine st 6 (t_assign (o_t 13 rfl) rfl rfl) rfl rfl hL fun a s e_ hL => ?_
        refine en' ?_
        exact hKL14 k13 a s (Nat.lt_succ_self _) ⟨(out9 ++ [n30]), (i11 + 1), og34, hL.keep (.cons (t := 0) rfl (fun _ h_ => h_.elim) (.cons (t := 1) rfl (fun _ h_ => h_.elim) (.cons (t := 5) rfl (fun _ _ h_ => h_) (.cons (t := 6) rfl (fun _ h_ => h_.elim) .nil)))), h⟩
      refine cnd hL rfl (fun hb_ => ?_) (fun hb_ => ?_)
      · replace h := h.1 hb_
        obtain ⟨h36, h⟩ := h
        refine rg ?_
        refine st 34 (t_fab (off := 2) (o_t 7 rfl) Tryd.underlying48 rfl (prt_snd (prt_snd (prt_fst (prt_all _ _)) rfl) rfl) rfl ty3 rfl rfl) rfl rfl hL fun a s e_ hL => ?_
        refine st 35 (t_loado ty3 (o_t 34 rfl) rfl rfl) rfl rfl hL fun a s e_ hL => ?_
        refine st 36 (t_move (o_t 1 rfl) rfl rfl) rfl rfl hL fun a s e_ hL => ?_
        refine st 37 (t_add (o_t 35 rfl) (o_t 36 rfl) h36 rfl rfl) rfl rfl hL fun a s e_ hL => ?_
        refine st 38 (t_fab (off := 2) (o_t 7 rfl) Tryd.underlying48 rfl (prt_snd (prt_snd (prt_fst (prt_all _ _)) rfl) rfl) rfl ty3 rfl rfl) rfl rfl hL fun a s e_ hL => ?_
        refine st_stob (L' := [(0, (Pd.rep (En.slice En.SNode) l_)), (1, (Pd.rep (En.int .i64) by_)), (5, (Pd.row En.SNode s0.w.heap.size 48 og10 out9)), (6, (Pd.rep (En.int .i64) i11))]) 7 hL rfl (o_t 38 rfl) (o_t 37 rfl) (sub_snd (sub_snd (sub_fst (sub_all _ _ _)) rfl) rfl) ty3 rfl rfl rfl (.cons (t := 0) rfl (fun _ h_ => h_.elim) (.cons (t := 1) rfl (fun _ h_ => h_.elim) (.cons (t := 5) rfl (Dis.ow d27) (.cons (t := 6) rfl (fun _ h_ => h_.elim) .nil)))) fun s hL => ?_
        refine en' ?_
        exact J31 (n25.1, n25.2.1, n25.2.2.1 + by_, n25.2.2.2.1, n25.2.2.2.2.1, n25.2.2.2.2.2.1, n25.2.2.2.2.2.2) a s (hL.keep (.cons (t := 0) rfl (fun _ h_ => h_.elim) (.cons (t := 1) rfl (fun _ h_ => h_.elim) (.cons (t := 5) rfl (fun _ _ h_ => h_) (.cons (t := 6) rfl (fun _ h_ => h_.elim) (.cons (t := 7) rfl (fun _ _ h_ => h_) .nil)))))) d27 h
      · replace h := h.2 hb_
        refine wp_skip ?_
        exact J31 n25 a s (hL.keep (.cons (t := 0) rfl (fun _ h_ => h_.elim) (.cons (t := 1) rfl (fun _ h_ => h_.elim) (.cons (t := 5) rfl (fun _ _ h_ => h_) (.cons (t := 6) rfl (fun _ h_ => h_.elim) (.cons (t := 7) rfl (fun _ _ h_ => h_) .nil)))))) d27 h
    refine cnd hL rfl (fun hb_ => ?_) (fun hb_ => ?_)
    · replace h := h.1 hb_
      obtain ⟨h37, h⟩ := h
      refine rg ?_
      refine st 21 (t_fab (off := 1) (o_t 7 rfl) Tryd.underlying48 rfl (prt_snd (prt_fst (prt_all _ _)) rfl) rfl ty3 rfl rfl) rfl rfl hL fun a s e_ hL => ?_
      refine st 22 (t_loado ty3 (o_t 21 rfl) rfl rfl) rfl rfl hL fun a s e_ hL => ?_
      refine st 23 (t_move (o_t 1 rfl) rfl rfl) rfl rfl hL fun a s e_ hL => ?_
      refine st 24 (t_add (o_t 22 rfl) (o_t 23 rfl) h37 rfl rfl) rfl rfl hL fun a s e_ hL => ?_
      refine st 25 (t_fab (off := 1) (o_t 7 rfl) Tryd.underlying48 rfl (prt_snd (prt_fst (prt_all _ _)) rfl) rfl ty3 rfl rfl) rfl rfl hL fun a s e_ hL => ?_
      refine st_stob (L' := [(0, (Pd.rep (En.slice En.SNode) l_)), (1, (Pd.rep (En.int .i64) by_)), (5, (Pd.row En.SNode s0.w.heap.size 48 og10 out9)), (6, (Pd.rep (En.int .i64) i11))]) 7 hL rfl (o_t 25 rfl) (o_t 24 rfl) (sub_snd (sub_fst (sub_all _ _ _)) rfl) ty3 rfl rfl rfl (.cons (t := 0) rfl (fun _ h_ => h_.elim) (.cons (t := 1) rfl (fun _ h_ => h_.elim) (.cons (t := 5) rfl (Dis.ow (Dis.symm d22)) (.cons (t := 6) rfl (fun _ h_ => h_.elim) .nil)))) fun s hL => ?_
      refine en' ?_
      exact J26 (e19.1, e19.2.1 + by_, e19.2.2.1, e19.2.2.2.1, e19.2.2.2.2.1, e19.2.2.2.2.2.1, e19.2.2.2.2.2.2) a s (hL.keep (.cons (t := 0) rfl (fun _ h_ => h_.elim) (.cons (t := 1) rfl (fun _ h_ => h_.elim) (.cons (t := 5) rfl (fun _ _ h_ => h_) (.cons (t := 6) rfl (fun _ h_ => h_.elim) (.cons (t := 7) rfl (fun _ _ h_ => h_) .nil)))))) (Dis.symm d22) h
    · replace h := h.2 hb_
      refine wp_skip ?_
      exact J26 e19 a s (hL.keep (.cons (t := 0) rfl (fun _ h_ => h_.elim) (.cons (t := 1) rfl (fun _ h_ => h_.elim) (.cons (t := 5) rfl (fun _ _ h_ => h_) (.cons (t := 6) rfl (fun _ h_ => h_.elim) (.cons (t := 7) rfl (fun _ _ h_ => h_) .nil)))))) (Dis.symm d22) h
  · replace h := h.2 hb_
    refine wp_exit ?_
    exact J7 out9 og10 a s (hL.keep (.cons (t := 5) rfl (fun _ _ h_ => h_) .nil)) h
theorem ref04_Wrap_ok {kind_ : Int} {lo_ : Int} {hi_ : Int} {a_ : SDesc} {r_ : SDesc} (h : ref04_Wrap kind_ lo_ hi_ a_ r_) : Fn Tryd.prog 30 [(Pd.rep (En.int .i64) kind_), (Pd.rep (En.int .i64) lo_), (Pd.rep (En.int .i64) hi_), (Pd.rep En.SDesc a_)] (Rq (Pd.rep En.SDesc r_)) := by
  unfold ref04_Wrap at h
  refine fn_of Tryd.func30 rfl Tryd.ntmps30 (by rfl) (by simp) fun s0 a hL => ?_
  refine wp_seq_k fun K1 hK1 => ?_
  refine rg ?_
  refine st 7 (t_box (o_t 3 rfl) rfl rfl) rfl rfl hL fun a s e_ hL => ?_
  refine st_alloc En.SDesc (z := []) 8 hL tyz24 rfl rfl rfl rfl fun a s g2 hg_ hL => ?_
  refine en' ?_
  show K1 a s.w
  refine hK1 _ _ ?_
  refine wp_seq_k fun K3 hK3 => ?_
  obtain ⟨r6, h7, h8, h11, h⟩ := h
  obtain ⟨K4, hK4, nK4, hL⟩ := hL.mark 999983
  have lt5 : ∀ k, (some g2) = some k → k < K4 := by rw [hK4]; exact hL.blt 8 rfl
  refine rda follows 12 [(Pd.ptr (En.slice En.SNode) a_), (Pd.rep (En.slice En.SNode) a_), (Pd.erow En.SNode s0.w.heap.size K4 48 r6), (Pd.rep (En.int .i64) kind_), (Pd.ptr (En.slice En.SNode) a_), (Pd.rep (En.slice En.SNode) a_), (Pd.rep (En.int .i64) (a_.length : Int)), (Pd.rep (En.int .i64) ((a_.length : Int) - 1)), (Pd.rep (En.int .i64) lo_), (Pd.rep (En.int .i64) hi_), (Pd.rep En.SNode (kind_, (a_.length : Int) - 1, 0, lo_, hi_, (0#256), ([] : Str))), (Pd.rep (En.slice En.SNode) [(kind_, (a_.length : Int) - 1, 0, lo_, hi_, (0#256), ([] : Str))])] hL (by kernel_rfl) rfl rfl ?_ ?_
  · refine AllT.cons (t_fa (off := 0) (o_t 7 rfl) Tryd.underlying24 rfl (prt_solo (prt_all _ _)) rfl ty22 rfl rfl) ?_
    refine AllT.cons (t_load ty22 (o_t 9 rfl) rfl rfl) ?_
    refine AllT.cons (t_callox (K := K4) (m := 999983) rfl nK4 (ref04_moved_ok h7) (xs := [.tmp 10, .const (.int .i64 0)]) (.cons (o_t 10 rfl) (.cons (o_i (k := .i64) (by decide)) .nil)) rfl rfl) ?_
    refine AllT.cons (t_move (o_t 0 rfl) rfl rfl) ?_
    refine AllT.cons (t_fa (off := 0) (o_t 7 rfl) Tryd.underlying24 rfl (prt_solo (prt_all _ _)) rfl ty22 rfl rfl) ?_
    refine AllT.cons (t_load ty22 (o_t 13 rfl) rfl rfl) ?_
    refine AllT.cons (t_len (o_t 14 rfl) Tryd.underlying22 rfl rfl) ?_
    refine AllT.cons (t_sub (o_t 15 rfl) (o_i (k := .i64) (by decide)) h8 rfl rfl) ?_
    refine AllT.cons (t_move (o_t 1 rfl) rfl rfl) ?_
    refine AllT.cons (t_move (o_t 2 rfl) rfl rfl) ?_
    refine AllT.cons (t_build (x := (kind_, (a_.length : Int) - 1, 0, lo_, hi_, (0#256), ([] : Str))) (ps := [(0, .tmp 12), (1, .tmp 16), (3, .tmp 17), (4, .tmp 18)]) tyz48 rfl stt48 (.cons (i := 0) (o_t 12 rfl) rfl (sub_fst (sub_all _ _ _)) (.cons (i := 1) (o_t 16 rfl) rfl (sub_snd (sub_fst (sub_all _ _ _)) rfl) (.cons (i := 3) (o_t 17 rfl) rfl (sub_snd (sub_snd (sub_snd (sub_fst (sub_all _ _ _)) rfl) rfl) rfl) (.cons (i := 4) (o_t 18 rfl) rfl (sub_snd (sub_snd (sub_snd (sub_snd (sub_fst (sub_all _ _ _)) rfl) rfl) rfl) rfl) .nil)))) rfl rfl) ?_
    refine AllT.cons (t_lit (xs := [.tmp 19]) (.cons (o_t 19 rfl) .nil) Tryd.underlying22 ty48 rfl rfl (by decide) rfl rfl) ?_
    exact AllT.nil
  intro a s e_ hL
  obtain ⟨og9, hg_, hL⟩ := hL.openr 11 rfl
  have d10 : Dis og9 (some g2) := Dis.new hg_ lt5
  have lt_og12_0 := hL.blt 8 rfl
  refine st_app (L' := [(8, (Pd.box En.SDesc s0.w.heap.size g2 []))]) 21 hL (o_t 11 rfl) (o_t 20 rfl) Tryd.underlying22 ty48 h11 rfl rfl rfl rfl (.cons (t := 8) rfl (Dis.bx (Dis.symm d10)) .nil) fun a s og12 hg_ hL => ?_
  have d13 : Dis og12 (some g2) := Dis.app hg_ d10 lt_og12_0
  obtain ⟨s15, h14, hL⟩ := hL.freeze (L' := [(8, (Pd.box En.SDesc s0.w.heap.size g2 []))]) 21 rfl (.cons (t := 8) rfl (Dis.bx (Dis.symm d13)) .nil)
  rw [← h14]
  clear h14
  generalize s15 = s at *
  refine st 22 (t_build (x := r6 ++ [(kind_, (a_.length : Int) - 1, 0, lo_, hi_, (0#256), ([] : Str))]) (ps := [(0, .tmp 21)]) tyz24 rfl stt24 (.cons (i := 0) (o_t 21 rfl) rfl (sub_solo (sub_all _ _ _)) .nil) rfl rfl) rfl rfl hL fun a s e_ hL => ?_
  refine st_stb (L' := []) 8 hL rfl (o_t 22 rfl) ty24 rfl rfl rfl .nil fun s hL => ?_
  refine en' ?_
  show K3 a s.w
  refine hK3 _ _ ?_
  subst h
  exact wp_ret (retb rfl ty24 hL rfl)
theorem ref04_Pair_ok {kind_ : Int} {a_ : SDesc} {b_ : SDesc} {r_ : SDesc} (h : ref04_Pair kind_ a_ b_ r_) : Fn Tryd.prog 29 [(Pd.rep (En.int .i64) kind_), (Pd.rep En.SDesc a_), (Pd.rep En.SDesc b_)] (Rq (Pd.rep En.SDesc r_)) := by
  unfold ref04_Pair at h
  refine fn_of Tryd.func29 rfl Tryd.ntmps29 (by rfl) (by simp) fun s0 a hL => ?_
  refine wp_seq_k fun K1 hK1 => ?_
  refine rg ?_
  refine st 4 (t_box (o_t 1 rfl) rfl rfl) rfl rfl hL fun a s e_ hL => ?_
  refine st 5 (t_box (o_t 2 rfl) rfl rfl) rfl rfl hL fun a s e_ hL => ?_
  refine st_alloc En.SDesc (z := []) 6 hL tyz24 rfl rfl rfl rfl fun a s g2 hg_ hL => ?_
  refine en' ?_
  show K1 a s.w
  refine hK1 _ _ ?_
  refine wp_seq_k fun K3 hK3 => ?_
  obtain ⟨r6, h7, r8, h9, h12, h⟩ := h
  obtain ⟨K4, hK4, nK4, hL⟩ := hL.mark 999983
  have lt5 : ∀ k, (some g2) = some k → k < K4 := by rw [hK4]; exact hL.blt 6 rfl
  refine rda follows 9 [(Pd.ptr (En.slice En.SNode) a_), (Pd.rep (En.slice En.SNode) a_), (Pd.erow En.SNode s0.w.heap.size K4 48 r6), (Pd.ptr (En.slice En.SNode) b_), (Pd.rep (En.slice En.SNode) b_), (Pd.ptr (En.slice En.SNode) a_), (Pd.rep (En.slice En.SNode) a_), (Pd.rep (En.int .i64) (a_.length : Int)), (Pd.rep (En.slice En.SNode) r8)] hL (by kernel_rfl) rfl rfl ?_ ?_
  · refine AllT.cons (t_fa (off := 0) (o_t 4 rfl) Tryd.underlying24 rfl (prt_solo (prt_all _ _)) rfl ty22 rfl rfl) ?_
    refine AllT.cons (t_load ty22 (o_t 8 rfl) rfl rfl) ?_
    refine AllT.cons (t_callox (K := K4) (m := 999983) rfl nK4 (ref04_moved_ok h7) (xs := [.tmp 9, .const (.int .i64 0)]) (.cons (o_t 9 rfl) (.cons (o_i (k := .i64) (by decide)) .nil)) rfl rfl) ?_
    refine AllT.cons (t_fa (off := 0) (o_t 5 rfl) Tryd.underlying24 rfl (prt_solo (prt_all _ _)) rfl ty22 rfl rfl) ?_
    refine AllT.cons (t_load ty22 (o_t 11 rfl) rfl rfl) ?_
    refine AllT.cons (t_fa (off := 0) (o_t 4 rfl) Tryd.underlying24 rfl (prt_solo (prt_all _ _)) rfl ty22 rfl rfl) ?_
    refine AllT.cons (t_load ty22 (o_t 13 rfl) rfl rfl) ?_
    refine AllT.cons (t_len (o_t 14 rfl) Tryd.underlying22 rfl rfl) ?_
    refine AllT.cons (t_call ((ref04_moved_ok h9).frz) (xs := [.tmp 12, .tmp 15]) (.cons (o_t 12 rfl) (.cons (o_t 15 rfl) .nil)) rfl rfl) ?_
    exact AllT.nil
  intro a s e_ hL
  obtain ⟨og10, hg_, hL⟩ := hL.openr 10 rfl
  have d11 : Dis og10 (some g2) := Dis.new hg_ lt5
  have lt_og13_0 := hL.blt 6 rfl
  refine st_app (L' := [(0, (Pd.rep (En.int .i64) kind_)), (4, (Pd.ptr En.SDesc a_)), (5, (Pd.ptr En.SDesc b_)), (6, (Pd.box En.SDesc s0.w.heap.size g2 []))]) 17 hL (o_t 10 rfl) (o_t 16 rfl) Tryd.underlying22 ty48 h12 rfl rfl rfl rfl (.cons (t := 0) rfl (fun _ h_ => h_.elim) (.cons (t := 4) rfl (fun _ h_ => h_.elim) (.cons (t := 5) rfl (fun _ h_ => h_.elim) (.cons (t := 6) rfl (Dis.bx (Dis.symm d11)) .nil)))) fun a s og13 hg_ hL => ?_
  have d14 : Dis og13 (some g2) := Dis.app hg_ d11 lt_og13_0
  refine st 7 (t_assign (o_t 17 rfl) rfl rfl) rfl rfl hL fun a s e_ hL => ?_
  refine en' ?_
  show K3 a s.w
  refine hK3 _ _ ?_
  refine wp_seq_k fun K15 hK15 => ?_
  obtain ⟨h16, h17, h18, h19, h⟩ := h
  refine rg ?_
  refine st 18 (t_move (o_t 7 rfl) rfl rfl) rfl rfl hL fun a s e_ hL => ?_
  refine st 19 (t_move (o_t 0 rfl) rfl rfl) rfl rfl hL fun a s e_ hL => ?_
  refine st 20 (t_fa (off := 0) (o_t 4 rfl) Tryd.underlying24 rfl (prt_solo (prt_all _ _)) rfl ty22 rfl rfl) rfl rfl hL fun a s e_ hL => ?_
  refine st 21 (t_load ty22 (o_t 20 rfl) rfl rfl) rfl rfl hL fun a s e_ hL => ?_
  refine st 22 (t_len (o_t 21 rfl) Tryd.underlying22 rfl rfl) rfl rfl hL fun a s e_ hL => ?_
  refine st 23 (t_sub (o_t 22 rfl) (o_i (k := .i64) (by decide)) h16 rfl rfl) rfl rfl hL fun a s e_ hL => ?_
  refine st 24 (t_fa (off := 0) (o_t 4 rfl) Tryd.underlying24 rfl (prt_solo (prt_all _ _)) rfl ty22 rfl rfl) rfl rfl hL fun a s e_ hL => ?_
  refine st 25 (t_load ty22 (o_t 24 rfl) rfl rfl) rfl rfl hL fun a s e_ hL => ?_
  refine st 26 (t_len (o_t 25 rfl) Tryd.underlying22 rfl rfl) rfl rfl hL fun a s e_ hL => ?_
  refine st 27 (t_fa (off := 0) (o_t 5 rfl) Tryd.underlying24 rfl (prt_solo (prt_all _ _)) rfl ty22 rfl rfl) rfl rfl hL fun a s e_ hL => ?_
  refine st 28 (t_load ty22 (o_t 27 rfl) rfl rfl) rfl rfl hL fun a s e_ hL => ?_
  refine st 29 (t_len (o_t 28 rfl) Tryd.underlying22 rfl rfl) rfl rfl hL fun a s e_ hL => ?_
  refine st 30 (t_add (o_t 26 rfl) (o_t 29 rfl) h17 rfl rfl) rfl rfl hL fun a s e_ hL => ?_
  refine st 31 (t_sub (o_t 30 rfl) (o_i (k := .i64) (by decide)) h18 rfl rfl) rfl rfl hL fun a s e_ hL => ?_
  refine st 32 (t_build (x := (kind_, (a_.length : Int) - 1, ((a_.length : Int) + (b_.length : Int)) - 1, 0, 0, (0#256), ([] : Str))) (ps := [(0, .tmp 19), (1, .tmp 23), (2, .tmp 31)]) tyz48 rfl stt48 (.cons (i := 0) (o_t 19 rfl) rfl (sub_fst (sub_all _ _ _)) (.cons (i := 1) (o_t 23 rfl) rfl (sub_snd (sub_fst (sub_all _ _ _)) rfl) (.cons (i := 2) (o_t 31 rfl) rfl (sub_snd (sub_snd (sub_fst (sub_all _ _ _)) rfl) rfl) .nil))) rfl rfl) rfl rfl hL fun a s e_ hL => ?_
  refine st 33 (t_lit (xs := [.tmp 32]) (.cons (o_t 32 rfl) .nil) Tryd.underlying22 ty48 rfl rfl (by decide) rfl rfl) rfl rfl hL fun a s e_ hL => ?_
  have lt_og20_0 := hL.blt 6 rfl
  refine st_app (L' := [(6, (Pd.box En.SDesc s0.w.heap.size g2 []))]) 34 hL (o_t 18 rfl) (o_t 33 rfl) Tryd.underlying22 ty48 h19 rfl rfl rfl rfl (.cons (t := 6) rfl (Dis.bx (Dis.symm d14)) .nil) fun a s og20 hg_ hL => ?_
  have d21 : Dis og20 (some g2) := Dis.app hg_ d14 lt_og20_0
  obtain ⟨s23, h22, hL⟩ := hL.freeze (L' := [(6, (Pd.box En.SDesc s0.w.heap.size g2 []))]) 34 rfl (.cons (t := 6) rfl (Dis.bx (Dis.symm d21)) .nil)
  rw [← h22]
  clear h22
  generalize s23 = s at *
  refine st 35 (t_build (x := (r6 ++ r8) ++ [(kind_, (a_.length : Int) - 1, ((a_.length : Int) + (b_.length : Int)) - 1, 0, 0, (0#256), ([] : Str))]) (ps := [(0, .tmp 34)]) tyz24 rfl stt24 (.cons (i := 0) (o_t 34 rfl) rfl (sub_solo (sub_all _ _ _)) .nil) rfl rfl) rfl rfl hL fun a s e_ hL => ?_
  refine st_stb (L' := []) 6 hL rfl (o_t 35 rfl) ty24 rfl rfl rfl .nil fun s hL => ?_
  refine en' ?_
  show K15 a s.w
  refine hK15 _ _ ?_
  subst h
  exact wp_ret (retb rfl ty24 hL rfl)
theorem ref04_Few_ok {d_ : SDesc} {r_ : Bool} (h : ref04_Few d_ r_) : Fn Tryd.prog 13 [(Pd.rep En.SDesc d_)] (Rq (Pd.rep En.bool r_)) := by
  unfold ref04_Few at h
  refine fn_of Tryd.func13 rfl Tryd.ntmps13 (by rfl) (by simp) fun s0 a hL => ?_
  refine wp_seq_k fun K1 hK1 => ?_
  refine rg ?_
  refine st 1 (t_box (o_t 0 rfl) rfl rfl) rfl rfl hL fun a s e_ hL => ?_
  refine st 2 (t_assign o_b rfl rfl) rfl rfl hL fun a s e_ hL => ?_
  refine en' ?_
  show K1 a s.w
  refine hK1 _ _ ?_
  refine wp_seq_k fun K2 hK2 => ?_
  refine rg ?_
  refine st 3 (t_assign (o_i (k := .i64) (by decide)) rfl rfl) rfl rfl hL fun a s e_ hL => ?_
  refine en' ?_
  show K2 a s.w
  refine hK2 _ _ ?_
  refine wp_seq_k fun K3 hK3 => ?_
  refine wp_seq_k fun K4 hK4 => ?_
  refine rg ?_
  refine st 4 (t_assign (o_i (k := .i64) (by decide)) rfl rfl) rfl rfl hL fun a s e_ hL => ?_
  refine en' ?_
  show K4 a s.w
  refine hK4 _ _ ?_
  refine wp_block ?_
  have J6 : ∀ (n5 : Int) (a : Act) (s : St), Has N0 33 s0 a s [(1, (Pd.ptr En.SDesc d_)), (3, (Pd.rep (En.int .i64) n5))] → ((ref04_Few.j1 d_ r_) n5) → K3 a s.w := by
    intro n5 a s hL h
    unfold ref04_Few.j1 at h
    show K3 a s.w
    refine hK3 _ _ ?_
    refine wp_seq_k fun K7 hK7 => ?_
    obtain ⟨b8, h9, h⟩ := h
    refine rg ?_
    refine st 25 (t_fa (off := 0) (o_t 1 rfl) Tryd.underlying24 rfl (prt_solo (prt_all _ _)) rfl ty22 rfl rfl) rfl rfl hL fun a s e_ hL => ?_
    refine st 26 (t_load ty22 (o_t 25 rfl) rfl rfl) rfl rfl hL fun a s e_ hL => ?_
    refine st 27 (t_len (o_t 26 rfl) Tryd.underlying22 rfl rfl) rfl rfl hL fun a s e_ hL => ?_
    refine st 28 (t_leq (o_t 27 rfl) (o_i (k := .i64) (by decide)) rfl rfl) rfl rfl hL fun a s e_ hL => ?_
    refine st 29 (t_move (o_t 28 rfl) rfl rfl) rfl rfl hL fun a s e_ hL => ?_
    refine st 30 (t_g1 rfl rfl rfl (fun hc_ => t_move (o_t 3 rfl) rfl rfl)) rfl rfl hL fun a s e_ hL => ?_
    refine st 31 (t_g1 rfl rfl rfl (fun hc_ => t_leq (o_w hc_ 30 rfl) (o_i (k := .i64) (by decide)) rfl rfl)) rfl rfl hL fun a s e_ hL => ?_
    refine st 32 (h9 ▸ (t_and (o_t 29 rfl) (fun hc2_ => (o_w hc2_ 31 rfl)) rfl rfl)) rfl rfl hL fun a s e_ hL => ?_
    refine st 2 (t_assign (o_t 32 rfl) rfl rfl) rfl rfl hL fun a s e_ hL => ?_
    refine en' ?_
    show K7 a s.w
    refine hK7 _ _ ?_
    subst h
    exact wp_ret (retq rfl hL rfl)
  obtain ⟨k12, h⟩ := h
  refine lpg (fun k13 a s => ∃ (n10 : Int) (i11 : Int), Has N0 33 s0 a s [(1, (Pd.ptr En.SDesc d_)), (3, (Pd.rep (En.int .i64) n10)), (4, (Pd.rep (En.int .i64) i11))] ∧ ref04_Few.l1 d_ (ref04_Few.j1 d_ r_) k13 n10 i11) k12 ⟨0, 0, hL.keep (.cons (t := 1) rfl (fun _ h_ => h_.elim) (.cons (t := 3) rfl (fun _ h_ => h_.elim) (.cons (t := 4) rfl (fun _ h_ => h_.elim) .nil))), h⟩ ?_
  rintro k13 a s ⟨n10, i11, hL, h⟩ KL14 hKL14
  cases k13 with
  | zero => exact h.elim
  | succ k13 =>
  unfold ref04_Few.l1 at h
  refine wp_seq_k fun K15 hK15 => ?_
  refine wp_seq_k fun K16 hK16 => ?_
  obtain ⟨b17, h18, h⟩ := h
  refine rg ?_
  refine st 5 (t_move (o_t 4 rfl) rfl rfl) rfl rfl hL fun a s e_ hL => ?_
  refine st 6 (t_fa (off := 0) (o_t 1 rfl) Tryd.underlying24 rfl (prt_solo (prt_all _ _)) rfl ty22 rfl rfl) rfl rfl hL fun a s e_ hL => ?_
  refine st 7 (t_load ty22 (o_t 6 rfl) rfl rfl) rfl rfl hL fun a s e_ hL => ?_
  refine st 8 (t_len (o_t 7 rfl) Tryd.underlying22 rfl rfl) rfl rfl hL fun a s e_ hL => ?_
  refine st 9 (t_lss (o_t 5 rfl) (o_t 8 rfl) rfl rfl) rfl rfl hL fun a s e_ hL => ?_
  refine st 10 (t_move (o_t 9 rfl) rfl rfl) rfl rfl hL fun a s e_ hL => ?_
  refine st 11 (t_g1 rfl rfl rfl (fun hc_ => t_move (o_t 4 rfl) rfl rfl)) rfl rfl hL fun a s e_ hL => ?_
  refine st 12 (t_g1 rfl rfl rfl (fun hc_ => t_lss (o_w hc_ 11 rfl) (o_i (k := .i64) (by decide)) rfl rfl)) rfl rfl hL fun a s e_ hL => ?_
  refine st 13 (h18 ▸ (t_and (o_t 10 rfl) (fun hc2_ => (o_w hc2_ 12 rfl)) rfl rfl)) rfl rfl hL fun a s e_ hL => ?_
  refine en' ?_
  show K16 a s.w
  refine hK16 _ _ ?_
  refine cnd hL rfl (fun hb_ => ?_) (fun hb_ => ?_)
  · replace h := h.1 hb_
    refine wp_skip ?_
    show K15 a s.w
    refine hK15 _ _ ?_
    refine wp_seq_k fun K19 hK19 => ?_
    refine wp_block ?_
    obtain ⟨e20, h21, h22, h⟩ := h
    refine rg ?_
    refine st 16 (t_move (o_t 3 rfl) rfl rfl) rfl rfl hL fun a s e_ hL => ?_
    refine st 17 (t_fa (off := 0) (o_t 1 rfl) Tryd.underlying24 rfl (prt_solo (prt_all _ _)) rfl ty22 rfl rfl) rfl rfl hL fun a s e_ hL => ?_
    refine st 18 (t_load ty22 (o_t 17 rfl) rfl rfl) rfl rfl hL fun a s e_ hL => ?_
    refine st 19 (t_move (o_t 4 rfl) rfl rfl) rfl rfl hL fun a s e_ hL => ?_
    refine st 20 (t_idx (o_t 18 rfl) (o_t 19 rfl) h21 Tryd.underlying22 ty48 rfl rfl) rfl rfl hL fun a s e_ hL => ?_
    refine st 21 (t_fa (off := 9) (o_t 20 rfl) Tryd.underlying48 rfl (prt_snd (prt_snd (prt_snd (prt_snd (prt_snd (prt_snd (prt_all _ _) rfl) rfl) rfl) rfl) rfl) rfl) rfl ty9 rfl rfl) rfl rfl hL fun a s e_ hL => ?_
    refine st 22 (t_load ty9 (o_t 21 rfl) rfl rfl) rfl rfl hL fun a s e_ hL => ?_
    refine st 23 (t_slen (o_t 22 rfl) Tryd.underlying9 rfl rfl) rfl rfl hL fun a s e_ hL => ?_
    refine st 24 (t_add (o_t 16 rfl) (o_t 23 rfl) h22 rfl rfl) rfl rfl hL fun a s e_ hL => ?_
    refine st 3 (t_assign (o_t 24 rfl) rfl rfl) rfl rfl hL fun a s e_ hL => ?_
    refine en' ?_
    show K19 a s.w
    refine hK19 _ _ ?_
    obtain ⟨h23, h⟩ := h
    refine rg ?_
    refine st 14 (t_move (o_t 4 rfl) rfl rfl) rfl rfl hL fun a s e_ hL => ?_
    refine st 15 (t_add (o_t 14 rfl) (o_i (k := .i64) (by decide)) h23 rfl rfl) rfl rfl hL fun a s e_ hL => ?_
    refine st 4 (t_assign (o_t 15 rfl) rfl rfl) rfl rfl hL fun a s e_ hL => ?_
    refine en' ?_
    exact hKL14 k13 a s (Nat.lt_succ_self _) ⟨(n10 + (e20.2.2.2.2.2.2.length : Int)), (i11 + 1), hL.keep (.cons (t := 1) rfl (fun _ h_ => h_.elim) (.cons (t := 3) rfl (fun _ h_ => h_.elim) (.cons (t := 4) rfl (fun _ h_ => h_.elim) .nil))), h⟩
  · replace h := h.2 hb_
    refine wp_exit ?_
    exact J6 n10 a s (hL.keep (.cons (t := 1) rfl (fun _ h_ => h_.elim) (.cons (t := 3) rfl (fun _ h_ => h_.elim) .nil))) h
theorem ref04_text_ok {s_ : Str} {r_ : Bool} (h : ref04_text s_ r_) : Fn Tryd.prog 82 [(Pd.rep En.str s_)] (Rq (Pd.rep En.bool r_)) := by
  unfold ref04_text at h
  refine fn_of Tryd.func82 rfl Tryd.ntmps82 (by rfl) (by simp) fun s0 a hL => ?_
  refine wp_seq_k fun K1 hK1 => ?_
  refine rg ?_
  refine st 2 (t_assign o_b rfl rfl) rfl rfl hL fun a s e_ hL => ?_
  refine en' ?_
  show K1 a s.w
  refine hK1 _ _ ?_
  refine wp_seq_k fun K2 hK2 => ?_
  refine wp_seq_k fun K3 hK3 => ?_
  refine rg ?_
  refine st 3 (t_assign (o_i (k := .i64) (by decide)) rfl rfl) rfl rfl hL fun a s e_ hL => ?_
  refine en' ?_
  show K3 a s.w
  refine hK3 _ _ ?_
  refine wp_block ?_
  have J4 : ∀ (a : Act) (s : St), Has N0 21 s0 a s [(0, (Pd.rep En.str s_))] → ((ref04_text.j1 s_ r_)) → K2 a s.w := by
    intro a s hL h
    unfold ref04_text.j1 at h
    show K2 a s.w
    refine hK2 _ _ ?_
    refine wp_seq_k fun K5 hK5 => ?_
    obtain ⟨r6, h7, h⟩ := h
    refine rg ?_
    refine st 14 (t_move (o_t 0 rfl) rfl rfl) rfl rfl hL fun a s e_ hL => ?_
    refine st 15 (t_slen (o_t 14 rfl) Tryd.underlying9 rfl rfl) rfl rfl hL fun a s e_ hL => ?_
    refine st 16 (t_gtr (o_t 15 rfl) (o_i (k := .i64) (by decide)) rfl rfl) rfl rfl hL fun a s e_ hL => ?_
    refine st 17 (t_move (o_t 16 rfl) rfl rfl) rfl rfl hL fun a s e_ hL => ?_
    refine st 18 (t_g1 rfl rfl rfl (fun hc_ => t_move (o_t 0 rfl) rfl rfl)) rfl rfl hL fun a s e_ hL => ?_
    refine st 19 (t_g1 rfl rfl rfl (fun hc_ => t_call (ref03_Utf8_ok (h7 hc_)) (xs := [.tmp 18]) (.cons (o_w hc_ 18 rfl) .nil) rfl rfl)) rfl rfl hL fun a s e_ hL => ?_
    refine st 20 (t_and (o_t 17 rfl) (fun hc2_ => (o_w hc2_ 19 rfl)) rfl rfl) rfl rfl hL fun a s e_ hL => ?_
    refine st 2 (t_assign (o_t 20 rfl) rfl rfl) rfl rfl hL fun a s e_ hL => ?_
    refine en' ?_
    show K5 a s.w
    refine hK5 _ _ ?_
    subst h
    exact wp_ret (retq rfl hL rfl)
  obtain ⟨k9, h⟩ := h
  refine lpg (fun k10 a s => ∃ (i8 : Int), Has N0 21 s0 a s [(0, (Pd.rep En.str s_)), (3, (Pd.rep (En.int .i64) i8))] ∧ ref04_text.l1 s_ r_ (ref04_text.j1 s_ r_) k10 i8) k9 ⟨0, hL.keep (.cons (t := 0) rfl (fun _ h_ => h_.elim) (.cons (t := 3) rfl (fun _ h_ => h_.elim) .nil)), h⟩ ?_
  rintro k10 a s ⟨i8, hL, h⟩ KL11 hKL11
  cases k10 with
  | zero => exact h.elim
  | succ k10 =>
  unfold ref04_text.l1 at h
  refine wp_seq_k fun K12 hK12 => ?_
  refine wp_seq_k fun K13 hK13 => ?_
  refine rg ?_
  refine st 4 (t_move (o_t 3 rfl) rfl rfl) rfl rfl hL fun a s e_ hL => ?_
  refine st 5 (t_move (o_t 0 rfl) rfl rfl) rfl rfl hL fun a s e_ hL => ?_
  refine st 6 (t_slen (o_t 5 rfl) Tryd.underlying9 rfl rfl) rfl rfl hL fun a s e_ hL => ?_
  refine st 7 (t_lss (o_t 4 rfl) (o_t 6 rfl) rfl rfl) rfl rfl hL fun a s e_ hL => ?_
  refine en' ?_
  show K13 a s.w
  refine hK13 _ _ ?_
  refine cnd hL rfl (fun hb_ => ?_) (fun hb_ => ?_)
  · replace h := h.1 hb_
    refine wp_skip ?_
    show K12 a s.w
    refine hK12 _ _ ?_
    refine wp_seq_k fun K14 hK14 => ?_
    refine wp_block ?_
    refine wp_seq_k fun K15 hK15 => ?_
    obtain ⟨c16, h17, h⟩ := h
    refine rg ?_
    refine st 10 (t_move (o_t 0 rfl) rfl rfl) rfl rfl hL fun a s e_ hL => ?_
    refine st 11 (t_move (o_t 3 rfl) rfl rfl) rfl rfl hL fun a s e_ hL => ?_
    refine st 12 (t_sidx (o_t 10 rfl) (o_t 11 rfl) h17 Tryd.underlying9 rfl rfl) rfl rfl hL fun a s e_ hL => ?_
    refine st 13 (t_eqi (o_t 12 rfl) (o_i (k := .u8) (by decide)) rfl rfl) rfl rfl hL fun a s e_ hL => ?_
    refine en' ?_
    show K15 a s.w
    refine hK15 _ _ ?_
    refine cnd hL rfl (fun hb_ => ?_) (fun hb_ => ?_)
    · replace h := h.1 hb_
      refine wp_seq_k fun K18 hK18 => ?_
      refine rg ?_
      refine st 2 (t_assign o_b rfl rfl) rfl rfl hL fun a s e_ hL => ?_
      refine en' ?_
      show K18 a s.w
      refine hK18 _ _ ?_
      subst h
      exact wp_ret (retq rfl hL rfl)
    · replace h := h.2 hb_
      refine wp_skip ?_
      show K14 a s.w
      refine hK14 _ _ ?_
      obtain ⟨h19, h⟩ := h
      refine rg ?_
      refine st 8 (t_move (o_t 3 rfl) rfl rfl) rfl rfl hL fun a s e_ hL => ?_
      refine st 9 (t_add (o_t 8 rfl) (o_i (k := .i64) (by decide)) h19 rfl rfl) rfl rfl hL fun a s e_ hL => ?_
      refine st 3 (t_assign (o_t 9 rfl) rfl rfl) rfl rfl hL fun a s e_ hL => ?_
      refine en' ?_
      exact hKL11 k10 a s (Nat.lt_succ_self _) ⟨(i8 + 1), hL.keep (.cons (t := 0) rfl (fun _ h_ => h_.elim) (.cons (t := 3) rfl (fun _ h_ => h_.elim) .nil)), h⟩
  · replace h := h.2 hb_
    refine wp_exit ?_
    exact J4 a s (hL.keep (.cons (t := 0) rfl (fun _ h_ => h_.elim) .nil)) h
theorem ref04_First.n_ok (k_ : Nat) : ∀ {l_ : (List SNode)} {i_ : Int} {r_ : Int} (h : ref04_First.n k_ l_ i_ r_), Fn Tryd.prog 63 [(Pd.rep (En.slice En.SNode) l_), (Pd.rep (En.int .i64) i_)] (Rq (Pd.rep (En.int .i64) r_)) := by
  induction k_ with
  | zero => intro l_ i_ r_ h; exact h.elim
  | succ k_ ih_ =>
  intro l_ i_ r_ h
  unfold ref04_First.n at h
  refine fn_of Tryd.func63 rfl Tryd.ntmps63 (by rfl) (by simp) fun s0 a hL => ?_
  refine wp_seq_k fun K1 hK1 => ?_
  refine rg ?_
  refine st 4 (t_assign (o_i (k := .i64) (by decide)) rfl rfl) rfl rfl hL fun a s e_ hL => ?_
  refine en' ?_
  show K1 a s.w
  refine hK1 _ _ ?_
  refine wp_seq_k fun K2 hK2 => ?_
  refine wp_seq_k fun K3 hK3 => ?_
  refine rg ?_
  refine st 9 (t_move (o_t 1 rfl) rfl rfl) rfl rfl hL fun a s e_ hL => ?_
  refine st 10 (t_lss (o_t 9 rfl) (o_i (k := .i64) (by decide)) rfl rfl) rfl rfl hL fun a s e_ hL => ?_
  refine en' ?_
  show K3 a s.w
  refine hK3 _ _ ?_
  refine cnd hL rfl (fun hb_ => ?_) (fun hb_ => ?_)
  · replace h := h.1 hb_
    refine wp_seq_k fun K4 hK4 => ?_
    refine rg ?_
    refine st 4 (t_assign (o_i (k := .i64) (by decide)) rfl rfl) rfl rfl hL fun a s e_ hL => ?_
    refine en' ?_
    show K4 a s.w
    refine hK4 _ _ ?_
    subst h
    exact wp_ret (retq rfl hL rfl)
  · replace h := h.2 hb_
    refine wp_skip ?_
    show K2 a s.w
    refine hK2 _ _ ?_
    refine wp_seq_k fun K5 hK5 => ?_
    obtain ⟨e6, h7, h⟩ := h
    refine rg ?_
    refine st 11 (t_move (o_t 0 rfl) rfl rfl) rfl rfl hL fun a s e_ hL => ?_
    refine st 12 (t_move (o_t 1 rfl) rfl rfl) rfl rfl hL fun a s e_ hL => ?_
    refine st 13 (t_idx (o_t 11 rfl) (o_t 12 rfl) h7 Tryd.underlying22 ty48 rfl rfl) rfl rfl hL fun a s e_ hL => ?_
    refine st 14 (t_load ty48 (o_t 13 rfl) rfl rfl) rfl rfl hL fun a s e_ hL => ?_
    refine st_alloc En.SNode (z := (0, 0, 0, 0, 0, (0#256), ([] : Str))) 5 hL tyz48 rfl rfl rfl rfl fun a s g8 hg_ hL => ?_
    refine st_stb (L' := [(0, (Pd.rep (En.slice En.SNode) l_)), (1, (Pd.rep (En.int .i64) i_))]) 5 hL rfl (o_t 14 rfl) ty48 rfl rfl rfl (.cons (t := 0) rfl (fun _ h_ => h_.elim) (.cons (t := 1) rfl (fun _ h_ => h_.elim) .nil)) fun s hL => ?_
    refine en' ?_
    show K5 a s.w
    refine hK5 _ _ ?_
    refine wp_seq_k fun K9 hK9 => ?_
    refine rg ?_
    refine st 15 (t_fab (off := 0) (o_t 5 rfl) Tryd.underlying48 rfl (prt_fst (prt_all _ _)) rfl ty3 rfl rfl) rfl rfl hL fun a s e_ hL => ?_
    refine st 16 (t_loado ty3 (o_t 15 rfl) rfl rfl) rfl rfl hL fun a s e_ hL => ?_
    refine st 17 (t_build (x := (e6.1, 0, 0, 0, 0, (0#256), ([] : Str))) (ps := [(0, .tmp 16)]) tyz48 rfl stt48 (.cons (i := 0) (o_t 16 rfl) rfl (sub_fst (sub_all _ _ _)) .nil) rfl rfl) rfl rfl hL fun a s e_ hL => ?_
    have lt_d11 := hL.blt 5 rfl
    refine st_alloc En.SNode (z := (0, 0, 0, 0, 0, (0#256), ([] : Str))) 6 hL tyz48 rfl rfl rfl rfl fun a s g10 hg_ hL => ?_
    have d11 : Dis (some g10) (some g8) := Dis.newg hg_ lt_d11
    refine st_stb (L' := [(0, (Pd.rep (En.slice En.SNode) l_)), (1, (Pd.rep (En.int .i64) i_)), (5, (Pd.box En.SNode s0.w.heap.size g8 e6))]) 6 hL rfl (o_t 17 rfl) ty48 rfl rfl rfl (.cons (t := 0) rfl (fun _ h_ => h_.elim) (.cons (t := 1) rfl (fun _ h_ => h_.elim) (.cons (t := 5) rfl (Dis.bx (Dis.symm d11)) .nil))) fun s hL => ?_
    refine en' ?_
    show K9 a s.w
    refine hK9 _ _ ?_
    refine wp_seq_k fun K12 hK12 => ?_
    refine rg ?_
    refine st 18 (t_move (o_t 1 rfl) rfl rfl) rfl rfl hL fun a s e_ hL => ?_
    refine st 7 (t_assign (o_t 18 rfl) rfl rfl) rfl rfl hL fun a s e_ hL => ?_
    refine en' ?_
    show K12 a s.w
    refine hK12 _ _ ?_
    refine wp_seq_k fun K13 hK13 => ?_
    refine wp_seq_k fun K14 hK14 => ?_
    refine rg ?_
    refine st 19 (t_fab (off := 0) (o_t 5 rfl) Tryd.underlying48 rfl (prt_fst (prt_all _ _)) rfl ty3 rfl rfl) rfl rfl hL fun a s e_ hL => ?_
    refine st 20 (t_loado ty3 (o_t 19 rfl) rfl rfl) rfl rfl hL fun a s e_ hL => ?_
    refine en' ?_
    show K14 a s.w
    refine hK14 _ _ ?_
    refine wp_block ?_
    refine wp_seq_k fun K15 hK15 => ?_
    refine rg ?_
    refine st 22 (t_eqi (o_t 20 rfl) (o_i (k := .i64) (by decide)) rfl rfl) rfl rfl hL fun a s e_ hL => ?_
    refine st 21 (t_assign (o_t 22 rfl) rfl rfl) rfl rfl hL fun a s e_ hL => ?_
    refine en' ?_
    show K15 a s.w
    refine hK15 _ _ ?_
    refine cnd hL rfl (fun hb_ => ?_) (fun hb_ => ?_)
    · replace h := h.1 hb_
      refine wp_skip ?_
      show K13 a s.w
      refine hK13 _ _ ?_
      refine wp_seq_k fun K16 hK16 => ?_
      refine wp_seq_k fun K17 hK17 => ?_
      refine rg ?_
      refine st 92 (t_loadb ty48 (o_t 5 rfl) rfl rfl) rfl rfl hL fun a s e_ hL => ?_
      refine st 93 (t_loadb ty48 (o_t 6 rfl) rfl rfl) rfl rfl hL fun a s e_ hL => ?_
      refine st 94 (t_nev eq48 (o_t 92 rfl) (o_t 93 rfl) rfl rfl) rfl rfl hL fun a s e_ hL => ?_
      refine en' ?_
      show K17 a s.w
      refine hK17 _ _ ?_
      refine cnd hL rfl (fun hb_ => ?_) (fun hb_ => ?_)
      · replace h := h.1 hb_
        refine wp_seq_k fun K18 hK18 => ?_
        refine rg ?_
        refine st 4 (t_assign (o_i (k := .i64) (by decide)) rfl rfl) rfl rfl hL fun a s e_ hL => ?_
        refine en' ?_
        show K18 a s.w
        refine hK18 _ _ ?_
        subst h
        exact wp_ret (retq rfl hL rfl)
      · replace h := h.2 hb_
        refine wp_skip ?_
        show K16 a s.w
        refine hK16 _ _ ?_
        refine wp_seq_k fun K19 hK19 => ?_
        refine rg ?_
        refine st 95 (t_move (o_t 7 rfl) rfl rfl) rfl rfl hL fun a s e_ hL => ?_
        refine st 4 (t_assign (o_t 95 rfl) rfl rfl) rfl rfl hL fun a s e_ hL => ?_
        refine en' ?_
        show K19 a s.w
        refine hK19 _ _ ?_
        subst h
        exact wp_ret (retq rfl hL rfl)
    · replace h := h.2 hb_
      refine wp_seq_k fun K20 hK20 => ?_
      refine rg ?_
      refine st 24 (t_eqi (o_t 20 rfl) (o_i (k := .i64) (by decide)) rfl rfl) rfl rfl hL fun a s e_ hL => ?_
      refine st 23 (t_assign (o_t 24 rfl) rfl rfl) rfl rfl hL fun a s e_ hL => ?_
      refine en' ?_
      show K20 a s.w
      refine hK20 _ _ ?_
      refine cnd hL rfl (fun hb_ => ?_) (fun hb_ => ?_)
      · replace h := h.1 hb_
        refine rg ?_
        refine st 25 (t_fab (off := 5) (o_t 5 rfl) Tryd.underlying48 rfl (prt_snd (prt_snd (prt_snd (prt_snd (prt_snd (prt_fst (prt_all _ _)) rfl) rfl) rfl) rfl) rfl) rfl ty46 rfl rfl) rfl rfl hL fun a s e_ hL => ?_
        refine st 26 (t_loado ty46 (o_t 25 rfl) rfl rfl) rfl rfl hL fun a s e_ hL => ?_
        refine st 27 (t_fab (off := 5) (o_t 6 rfl) Tryd.underlying48 rfl (prt_snd (prt_snd (prt_snd (prt_snd (prt_snd (prt_fst (prt_all _ _)) rfl) rfl) rfl) rfl) rfl) rfl ty46 rfl rfl) rfl rfl hL fun a s e_ hL => ?_
        refine st_stob (L' := [(5, (Pd.box En.SNode s0.w.heap.size g8 e6)), (7, (Pd.rep (En.int .i64) i_))]) 6 hL rfl (o_t 27 rfl) (o_t 26 rfl) (sub_snd (sub_snd (sub_snd (sub_snd (sub_snd (sub_fst (sub_all _ _ _)) rfl) rfl) rfl) rfl) rfl) ty46 rfl rfl rfl (.cons (t := 5) rfl (Dis.bx (Dis.symm d11)) (.cons (t := 7) rfl (fun _ h_ => h_.elim) .nil)) fun s hL => ?_
        refine en' ?_
        show K13 a s.w
        refine hK13 _ _ ?_
        refine wp_seq_k fun K21 hK21 => ?_
        refine wp_seq_k fun K22 hK22 => ?_
        obtain ⟨b23, h24, h⟩ := h
        refine rg ?_
        refine st 92 (t_loadb ty48 (o_t 5 rfl) rfl rfl) rfl rfl hL fun a s e_ hL => ?_
        refine st 93 (t_loadb ty48 (o_t 6 rfl) rfl rfl) rfl rfl hL fun a s e_ hL => ?_
        refine st 94 (h24 ▸ (t_nev eq48 (o_t 92 rfl) (o_t 93 rfl) rfl rfl)) rfl rfl hL fun a s e_ hL => ?_
        refine en' ?_
        show K22 a s.w
        refine hK22 _ _ ?_
        refine cnd hL rfl (fun hb_ => ?_) (fun hb_ => ?_)
        · replace h := h.1 hb_
          refine wp_seq_k fun K25 hK25 => ?_
          refine rg ?_
          refine st 4 (t_assign (o_i (k := .i64) (by decide)) rfl rfl) rfl rfl hL fun a s e_ hL => ?_
          refine en' ?_
          show K25 a s.w
          refine hK25 _ _ ?_
          subst h
          exact wp_ret (retq rfl hL rfl)
        · replace h := h.2 hb_
          refine wp_skip ?_
          show K21 a s.w
          refine hK21 _ _ ?_
          refine wp_seq_k fun K26 hK26 => ?_
          refine rg ?_
          refine st 95 (t_move (o_t 7 rfl) rfl rfl) rfl rfl hL fun a s e_ hL => ?_
          refine st 4 (t_assign (o_t 95 rfl) rfl rfl) rfl rfl hL fun a s e_ hL => ?_
          refine en' ?_
          show K26 a s.w
          refine hK26 _ _ ?_
          subst h
          exact wp_ret (retq rfl hL rfl)
      · replace h := h.2 hb_
        refine wp_seq_k fun K27 hK27 => ?_
        refine rg ?_
        refine st 29 (t_eqi (o_t 20 rfl) (o_i (k := .i64) (by decide)) rfl rfl) rfl rfl hL fun a s e_ hL => ?_
        refine st 28 (t_assign (o_t 29 rfl) rfl rfl) rfl rfl hL fun a s e_ hL => ?_
        refine en' ?_
        show K27 a s.w
        refine hK27 _ _ ?_
        refine cnd hL rfl (fun hb_ => ?_) (fun hb_ => ?_)
        · replace h := h.1 hb_
          refine wp_seq_k fun K28 hK28 => ?_
          refine rg ?_
          refine st 30 (t_fab (off := 9) (o_t 5 rfl) Tryd.underlying48 rfl (prt_snd (prt_snd (prt_snd (prt_snd (prt_snd (prt_snd (prt_all _ _) rfl) rfl) rfl) rfl) rfl) rfl) rfl ty9 rfl rfl) rfl rfl hL fun a s e_ hL => ?_
          refine st 31 (t_loado ty9 (o_t 30 rfl) rfl rfl) rfl rfl hL fun a s e_ hL => ?_
          refine st 32 (t_fab (off := 9) (o_t 6 rfl) Tryd.underlying48 rfl (prt_snd (prt_snd (prt_snd (prt_snd (prt_snd (prt_snd (prt_all _ _) rfl) rfl) rfl) rfl) rfl) rfl) rfl ty9 rfl rfl) rfl rfl hL fun a s e_ hL => ?_
          refine st_stob (L' := [(5, (Pd.box En.SNode s0.w.heap.size g8 e6)), (7, (Pd.rep (En.int .i64) i_))]) 6 hL rfl (o_t 32 rfl) (o_t 31 rfl) (sub_snd (sub_snd (sub_snd (sub_snd (sub_snd (sub_snd (sub_all _ _ _) rfl) rfl) rfl) rfl) rfl) rfl) ty9 rfl rfl rfl (.cons (t := 5) rfl (Dis.bx (Dis.symm d11)) (.cons (t := 7) rfl (fun _ h_ => h_.elim) .nil)) fun s hL => ?_
          refine en' ?_
          show K28 a s.w
          refine hK28 _ _ ?_
          refine wp_seq_k fun K29 hK29 => ?_
          obtain ⟨r30, h31, h⟩ := h
          refine rg ?_
          refine st 33 (t_fab (off := 9) (o_t 5 rfl) Tryd.underlying48 rfl (prt_snd (prt_snd (prt_snd (prt_snd (prt_snd (prt_snd (prt_all _ _) rfl) rfl) rfl) rfl) rfl) rfl) rfl ty9 rfl rfl) rfl rfl hL fun a s e_ hL => ?_
          refine st 34 (t_loado ty9 (o_t 33 rfl) rfl rfl) rfl rfl hL fun a s e_ hL => ?_
          refine st 35 (t_call (ref04_text_ok h31) (xs := [.tmp 34]) (.cons (o_t 34 rfl) .nil) rfl rfl) rfl rfl hL fun a s e_ hL => ?_
          refine st 36 (t_not (o_t 35 rfl) rfl rfl) rfl rfl hL fun a s e_ hL => ?_
          refine en' ?_
          show K29 a s.w
          refine hK29 _ _ ?_
          refine cnd hL rfl (fun hb_ => ?_) (fun hb_ => ?_)
          · replace h := h.1 hb_
            refine wp_seq_k fun K32 hK32 => ?_
            refine rg ?_
            refine st 4 (t_assign (o_i (k := .i64) (by decide)) rfl rfl) rfl rfl hL fun a s e_ hL => ?_
            refine en' ?_
            show K32 a s.w
            refine hK32 _ _ ?_
            subst h
            exact wp_ret (retq rfl hL rfl)
          · replace h := h.2 hb_
            refine wp_skip ?_
            show K13 a s.w
            refine hK13 _ _ ?_
            refine wp_seq_k fun K33 hK33 => ?_
            refine wp_seq_k fun K34 hK34 => ?_
            obtain ⟨b35, h36, h⟩ := h
            refine rg ?_
            refine st 92 (t_loadb ty48 (o_t 5 rfl) rfl rfl) rfl rfl hL fun a s e_ hL => ?_
            refine st 93 (t_loadb ty48 (o_t 6 rfl) rfl rfl) rfl rfl hL fun a s e_ hL => ?_
            refine st 94 (h36 ▸ (t_nev eq48 (o_t 92 rfl) (o_t 93 rfl) rfl rfl)) rfl rfl hL fun a s e_ hL => ?_
            refine en' ?_
            show K34 a s.w
            refine hK34 _ _ ?_
            refine cnd hL rfl (fun hb_ => ?_) (fun hb_ => ?_)
            · replace h := h.1 hb_
              refine wp_seq_k fun K37 hK37 => ?_
              refine rg ?_
              refine st 4 (t_assign (o_i (k := .i64) (by decide)) rfl rfl) rfl rfl hL fun a s e_ hL => ?_
              refine en' ?_
              show K37 a s.w
              refine hK37 _ _ ?_
              subst h
              exact wp_ret (retq rfl hL rfl)
            · replace h := h.2 hb_
              refine wp_skip ?_
              show K33 a s.w
              refine hK33 _ _ ?_
              refine wp_seq_k fun K38 hK38 => ?_
              refine rg ?_
              refine st 95 (t_move (o_t 7 rfl) rfl rfl) rfl rfl hL fun a s e_ hL => ?_
              refine st 4 (t_assign (o_t 95 rfl) rfl rfl) rfl rfl hL fun a s e_ hL => ?_
              refine en' ?_
              show K38 a s.w
              refine hK38 _ _ ?_
              subst h
              exact wp_ret (retq rfl hL rfl)
        · replace h := h.2 hb_
          refine wp_seq_k fun K39 hK39 => ?_
          refine wp_seq_k fun K40 hK40 => ?_
          refine rg ?_
          refine st 38 (t_eqi (o_t 20 rfl) (o_i (k := .i64) (by decide)) rfl rfl) rfl rfl hL fun a s e_ hL => ?_
          refine st 37 (t_assign (o_t 38 rfl) rfl rfl) rfl rfl hL fun a s e_ hL => ?_
          refine en' ?_
          show K40 a s.w
          refine hK40 _ _ ?_
          have J42 : ∀ (v41 : Bool) (a : Act) (s : St), Has N0 96 s0 a s [(0, (Pd.rep (En.slice En.SNode) l_)), (1, (Pd.rep (En.int .i64) i_)), (5, (Pd.box En.SNode s0.w.heap.size g8 e6)), (6, (Pd.box En.SNode s0.w.heap.size g10 (e6.1, 0, 0, 0, 0, (0#256), ([] : Str)))), (20, (Pd.rep (En.int .i64) e6.1)), (37, (Pd.rep En.bool v41))] → Dis (some g8) (some g10) → ((ref04_First.j3 (ref04_First.n k_) l_ i_ r_ e6) v41) → K39 a s.w := by
            intro v41 a s hL d43 h
            unfold ref04_First.j3 at h
            show K39 a s.w
            refine hK39 _ _ ?_
            refine cnd hL rfl (fun hb_ => ?_) (fun hb_ => ?_)
            · replace h := h.1 hb_
              refine wp_seq_k fun K44 hK44 => ?_
              obtain ⟨h45, h⟩ := h
              refine rg ?_
              refine st 42 (t_move (o_t 1 rfl) rfl rfl) rfl rfl hL fun a s e_ hL => ?_
              refine st 43 (t_sub (o_t 42 rfl) (o_i (k := .i64) (by decide)) h45 rfl rfl) rfl rfl hL fun a s e_ hL => ?_
              refine st 44 (t_fab (off := 1) (o_t 6 rfl) Tryd.underlying48 rfl (prt_snd (prt_fst (prt_all _ _)) rfl) rfl ty3 rfl rfl) rfl rfl hL fun a s e_ hL => ?_
              refine st_stob (L' := [(0, (Pd.rep (En.slice En.SNode) l_)), (1, (Pd.rep (En.int .i64) i_)), (5, (Pd.box En.SNode s0.w.heap.size g8 e6))]) 6 hL rfl (o_t 44 rfl) (o_t 43 rfl) (sub_snd (sub_fst (sub_all _ _ _)) rfl) ty3 rfl rfl rfl (.cons (t := 0) rfl (fun _ h_ => h_.elim) (.cons (t := 1) rfl (fun _ h_ => h_.elim) (.cons (t := 5) rfl (Dis.bx d43) .nil))) fun s hL => ?_
              refine en' ?_
              show K44 a s.w
              refine hK44 _ _ ?_
              refine wp_seq_k fun K46 hK46 => ?_
              refine wp_seq_k fun K47 hK47 => ?_
              refine rg ?_
              refine st 45 (t_fab (off := 0) (o_t 5 rfl) Tryd.underlying48 rfl (prt_fst (prt_all _ _)) rfl ty3 rfl rfl) rfl rfl hL fun a s e_ hL => ?_
              refine st 46 (t_loado ty3 (o_t 45 rfl) rfl rfl) rfl rfl hL fun a s e_ hL => ?_
              refine st 47 (t_eqi (o_t 46 rfl) (o_i (k := .i64) (by decide)) rfl rfl) rfl rfl hL fun a s e_ hL => ?_
              refine en' ?_
              show K47 a s.w
              refine hK47 _ _ ?_
              have J49 : ∀ (want48 : SNode) (a : Act) (s : St), Has N0 96 s0 a s [(0, (Pd.rep (En.slice En.SNode) l_)), (1, (Pd.rep (En.int .i64) i_)), (5, (Pd.box En.SNode s0.w.heap.size g8 e6)), (6, (Pd.box En.SNode s0.w.heap.size g10 want48))] → Dis (some g8) (some g10) → ((ref04_First.j1 (ref04_First.n k_) l_ i_ r_ e6) want48) → K46 a s.w := by
                intro want48 a s hL d50 h
                unfold ref04_First.j1 at h
                show K46 a s.w
                refine hK46 _ _ ?_
                obtain ⟨h51, r52, h53, h⟩ := h
                refine rg ?_
                refine st 69 (t_move (o_t 0 rfl) rfl rfl) rfl rfl hL fun a s e_ hL => ?_
                refine st 70 (t_move (o_t 1 rfl) rfl rfl) rfl rfl hL fun a s e_ hL => ?_
                refine st 71 (t_sub (o_t 70 rfl) (o_i (k := .i64) (by decide)) h51 rfl rfl) rfl rfl hL fun a s e_ hL => ?_
                refine st 72 (t_call (ih_ h53) (xs := [.tmp 69, .tmp 71]) (.cons (o_t 69 rfl) (.cons (o_t 71 rfl) .nil)) rfl rfl) rfl rfl hL fun a s e_ hL => ?_
                refine st 7 (t_assign (o_t 72 rfl) rfl rfl) rfl rfl hL fun a s e_ hL => ?_
                refine en' ?_
                show K13 a s.w
                refine hK13 _ _ ?_
                refine wp_seq_k fun K54 hK54 => ?_
                refine wp_seq_k fun K55 hK55 => ?_
                refine rg ?_
                refine st 92 (t_loadb ty48 (o_t 5 rfl) rfl rfl) rfl rfl hL fun a s e_ hL => ?_
                refine st 93 (t_loadb ty48 (o_t 6 rfl) rfl rfl) rfl rfl hL fun a s e_ hL => ?_
                refine st 94 (t_nev eq48 (o_t 92 rfl) (o_t 93 rfl) rfl rfl) rfl rfl hL fun a s e_ hL => ?_
                refine en' ?_
                show K55 a s.w
                refine hK55 _ _ ?_
                refine cnd hL rfl (fun hb_ => ?_) (fun hb_ => ?_)
                · replace h := h.1 hb_
                  refine wp_seq_k fun K56 hK56 => ?_
                  refine rg ?_
                  refine st 4 (t_assign (o_i (k := .i64) (by decide)) rfl rfl) rfl rfl hL fun a s e_ hL => ?_
                  refine en' ?_
                  show K56 a s.w
                  refine hK56 _ _ ?_
                  subst h
                  exact wp_ret (retq rfl hL rfl)
                · replace h := h.2 hb_
                  refine wp_skip ?_
                  show K54 a s.w
                  refine hK54 _ _ ?_
                  refine wp_seq_k fun K57 hK57 => ?_
                  refine rg ?_
                  refine st 95 (t_move (o_t 7 rfl) rfl rfl) rfl rfl hL fun a s e_ hL => ?_
                  refine st 4 (t_assign (o_t 95 rfl) rfl rfl) rfl rfl hL fun a s e_ hL => ?_
                  refine en' ?_
                  show K57 a s.w
                  refine hK57 _ _ ?_
                  subst h
                  exact wp_ret (retq rfl hL rfl)
              refine cnd hL rfl (fun hb_ => ?_) (fun hb_ => ?_)
              · replace h := h.1 hb_
                refine wp_seq_k fun K58 hK58 => ?_
                refine rg ?_
                refine st 48 (t_fab (off := 3) (o_t 5 rfl) Tryd.underlying48 rfl (prt_snd (prt_snd (prt_snd (prt_fst (prt_all _ _)) rfl) rfl) rfl) rfl ty3 rfl rfl) rfl rfl hL fun a s e_ hL => ?_
                refine st 49 (t_loado ty3 (o_t 48 rfl) rfl rfl) rfl rfl hL fun a s e_ hL => ?_
                refine st 50 (t_fab (off := 3) (o_t 6 rfl) Tryd.underlying48 rfl (prt_snd (prt_snd (prt_snd (prt_fst (prt_all _ _)) rfl) rfl) rfl) rfl ty3 rfl rfl) rfl rfl hL fun a s e_ hL => ?_
                refine st_stob (L' := [(0, (Pd.rep (En.slice En.SNode) l_)), (1, (Pd.rep (En.int .i64) i_)), (5, (Pd.box En.SNode s0.w.heap.size g8 e6))]) 6 hL rfl (o_t 50 rfl) (o_t 49 rfl) (sub_snd (sub_snd (sub_snd (sub_fst (sub_all _ _ _)) rfl) rfl) rfl) ty3 rfl rfl rfl (.cons (t := 0) rfl (fun _ h_ => h_.elim) (.cons (t := 1) rfl (fun _ h_ => h_.elim) (.cons (t := 5) rfl (Dis.bx d43) .nil))) fun s hL => ?_
                refine en' ?_
                show K58 a s.w
                refine hK58 _ _ ?_
                refine wp_seq_k fun K59 hK59 => ?_
                refine rg ?_
                refine st 51 (t_fab (off := 4) (o_t 5 rfl) Tryd.underlying48 rfl (prt_snd (prt_snd (prt_snd (prt_snd (prt_fst (prt_all _ _)) rfl) rfl) rfl) rfl) rfl ty3 rfl rfl) rfl rfl hL fun a s e_ hL => ?_
                refine st 52 (t_loado ty3 (o_t 51 rfl) rfl rfl) rfl rfl hL fun a s e_ hL => ?_
                refine st 53 (t_fab (off := 4) (o_t 6 rfl) Tryd.underlying48 rfl (prt_snd (prt_snd (prt_snd (prt_snd (prt_fst (prt_all _ _)) rfl) rfl) rfl) rfl) rfl ty3 rfl rfl) rfl rfl hL fun a s e_ hL => ?_
                refine st_stob (L' := [(0, (Pd.rep (En.slice En.SNode) l_)), (1, (Pd.rep (En.int .i64) i_)), (5, (Pd.box En.SNode s0.w.heap.size g8 e6))]) 6 hL rfl (o_t 53 rfl) (o_t 52 rfl) (sub_snd (sub_snd (sub_snd (sub_snd (sub_fst (sub_all _ _ _)) rfl) rfl) rfl) rfl) ty3 rfl rfl rfl (.cons (t := 0) rfl (fun _ h_ => h_.elim) (.cons (t := 1) rfl (fun _ h_ => h_.elim) (.cons (t := 5) rfl (Dis.bx d43) .nil))) fun s hL => ?_
                refine en' ?_
                show K59 a s.w
                refine hK59 _ _ ?_
                refine wp_seq_k fun K60 hK60 => ?_
                obtain ⟨b61, h62, h⟩ := h
                refine rg ?_
                refine st 54 (t_fab (off := 3) (o_t 5 rfl) Tryd.underlying48 rfl (prt_snd (prt_snd (prt_snd (prt_fst (prt_all _ _)) rfl) rfl) rfl) rfl ty3 rfl rfl) rfl rfl hL fun a s e_ hL => ?_
                refine st 55 (t_loado ty3 (o_t 54 rfl) rfl rfl) rfl rfl hL fun a s e_ hL => ?_
                refine st 56 (t_lss (o_t 55 rfl) (o_i (k := .i64) (by decide)) rfl rfl) rfl rfl hL fun a s e_ hL => ?_
                refine st 57 (t_move (o_t 56 rfl) rfl rfl) rfl rfl hL fun a s e_ hL => ?_
                refine st 58 (t_g1 rfl rfl rfl (fun hc_ => t_fab (off := 3) (o_t 5 rfl) Tryd.underlying48 rfl (prt_snd (prt_snd (prt_snd (prt_fst (prt_all _ _)) rfl) rfl) rfl) rfl ty3 rfl rfl)) rfl rfl hL fun a s e_ hL => ?_
                refine st 59 (t_g1 rfl rfl rfl (fun hc_ => t_loado ty3 (o_w hc_ 58 rfl) rfl rfl)) rfl rfl hL fun a s e_ hL => ?_
                refine st 60 (t_g1 rfl rfl rfl (fun hc_ => t_fab (off := 4) (o_t 5 rfl) Tryd.underlying48 rfl (prt_snd (prt_snd (prt_snd (prt_snd (prt_fst (prt_all _ _)) rfl) rfl) rfl) rfl) rfl ty3 rfl rfl)) rfl rfl hL fun a s e_ hL => ?_
                refine st 61 (t_g1 rfl rfl rfl (fun hc_ => t_loado ty3 (o_w hc_ 60 rfl) rfl rfl)) rfl rfl hL fun a s e_ hL => ?_
                refine st 62 (t_g1 rfl rfl rfl (fun hc_ => t_gtr (o_w hc_ 59 rfl) (o_w hc_ 61 rfl) rfl rfl)) rfl rfl hL fun a s e_ hL => ?_
                refine st 63 (h62 ▸ (t_or (o_t 57 rfl) (fun hc2_ => (o_w hc2_ 62 rfl)) rfl rfl)) rfl rfl hL fun a s e_ hL => ?_
                refine st 64 (t_move (o_t 63 rfl) rfl rfl) rfl rfl hL fun a s e_ hL => ?_
                refine st 65 (t_g1 rfl rfl rfl (fun hc_ => t_fab (off := 4) (o_t 5 rfl) Tryd.underlying48 rfl (prt_snd (prt_snd (prt_snd (prt_snd (prt_fst (prt_all _ _)) rfl) rfl) rfl) rfl) rfl ty3 rfl rfl)) rfl rfl hL fun a s e_ hL => ?_
                refine st 66 (t_g1 rfl rfl rfl (fun hc_ => t_loado ty3 (o_w hc_ 65 rfl) rfl rfl)) rfl rfl hL fun a s e_ hL => ?_
                refine st 67 (t_g1 rfl rfl rfl (fun hc_ => t_gtr (o_w hc_ 66 rfl) (o_i (k := .i64) (by decide)) rfl rfl)) rfl rfl hL fun a s e_ hL => ?_
                refine st 68 (t_or (o_t 64 rfl) (fun hc2_ => (o_w hc2_ 67 rfl)) rfl rfl) rfl rfl hL fun a s e_ hL => ?_
                refine en' ?_
                show K60 a s.w
                refine hK60 _ _ ?_
                refine cnd hL rfl (fun hb_ => ?_) (fun hb_ => ?_)
                · replace h := h.1 hb_
                  refine wp_seq_k fun K63 hK63 => ?_
                  refine rg ?_
                  refine st 4 (t_assign (o_i (k := .i64) (by decide)) rfl rfl) rfl rfl hL fun a s e_ hL => ?_
                  refine en' ?_
                  show K63 a s.w
                  refine hK63 _ _ ?_
                  subst h
                  exact wp_ret (retq rfl hL rfl)
                · replace h := h.2 hb_
                  refine wp_skip ?_
                  exact J49 (e6.1, i_ - 1, 0, e6.2.2.2.1, e6.2.2.2.2.1, (0#256), ([] : Str)) a s (hL.keep (.cons (t := 0) rfl (fun _ h_ => h_.elim) (.cons (t := 1) rfl (fun _ h_ => h_.elim) (.cons (t := 5) rfl (fun _ _ h_ => h_) (.cons (t := 6) rfl (fun _ _ h_ => h_) .nil))))) d43 h
              · replace h := h.2 hb_
                refine wp_skip ?_
                exact J49 (e6.1, i_ - 1, 0, 0, 0, (0#256), ([] : Str)) a s (hL.keep (.cons (t := 0) rfl (fun _ h_ => h_.elim) (.cons (t := 1) rfl (fun _ h_ => h_.elim) (.cons (t := 5) rfl (fun _ _ h_ => h_) (.cons (t := 6) rfl (fun _ _ h_ => h_) .nil))))) d43 h
            · replace h := h.2 hb_
              refine wp_seq_k fun K64 hK64 => ?_
              refine wp_seq_k fun K65 hK65 => ?_
              refine rg ?_
              refine st 74 (t_eqi (o_t 20 rfl) (o_i (k := .i64) (by decide)) rfl rfl) rfl rfl hL fun a s e_ hL => ?_
              refine st 73 (t_assign (o_t 74 rfl) rfl rfl) rfl rfl hL fun a s e_ hL => ?_
              refine en' ?_
              show K65 a s.w
              refine hK65 _ _ ?_
              have J67 : ∀ (v66 : Bool) (a : Act) (s : St), Has N0 96 s0 a s [(0, (Pd.rep (En.slice En.SNode) l_)), (1, (Pd.rep (En.int .i64) i_)), (5, (Pd.box En.SNode s0.w.heap.size g8 e6)), (6, (Pd.box En.SNode s0.w.heap.size g10 (e6.1, 0, 0, 0, 0, (0#256), ([] : Str)))), (73, (Pd.rep En.bool v66))] → Dis (some g8) (some g10) → ((ref04_First.j2 (ref04_First.n k_) l_ i_ r_ e6) v66) → K64 a s.w := by
                intro v66 a s hL d68 h
                unfold ref04_First.j2 at h
                show K64 a s.w
                refine hK64 _ _ ?_
                refine cnd hL rfl (fun hb_ => ?_) (fun hb_ => ?_)
                · replace h := h.1 hb_
                  refine wp_seq_k fun K69 hK69 => ?_
                  obtain ⟨h70, h⟩ := h
                  refine rg ?_
                  refine st 76 (t_move (o_t 1 rfl) rfl rfl) rfl rfl hL fun a s e_ hL => ?_
                  refine st 77 (t_sub (o_t 76 rfl) (o_i (k := .i64) (by decide)) h70 rfl rfl) rfl rfl hL fun a s e_ hL => ?_
                  refine st 78 (t_fab (off := 2) (o_t 6 rfl) Tryd.underlying48 rfl (prt_snd (prt_snd (prt_fst (prt_all _ _)) rfl) rfl) rfl ty3 rfl rfl) rfl rfl hL fun a s e_ hL => ?_
                  refine st_stob (L' := [(0, (Pd.rep (En.slice En.SNode) l_)), (1, (Pd.rep (En.int .i64) i_)), (5, (Pd.box En.SNode s0.w.heap.size g8 e6))]) 6 hL rfl (o_t 78 rfl) (o_t 77 rfl) (sub_snd (sub_snd (sub_fst (sub_all _ _ _)) rfl) rfl) ty3 rfl rfl rfl (.cons (t := 0) rfl (fun _ h_ => h_.elim) (.cons (t := 1) rfl (fun _ h_ => h_.elim) (.cons (t := 5) rfl (Dis.bx d68) .nil))) fun s hL => ?_
                  refine en' ?_
                  show K69 a s.w
                  refine hK69 _ _ ?_
                  refine wp_seq_k fun K71 hK71 => ?_
                  obtain ⟨h72, r73, h74, h⟩ := h
                  refine rg ?_
                  refine st 79 (t_move (o_t 0 rfl) rfl rfl) rfl rfl hL fun a s e_ hL => ?_
                  refine st 80 (t_move (o_t 1 rfl) rfl rfl) rfl rfl hL fun a s e_ hL => ?_
                  refine st 81 (t_sub (o_t 80 rfl) (o_i (k := .i64) (by decide)) h72 rfl rfl) rfl rfl hL fun a s e_ hL => ?_
                  refine st 82 (t_call (ih_ h74) (xs := [.tmp 79, .tmp 81]) (.cons (o_t 79 rfl) (.cons (o_t 81 rfl) .nil)) rfl rfl) rfl rfl hL fun a s e_ hL => ?_
                  refine st 8 (t_assign (o_t 82 rfl) rfl rfl) rfl rfl hL fun a s e_ hL => ?_
                  refine en' ?_
                  show K71 a s.w
                  refine hK71 _ _ ?_
                  refine wp_seq_k fun K75 hK75 => ?_
                  refine wp_seq_k fun K76 hK76 => ?_
                  refine rg ?_
                  refine st 83 (t_move (o_t 8 rfl) rfl rfl) rfl rfl hL fun a s e_ hL => ?_
                  refine st 84 (t_lss (o_t 83 rfl) (o_i (k := .i64) (by decide)) rfl rfl) rfl rfl hL fun a s e_ hL => ?_
                  refine en' ?_
                  show K76 a s.w
                  refine hK76 _ _ ?_
                  refine cnd hL rfl (fun hb_ => ?_) (fun hb_ => ?_)
                  · replace h := h.1 hb_
                    refine wp_seq_k fun K77 hK77 => ?_
                    refine rg ?_
                    refine st 4 (t_assign (o_i (k := .i64) (by decide)) rfl rfl) rfl rfl hL fun a s e_ hL => ?_
                    refine en' ?_
                    show K77 a s.w
                    refine hK77 _ _ ?_
                    subst h
                    exact wp_ret (retq rfl hL rfl)
                  · replace h := h.2 hb_
                    refine wp_skip ?_
                    show K75 a s.w
                    refine hK75 _ _ ?_
                    refine wp_seq_k fun K78 hK78 => ?_
                    obtain ⟨h79, h⟩ := h
                    refine rg ?_
                    refine st 85 (t_move (o_t 8 rfl) rfl rfl) rfl rfl hL fun a s e_ hL => ?_
                    refine st 86 (t_sub (o_t 85 rfl) (o_i (k := .i64) (by decide)) h79 rfl rfl) rfl rfl hL fun a s e_ hL => ?_
                    refine st 87 (t_fab (off := 1) (o_t 6 rfl) Tryd.underlying48 rfl (prt_snd (prt_fst (prt_all _ _)) rfl) rfl ty3 rfl rfl) rfl rfl hL fun a s e_ hL => ?_
                    refine st_stob (L' := [(0, (Pd.rep (En.slice En.SNode) l_)), (5, (Pd.box En.SNode s0.w.heap.size g8 e6)), (8, (Pd.rep (En.int .i64) r73))]) 6 hL rfl (o_t 87 rfl) (o_t 86 rfl) (sub_snd (sub_fst (sub_all _ _ _)) rfl) ty3 rfl rfl rfl (.cons (t := 0) rfl (fun _ h_ => h_.elim) (.cons (t := 5) rfl (Dis.bx d68) (.cons (t := 8) rfl (fun _ h_ => h_.elim) .nil))) fun s hL => ?_
                    refine en' ?_
                    show K78 a s.w
                    refine hK78 _ _ ?_
                    obtain ⟨h80, r81, h82, h⟩ := h
                    refine rg ?_
                    refine st 88 (t_move (o_t 0 rfl) rfl rfl) rfl rfl hL fun a s e_ hL => ?_
                    refine st 89 (t_move (o_t 8 rfl) rfl rfl) rfl rfl hL fun a s e_ hL => ?_
                    refine st 90 (t_sub (o_t 89 rfl) (o_i (k := .i64) (by decide)) h80 rfl rfl) rfl rfl hL fun a s e_ hL => ?_
                    refine st 91 (t_call (ih_ h82) (xs := [.tmp 88, .tmp 90]) (.cons (o_t 88 rfl) (.cons (o_t 90 rfl) .nil)) rfl rfl) rfl rfl hL fun a s e_ hL => ?_
                    refine st 7 (t_assign (o_t 91 rfl) rfl rfl) rfl rfl hL fun a s e_ hL => ?_
                    refine en' ?_
                    show K13 a s.w
                    refine hK13 _ _ ?_
                    refine wp_seq_k fun K83 hK83 => ?_
                    refine wp_seq_k fun K84 hK84 => ?_
                    obtain ⟨b85, h86, h⟩ := h
                    refine rg ?_
                    refine st 92 (t_loadb ty48 (o_t 5 rfl) rfl rfl) rfl rfl hL fun a s e_ hL => ?_
                    refine st 93 (t_loadb ty48 (o_t 6 rfl) rfl rfl) rfl rfl hL fun a s e_ hL => ?_
                    refine st 94 (h86 ▸ (t_nev eq48 (o_t 92 rfl) (o_t 93 rfl) rfl rfl)) rfl rfl hL fun a s e_ hL => ?_
                    refine en' ?_
                    show K84 a s.w
                    refine hK84 _ _ ?_
                    refine cnd hL rfl (fun hb_ => ?_) (fun hb_ => ?_)
                    · replace h := h.1 hb_
                      refine wp_seq_k fun K87 hK87 => ?_
                      refine rg ?_
                      refine st 4 (t_assign (o_i (k := .i64) (by decide)) rfl rfl) rfl rfl hL fun a s e_ hL => ?_
                      refine en' ?_
                      show K87 a s.w
                      refine hK87 _ _ ?_
                      subst h
                      exact wp_ret (retq rfl hL rfl)
                    · replace h := h.2 hb_
                      refine wp_skip ?_
                      show K83 a s.w
                      refine hK83 _ _ ?_
                      refine wp_seq_k fun K88 hK88 => ?_
                      refine rg ?_
                      refine st 95 (t_move (o_t 7 rfl) rfl rfl) rfl rfl hL fun a s e_ hL => ?_
                      refine st 4 (t_assign (o_t 95 rfl) rfl rfl) rfl rfl hL fun a s e_ hL => ?_
                      refine en' ?_
                      show K88 a s.w
                      refine hK88 _ _ ?_
                      subst h
                      exact wp_ret (retq rfl hL rfl)
                · replace h := h.2 hb_
                  refine wp_seq_k fun K89 hK89 => ?_
                  refine rg ?_
                  refine st 4 (t_assign (o_i (k := .i64) (by decide)) rfl rfl) rfl rfl hL fun a s e_ hL => ?_
                  refine en' ?_
                  show K89 a s.w
                  refine hK89 _ _ ?_
                  subst h
                  exact wp_ret (retq rfl hL rfl)
              refine cnd hL rfl (fun hb_ => ?_) (fun hb_ => ?_)
              · replace h := h.1 hb_
                refine wp_skip ?_
                exact J67 (e6.1 == 4) a s (hL.keep (.cons (t := 0) rfl (fun _ h_ => h_.elim) (.cons (t := 1) rfl (fun _ h_ => h_.elim) (.cons (t := 5) rfl (fun _ _ h_ => h_) (.cons (t := 6) rfl (fun _ _ h_ => h_) (.cons (t := 73) rfl (fun _ h_ => h_.elim) .nil)))))) d43 h
              · replace h := h.2 hb_
                refine rg ?_
                refine st 75 (t_eqi (o_t 20 rfl) (o_i (k := .i64) (by decide)) rfl rfl) rfl rfl hL fun a s e_ hL => ?_
                refine st 73 (t_assign (o_t 75 rfl) rfl rfl) rfl rfl hL fun a s e_ hL => ?_
                refine en' ?_
                exact J67 (e6.1 == 5) a s (hL.keep (.cons (t := 0) rfl (fun _ h_ => h_.elim) (.cons (t := 1) rfl (fun _ h_ => h_.elim) (.cons (t := 5) rfl (fun _ _ h_ => h_) (.cons (t := 6) rfl (fun _ _ h_ => h_) (.cons (t := 73) rfl (fun _ h_ => h_.elim) .nil)))))) d43 h
          refine cnd hL rfl (fun hb_ => ?_) (fun hb_ => ?_)
          · replace h := h.1 hb_
            refine wp_skip ?_
            exact J42 (e6.1 == 6) a s (hL.keep (.cons (t := 0) rfl (fun _ h_ => h_.elim) (.cons (t := 1) rfl (fun _ h_ => h_.elim) (.cons (t := 5) rfl (fun _ _ h_ => h_) (.cons (t := 6) rfl (fun _ _ h_ => h_) (.cons (t := 20) rfl (fun _ h_ => h_.elim) (.cons (t := 37) rfl (fun _ h_ => h_.elim) .nil))))))) (Dis.symm d11) h
          · replace h := h.2 hb_
            refine wp_seq_k fun K90 hK90 => ?_
            refine rg ?_
            refine st 39 (t_eqi (o_t 20 rfl) (o_i (k := .i64) (by decide)) rfl rfl) rfl rfl hL fun a s e_ hL => ?_
            refine st 37 (t_assign (o_t 39 rfl) rfl rfl) rfl rfl hL fun a s e_ hL => ?_
            refine en' ?_
            show K90 a s.w
            refine hK90 _ _ ?_
            refine cnd hL rfl (fun hb_ => ?_) (fun hb_ => ?_)
            · replace h := h.1 hb_
              refine wp_skip ?_
              exact J42 (e6.1 == 7) a s (hL.keep (.cons (t := 0) rfl (fun _ h_ => h_.elim) (.cons (t := 1) rfl (fun _ h_ => h_.elim) (.cons (t := 5) rfl (fun _ _ h_ => h_) (.cons (t := 6) rfl (fun _ _ h_ => h_) (.cons (t := 20) rfl (fun _ h_ => h_.elim) (.cons (t := 37) rfl (fun _ h_ => h_.elim) .nil))))))) (Dis.symm d11) h
            · replace h := h.2 hb_
              refine wp_seq_k fun K91 hK91 => ?_
              refine rg ?_
              refine st 40 (t_eqi (o_t 20 rfl) (o_i (k := .i64) (by decide)) rfl rfl) rfl rfl hL fun a s e_ hL => ?_
              refine st 37 (t_assign (o_t 40 rfl) rfl rfl) rfl rfl hL fun a s e_ hL => ?_
              refine en' ?_
              show K91 a s.w
              refine hK91 _ _ ?_
              refine cnd hL rfl (fun hb_ => ?_) (fun hb_ => ?_)
              · replace h := h.1 hb_
                refine wp_skip ?_
                exact J42 (e6.1 == 8) a s (hL.keep (.cons (t := 0) rfl (fun _ h_ => h_.elim) (.cons (t := 1) rfl (fun _ h_ => h_.elim) (.cons (t := 5) rfl (fun _ _ h_ => h_) (.cons (t := 6) rfl (fun _ _ h_ => h_) (.cons (t := 20) rfl (fun _ h_ => h_.elim) (.cons (t := 37) rfl (fun _ h_ => h_.elim) .nil))))))) (Dis.symm d11) h
              · replace h := h.2 hb_
                refine rg ?_
                refine st 41 (t_eqi (o_t 20 rfl) (o_i (k := .i64) (by decide)) rfl rfl) rfl rfl hL fun a s e_ hL => ?_
                refine st 37 (t_assign (o_t 41 rfl) rfl rfl) rfl rfl hL fun a s e_ hL => ?_
                refine en' ?_
                exact J42 (e6.1 == 9) a s (hL.keep (.cons (t := 0) rfl (fun _ h_ => h_.elim) (.cons (t := 1) rfl (fun _ h_ => h_.elim) (.cons (t := 5) rfl (fun _ _ h_ => h_) (.cons (t := 6) rfl (fun _ _ h_ => h_) (.cons (t := 20) rfl (fun _ h_ => h_.elim) (.cons (t := 37) rfl (fun _ h_ => h_.elim) .nil))))))) (Dis.symm d11) h
theorem ref04_First_ok {l_ : (List SNode)} {i_ : Int} {r_ : Int} (h : ref04_First l_ i_ r_) : Fn Tryd.prog 63 [(Pd.rep (En.slice En.SNode) l_), (Pd.rep (En.int .i64) i_)] (Rq (Pd.rep (En.int .i64) r_)) := by
  obtain ⟨k_, h⟩ := h
  exact ref04_First.n_ok k_ h
theorem ref04_Form_ok {d_ : SDesc} {r_ : Bool} (h : ref04_Form d_ r_) : Fn Tryd.prog 42 [(Pd.rep En.SDesc d_)] (Rq (Pd.rep En.bool r_)) := by
  unfold ref04_Form at h
  refine fn_of Tryd.func42 rfl Tryd.ntmps42 (by rfl) (by simp) fun s0 a hL => ?_
  refine wp_seq_k fun K1 hK1 => ?_
  refine rg ?_
  refine st 1 (t_box (o_t 0 rfl) rfl rfl) rfl rfl hL fun a s e_ hL => ?_
  refine st 2 (t_assign o_b rfl rfl) rfl rfl hL fun a s e_ hL => ?_
  refine en' ?_
  show K1 a s.w
  refine hK1 _ _ ?_
  refine wp_seq_k fun K2 hK2 => ?_
  obtain ⟨h3, r4, h5, h⟩ := h
  refine rg ?_
  refine st 3 (t_fa (off := 0) (o_t 1 rfl) Tryd.underlying24 rfl (prt_solo (prt_all _ _)) rfl ty22 rfl rfl) rfl rfl hL fun a s e_ hL => ?_
  refine st 4 (t_load ty22 (o_t 3 rfl) rfl rfl) rfl rfl hL fun a s e_ hL => ?_
  refine st 5 (t_len (o_t 4 rfl) Tryd.underlying22 rfl rfl) rfl rfl hL fun a s e_ hL => ?_
  refine st 6 (t_gtr (o_t 5 rfl) (o_i (k := .i64) (by decide)) rfl rfl) rfl rfl hL fun a s e_ hL => ?_
  refine st 7 (t_move (o_t 6 rfl) rfl rfl) rfl rfl hL fun a s e_ hL => ?_
  refine st 8 (t_g1 rfl rfl rfl (fun hc_ => t_fa (off := 0) (o_t 1 rfl) Tryd.underlying24 rfl (prt_solo (prt_all _ _)) rfl ty22 rfl rfl)) rfl rfl hL fun a s e_ hL => ?_
  refine st 9 (t_g1 rfl rfl rfl (fun hc_ => t_load ty22 (o_w hc_ 8 rfl) rfl rfl)) rfl rfl hL fun a s e_ hL => ?_
  refine st 10 (t_g1 rfl rfl rfl (fun hc_ => t_fa (off := 0) (o_t 1 rfl) Tryd.underlying24 rfl (prt_solo (prt_all _ _)) rfl ty22 rfl rfl)) rfl rfl hL fun a s e_ hL => ?_
  refine st 11 (t_g1 rfl rfl rfl (fun hc_ => t_load ty22 (o_w hc_ 10 rfl) rfl rfl)) rfl rfl hL fun a s e_ hL => ?_
  refine st 12 (t_g1 rfl rfl rfl (fun hc_ => t_len (o_w hc_ 11 rfl) Tryd.underlying22 rfl rfl)) rfl rfl hL fun a s e_ hL => ?_
  refine st 13 (t_g1 rfl rfl rfl (fun hc_ => t_sub (o_w hc_ 12 rfl) (o_i (k := .i64) (by decide)) (h3 hc_) rfl rfl)) rfl rfl hL fun a s e_ hL => ?_
  refine st 14 (t_g1 rfl rfl rfl (fun hc_ => t_call (ref04_First_ok (h5 hc_)) (xs := [.tmp 9, .tmp 13]) (.cons (o_w hc_ 9 rfl) (.cons (o_w hc_ 13 rfl) .nil)) rfl rfl)) rfl rfl hL fun a s e_ hL => ?_
  refine st 15 (t_g1 rfl rfl rfl (fun hc_ => t_eqi (o_w hc_ 14 rfl) (o_i (k := .i64) (by decide)) rfl rfl)) rfl rfl hL fun a s e_ hL => ?_
  refine st 16 (t_and (o_t 7 rfl) (fun hc2_ => (o_w hc2_ 15 rfl)) rfl rfl) rfl rfl hL fun a s e_ hL => ?_
  refine st 2 (t_assign (o_t 16 rfl) rfl rfl) rfl rfl hL fun a s e_ hL => ?_
  refine en' ?_
  show K2 a s.w
  refine hK2 _ _ ?_
  subst h
  exact wp_ret (retq rfl hL rfl)
end Go.Proofs.YtdidjelkkanenaaDoor.V
namespace Go.Proofs.YtdidjelkkanenaaDoor.V
open Go
set_option linter.unusedVariables false
def ref08_Ways.j1 (i_ : Int) (r_ : Int) (l5 : (List Int)) : Prop := ∃ e9 : Int, at? l5 i_ = some e9 ∧ r_ = e9
def ref08_Ways.j2 (L1_ : (List Int) → Int → Prop) (l11 : (List Int)) (k13 : Int) (w29 : Int) : Prop := (l11.length + [(min 2 w29)].length ≤ 2147483648) ∧ (InR .i64 (k13 + 1)) ∧ L1_ (l11 ++ [(min 2 w29)]) (k13 + 1)
def ref08_Ways.j3 (L2_ : Int → Int → Prop) (w53 : Int) (t54 : Int) (p65 : Int) : Prop := (InR .i64 (w53 + p65)) ∧ (InR .i64 (t54 + 1)) ∧ L2_ (min 2 (w53 + p65)) (t54 + 1)
def ref08_Ways.l3 (l11 : (List Int)) (e21 : SNode) (t54 : Int) (X3 : Int → Prop) : Nat → Int → Int → Prop
  | 0, _, _ => False
  | k_0 + 1, p70, m71 => ((decide (m71 < t54)) = true → ∃ e79 : Int, at? l11 e21.2.1 = some e79 ∧ (InR .i64 (p70 * e79)) ∧ (InR .i64 (m71 + 1)) ∧ ref08_Ways.l3 l11 e21 t54 X3 k_0 (min 2 (p70 * e79)) (m71 + 1)) ∧ ((decide (m71 < t54)) = false → X3 p70)
def ref08_Ways.l2 (l11 : (List Int)) (e21 : SNode) (X2 : Int → Prop) : Nat → Int → Int → Prop
  | 0, _, _ => False
  | k_0 + 1, w53, t54 => ((decide (t54 ≤ e21.2.2.2.2.1)) = true → ∃ k72, ref08_Ways.l3 l11 e21 t54 (ref08_Ways.j3 (ref08_Ways.l2 l11 e21 X2 k_0) w53 t54) k72 1 0) ∧ ((decide (t54 ≤ e21.2.2.2.2.1)) = false → X2 w53)
def ref08_Ways.l1 (d_ : SDesc) (i_ : Int) (X1 : (List Int) → Prop) : Nat → (List Int) → Int → Prop
  | 0, _, _ => False
  | k_0 + 1, l11, k13 => ((decide (k13 ≤ i_)) = true → ∃ e21 : SNode, at? d_ k13 = some e21 ∧ (((e21.1 == 1)) = true → (ref08_Ways.j2 (ref08_Ways.l1 d_ i_ X1 k_0) l11 k13) 1) ∧ (((e21.1 == 1)) = false → (((e21.1 == 4)) = true → ∃ e35 : Int, at? l11 e21.2.1 = some e35 ∧ ∃ e37 : Int, at? l11 e21.2.2.1 = some e37 ∧ (InR .i64 (e35 * e37)) ∧ (ref08_Ways.j2 (ref08_Ways.l1 d_ i_ X1 k_0) l11 k13) (e35 * e37)) ∧ (((e21.1 == 4)) = false → (((e21.1 == 5)) = true → ∃ e41 : Int, at? l11 e21.2.1 = some e41 ∧ ∃ e43 : Int, at? l11 e21.2.2.1 = some e43 ∧ (InR .i64 (e41 + e43)) ∧ (ref08_Ways.j2 (ref08_Ways.l1 d_ i_ X1 k_0) l11 k13) (e41 + e43)) ∧ (((e21.1 == 5)) = false → (((e21.1 == 6)) = true → ∃ e49 : Int, at? l11 e21.2.1 = some e49 ∧ ((decide (0 < e49)) = true → (ref08_Ways.j2 (ref08_Ways.l1 d_ i_ X1 k_0) l11 k13) 2) ∧ ((decide (0 < e49)) = false → (ref08_Ways.j2 (ref08_Ways.l1 d_ i_ X1 k_0) l11 k13) 1)) ∧ (((e21.1 == 6)) = false → (((e21.1 == 7)) = true → ∃ k55, ref08_Ways.l2 l11 e21 (ref08_Ways.j2 (ref08_Ways.l1 d_ i_ X1 k_0) l11 k13) k55 0 e21.2.2.2.1) ∧ (((e21.1 == 7)) = false → (ref08_Ways.j2 (ref08_Ways.l1 d_ i_ X1 k_0) l11 k13) 0)))))) ∧ ((decide (k13 ≤ i_)) = false → X1 l11)
def ref08_Ways (d_ : SDesc) (i_ : Int) (r_ : Int) : Prop := ∃ k14, ref08_Ways.l1 d_ i_ (ref08_Ways.j1 i_ r_) k14 ([] : (List Int)) 0
def ref08_First.j1 (r_ : (Int × Bool)) : Prop := r_ = (0, false)
def ref08_First.l1 (d_ : SDesc) (r_ : (Int × Bool)) (X1 : Prop) : Nat → Int → Prop
  | 0, _ => False
  | k_0 + 1, i6 => ((decide (i6 < (d_.length : Int))) = true → ∃ e14 : SNode, at? d_ i6 = some e14 ∧ ∃ e17 : SNode, (((((e14.1 == 6) || (e14.1 == 7))) = true) → at? d_ i6 = some e17) ∧ ∃ r19 : Int, (((((e14.1 == 6) || (e14.1 == 7))) = true) → ref08_Ways d_ e17.2.1 r19) ∧ (((((e14.1 == 6) || (e14.1 == 7)) && (r19 != 0))) = true → r_ = (i6, true)) ∧ (((((e14.1 == 6) || (e14.1 == 7)) && (r19 != 0))) = false → (InR .i64 (i6 + 1)) ∧ ref08_First.l1 d_ r_ X1 k_0 (i6 + 1))) ∧ ((decide (i6 < (d_.length : Int))) = false → X1)
def ref08_First (d_ : SDesc) (r_ : (Int × Bool)) : Prop := ∃ k7, ref08_First.l1 d_ r_ (ref08_First.j1 r_) k7 0
def ref08_Right (d_ : SDesc) (r_ : Bool) : Prop := ∃ r4 : Bool, ref04_Form d_ r4 ∧ (((!r4)) = true → r_ = false) ∧ (((!r4)) = false → ∃ r8 : (Int × Bool), ref08_First d_ r8 ∧ r_ = (!r8.2))
end Go.Proofs.YtdidjelkkanenaaDoor.V
namespace Go.Proofs.YtdidjelkkanenaaDoor.V
open Go
set_option linter.unusedVariables false
set_option maxRecDepth 100000
theorem ref08_Ways_ok {d_ : SDesc} {i_ : Int} {r_ : Int} (h : ref08_Ways d_ i_ r_) : Fn Tryd.prog 27 [(Pd.rep En.SDesc d_), (Pd.rep (En.int .i64) i_)] (Rq (Pd.rep (En.int .i64) r_)) := by
  unfold ref08_Ways at h
  refine fn_of Tryd.func27 rfl Tryd.ntmps27 (by rfl) (by simp) fun s0 a hL => ?_
  refine wp_seq_k fun K1 hK1 => ?_
  refine rg ?_
  refine st 2 (t_box (o_t 0 rfl) rfl rfl) rfl rfl hL fun a s e_ hL => ?_
  refine st 4 (t_assign (o_i (k := .i64) (by decide)) rfl rfl) rfl rfl hL fun a s e_ hL => ?_
  refine en' ?_
  show K1 a s.w
  refine hK1 _ _ ?_
  refine wp_seq_k fun K2 hK2 => ?_
  refine rg ?_
  refine st 5 (t_assign (o_nil (E := (En.int .i64)) (N := s0.w.heap.size) (te := 3)) rfl rfl) rfl rfl hL fun a s e_ hL => ?_
  refine en' ?_
  show K2 a s.w
  refine hK2 _ _ ?_
  refine wp_seq_k fun K3 hK3 => ?_
  refine wp_seq_k fun K4 hK4 => ?_
  refine rg ?_
  refine st 6 (t_assign (o_i (k := .i64) (by decide)) rfl rfl) rfl rfl hL fun a s e_ hL => ?_
  refine en' ?_
  show K4 a s.w
  refine hK4 _ _ ?_
  refine wp_block ?_
  have J7 : ∀ (l5 : (List Int)) (og6 : Option Nat) (a : Act) (s : St), Has N0 96 s0 a s [(1, (Pd.rep (En.int .i64) i_)), (5, (Pd.row (En.int .i64) s0.w.heap.size 3 og6 l5))] → ((ref08_Ways.j1 i_ r_) l5) → K3 a s.w := by
    intro l5 og6 a s hL h
    unfold ref08_Ways.j1 at h
    show K3 a s.w
    refine hK3 _ _ ?_
    refine wp_seq_k fun K8 hK8 => ?_
    obtain ⟨e9, h10, h⟩ := h
    refine rg ?_
    refine st 92 (t_move (o_t 5 rfl) rfl rfl) rfl rfl hL fun a s e_ hL => ?_
    refine st 93 (t_move (o_t 1 rfl) rfl rfl) rfl rfl hL fun a s e_ hL => ?_
    refine st 94 (t_idxo (o_t 92 rfl) (o_t 93 rfl) h10 Tryd.underlying82 ty3 rfl rfl) rfl rfl hL fun a s e_ hL => ?_
    refine st 95 (t_loado ty3 (o_t 94 rfl) rfl rfl) rfl rfl hL fun a s e_ hL => ?_
    refine st 4 (t_assign (o_t 95 rfl) rfl rfl) rfl rfl hL fun a s e_ hL => ?_
    refine en' ?_
    show K8 a s.w
    refine hK8 _ _ ?_
    subst h
    exact wp_ret (retq rfl hL rfl)
  obtain ⟨k14, h⟩ := h
  refine lpg (fun k15 a s => ∃ (l11 : (List Int)) (k13 : Int) (og12 : Option Nat), Has N0 96 s0 a s [(1, (Pd.rep (En.int .i64) i_)), (2, (Pd.ptr En.SDesc d_)), (5, (Pd.row (En.int .i64) s0.w.heap.size 3 og12 l11)), (6, (Pd.rep (En.int .i64) k13))] ∧ ref08_Ways.l1 d_ i_ (ref08_Ways.j1 i_ r_) k15 l11 k13) k14 ⟨([] : (List Int)), 0, none, hL.keep (.cons (t := 1) rfl (fun _ h_ => h_.elim) (.cons (t := 2) rfl (fun _ h_ => h_.elim) (.cons (t := 5) rfl (fun _ _ h_ => h_) (.cons (t := 6) rfl (fun _ h_ => h_.elim) .nil)))), h⟩ ?_
  rintro k15 a s ⟨l11, k13, og12, hL, h⟩ KL16 hKL16
  cases k15 with
  | zero => exact h.elim
  | succ k15 =>
  unfold ref08_Ways.l1 at h
  refine wp_seq_k fun K17 hK17 => ?_
  refine wp_seq_k fun K18 hK18 => ?_
  refine rg ?_
  refine st 12 (t_move (o_t 6 rfl) rfl rfl) rfl rfl hL fun a s e_ hL => ?_
  refine st 13 (t_move (o_t 1 rfl) rfl rfl) rfl rfl hL fun a s e_ hL => ?_
  refine st 14 (t_leq (o_t 12 rfl) (o_t 13 rfl) rfl rfl) rfl rfl hL fun a s e_ hL => ?_
  refine en' ?_
  show K18 a s.w
  refine hK18 _ _ ?_
  refine cnd hL rfl (fun hb_ => ?_) (fun hb_ => ?_)
  · replace h := h.1 hb_
    refine wp_skip ?_
    show K17 a s.w
    refine hK17 _ _ ?_
    refine wp_seq_k fun K19 hK19 => ?_
    refine wp_block ?_
    refine wp_seq_k fun K20 hK20 => ?_
    obtain ⟨e21, h22, h⟩ := h
    refine rg ?_
    refine st 17 (t_fa (off := 0) (o_t 2 rfl) Tryd.underlying24 rfl (prt_solo (prt_all _ _)) rfl ty22 rfl rfl) rfl rfl hL fun a s e_ hL => ?_
    refine st 18 (t_load ty22 (o_t 17 rfl) rfl rfl) rfl rfl hL fun a s e_ hL => ?_
    refine st 19 (t_move (o_t 6 rfl) rfl rfl) rfl rfl hL fun a s e_ hL => ?_
    refine st 20 (t_idx (o_t 18 rfl) (o_t 19 rfl) h22 Tryd.underlying22 ty48 rfl rfl) rfl rfl hL fun a s e_ hL => ?_
    refine st 21 (t_load ty48 (o_t 20 rfl) rfl rfl) rfl rfl hL fun a s e_ hL => ?_
    have lt_d24 := hL.rlt 5 rfl
    refine st_alloc En.SNode (z := (0, 0, 0, 0, 0, (0#256), ([] : Str))) 7 hL tyz48 rfl rfl rfl rfl fun a s g23 hg_ hL => ?_
    have d24 : Dis (some g23) og12 := Dis.newg hg_ lt_d24
    refine st_stb (L' := [(1, (Pd.rep (En.int .i64) i_)), (2, (Pd.ptr En.SDesc d_)), (5, (Pd.row (En.int .i64) s0.w.heap.size 3 og12 l11)), (6, (Pd.rep (En.int .i64) k13))]) 7 hL rfl (o_t 21 rfl) ty48 rfl rfl rfl (.cons (t := 1) rfl (fun _ h_ => h_.elim) (.cons (t := 2) rfl (fun _ h_ => h_.elim) (.cons (t := 5) rfl (Dis.ow (Dis.symm d24)) (.cons (t := 6) rfl (fun _ h_ => h_.elim) .nil)))) fun s hL => ?_
    refine en' ?_
    show K20 a s.w
    refine hK20 _ _ ?_
    refine wp_seq_k fun K25 hK25 => ?_
    refine rg ?_
    refine st 8 (t_assign (o_i (k := .i64) (by decide)) rfl rfl) rfl rfl hL fun a s e_ hL => ?_
    refine en' ?_
    show K25 a s.w
    refine hK25 _ _ ?_
    refine wp_seq_k fun K26 hK26 => ?_
    refine wp_seq_k fun K27 hK27 => ?_
    refine rg ?_
    refine st 22 (t_fab (off := 0) (o_t 7 rfl) Tryd.underlying48 rfl (prt_fst (prt_all _ _)) rfl ty3 rfl rfl) rfl rfl hL fun a s e_ hL => ?_
    refine st 23 (t_loado ty3 (o_t 22 rfl) rfl rfl) rfl rfl hL fun a s e_ hL => ?_
    refine en' ?_
    show K27 a s.w
    refine hK27 _ _ ?_
    refine wp_block ?_
    refine wp_seq_k fun K28 hK28 => ?_
    refine rg ?_
    refine st 25 (t_eqi (o_t 23 rfl) (o_i (k := .i64) (by decide)) rfl rfl) rfl rfl hL fun a s e_ hL => ?_
    refine st 24 (t_assign (o_t 25 rfl) rfl rfl) rfl rfl hL fun a s e_ hL => ?_
    refine en' ?_
    show K28 a s.w
    refine hK28 _ _ ?_
    have J30 : ∀ (w29 : Int) (a : Act) (s : St), Has N0 96 s0 a s [(1, (Pd.rep (En.int .i64) i_)), (2, (Pd.ptr En.SDesc d_)), (5, (Pd.row (En.int .i64) s0.w.heap.size 3 og12 l11)), (6, (Pd.rep (En.int .i64) k13)), (8, (Pd.rep (En.int .i64) w29))] → ((ref08_Ways.j2 (ref08_Ways.l1 d_ i_ (ref08_Ways.j1 i_ r_) k15) l11 k13) w29) → K26 a s.w := by
      intro w29 a s hL h
      unfold ref08_Ways.j2 at h
      show K26 a s.w
      refine hK26 _ _ ?_
      obtain ⟨h31, h⟩ := h
      refine rg ?_
      refine st 87 (t_move (o_t 5 rfl) rfl rfl) rfl rfl hL fun a s e_ hL => ?_
      refine st 88 (t_move (o_t 8 rfl) rfl rfl) rfl rfl hL fun a s e_ hL => ?_
      refine st 89 (t_min (o_i (k := .i64) (by decide)) (o_t 88 rfl) rfl rfl) rfl rfl hL fun a s e_ hL => ?_
      refine st 90 (t_lit (xs := [.tmp 89]) (.cons (o_t 89 rfl) .nil) Tryd.underlying82 ty3 rfl rfl (by decide) rfl rfl) rfl rfl hL fun a s e_ hL => ?_
      refine st_app (L' := [(1, (Pd.rep (En.int .i64) i_)), (2, (Pd.ptr En.SDesc d_)), (6, (Pd.rep (En.int .i64) k13))]) 91 hL (o_t 87 rfl) (o_t 90 rfl) Tryd.underlying82 ty3 h31 rfl rfl rfl rfl (.cons (t := 1) rfl (fun _ h_ => h_.elim) (.cons (t := 2) rfl (fun _ h_ => h_.elim) (.cons (t := 6) rfl (fun _ h_ => h_.elim) .nil))) fun a s og32 hg_ hL => ?_
      refine st 5 (t_assign (o_t 91 rfl) rfl rfl) rfl rfl hL fun a s e_ hL => ?_
      refine en' ?_
      show K19 a s.w
      refine hK19 _ _ ?_
      obtain ⟨h33, h⟩ := h
      refine rg ?_
      refine st 15 (t_move (o_t 6 rfl) rfl rfl) rfl rfl hL fun a s e_ hL => ?_
      refine st 16 (t_add (o_t 15 rfl) (o_i (k := .i64) (by decide)) h33 rfl rfl) rfl rfl hL fun a s e_ hL => ?_
      refine st 6 (t_assign (o_t 16 rfl) rfl rfl) rfl rfl hL fun a s e_ hL => ?_
      refine en' ?_
      exact hKL16 k15 a s (Nat.lt_succ_self _) ⟨(l11 ++ [(min 2 w29)]), (k13 + 1), og32, hL.keep (.cons (t := 1) rfl (fun _ h_ => h_.elim) (.cons (t := 2) rfl (fun _ h_ => h_.elim) (.cons (t := 5) rfl (fun _ _ h_ => h_) (.cons (t := 6) rfl (fun _ h_ => h_.elim) .nil)))), h⟩
    refine cnd hL rfl (fun hb_ => ?_) (fun hb_ => ?_)
    · replace h := h.1 hb_
      refine rg ?_
      refine st 8 (t_assign (o_i (k := .i64) (by decide)) rfl rfl) rfl rfl hL fun a s e_ hL => ?_
      refine en' ?_
      exact J30 1 a s (hL.keep (.cons (t := 1) rfl (fun _ h_ => h_.elim) (.cons (t := 2) rfl (fun _ h_ => h_.elim) (.cons (t := 5) rfl (fun _ _ h_ => h_) (.cons (t := 6) rfl (fun _ h_ => h_.elim) (.cons (t := 8) rfl (fun _ h_ => h_.elim) .nil)))))) h
    · replace h := h.2 hb_
      refine wp_seq_k fun K34 hK34 => ?_
      refine rg ?_
      refine st 27 (t_eqi (o_t 23 rfl) (o_i (k := .i64) (by decide)) rfl rfl) rfl rfl hL fun a s e_ hL => ?_
      refine st 26 (t_assign (o_t 27 rfl) rfl rfl) rfl rfl hL fun a s e_ hL => ?_
      refine en' ?_
      show K34 a s.w
      refine hK34 _ _ ?_
      refine cnd hL rfl (fun hb_ => ?_) (fun hb_ => ?_)
      · replace h := h.1 hb_
        obtain ⟨e35, h36, e37, h38, h39, h⟩ := h
        refine rda follows 11 [(Pd.row (En.int .i64) s0.w.heap.size 3 og12 l11), (Pd.optr (En.int .i64) s0.w.heap.size (some g23) (1) e21.2.1), (Pd.rep (En.int .i64) e21.2.1), (Pd.optr (En.int .i64) s0.w.heap.size og12 ((e21.2.1 : Int).toNat * (En.int .i64).sz) e35), (Pd.rep (En.int .i64) e35), (Pd.row (En.int .i64) s0.w.heap.size 3 og12 l11), (Pd.optr (En.int .i64) s0.w.heap.size (some g23) (2) e21.2.2.1), (Pd.rep (En.int .i64) e21.2.2.1), (Pd.optr (En.int .i64) s0.w.heap.size og12 ((e21.2.2.1 : Int).toNat * (En.int .i64).sz) e37), (Pd.rep (En.int .i64) e37), (Pd.rep (En.int .i64) (e35 * e37))] hL (by kernel_rfl) rfl rfl ?_ ?_
        · refine AllT.cons (t_move (o_t 5 rfl) rfl rfl) ?_
          refine AllT.cons (t_fab (off := 1) (o_t 7 rfl) Tryd.underlying48 rfl (prt_snd (prt_fst (prt_all _ _)) rfl) rfl ty3 rfl rfl) ?_
          refine AllT.cons (t_loado ty3 (o_t 29 rfl) rfl rfl) ?_
          refine AllT.cons (t_idxo (o_t 28 rfl) (o_t 30 rfl) h36 Tryd.underlying82 ty3 rfl rfl) ?_
          refine AllT.cons (t_loado ty3 (o_t 31 rfl) rfl rfl) ?_
          refine AllT.cons (t_move (o_t 5 rfl) rfl rfl) ?_
          refine AllT.cons (t_fab (off := 2) (o_t 7 rfl) Tryd.underlying48 rfl (prt_snd (prt_snd (prt_fst (prt_all _ _)) rfl) rfl) rfl ty3 rfl rfl) ?_
          refine AllT.cons (t_loado ty3 (o_t 34 rfl) rfl rfl) ?_
          refine AllT.cons (t_idxo (o_t 33 rfl) (o_t 35 rfl) h38 Tryd.underlying82 ty3 rfl rfl) ?_
          refine AllT.cons (t_loado ty3 (o_t 36 rfl) rfl rfl) ?_
          refine AllT.cons (t_mul (o_t 32 rfl) (o_t 37 rfl) h39 rfl rfl) ?_
          exact AllT.nil
        intro a s e_ hL
        refine st 8 (t_assign (o_t 38 rfl) rfl rfl) rfl rfl hL fun a s e_ hL => ?_
        refine en' ?_
        exact J30 (e35 * e37) a s (hL.keep (.cons (t := 1) rfl (fun _ h_ => h_.elim) (.cons (t := 2) rfl (fun _ h_ => h_.elim) (.cons (t := 5) rfl (fun _ _ h_ => h_) (.cons (t := 6) rfl (fun _ h_ => h_.elim) (.cons (t := 8) rfl (fun _ h_ => h_.elim) .nil)))))) h
      · replace h := h.2 hb_
        refine wp_seq_k fun K40 hK40 => ?_
        refine rg ?_
        refine st 40 (t_eqi (o_t 23 rfl) (o_i (k := .i64) (by decide)) rfl rfl) rfl rfl hL fun a s e_ hL => ?_
        refine st 39 (t_assign (o_t 40 rfl) rfl rfl) rfl rfl hL fun a s e_ hL => ?_
        refine en' ?_
        show K40 a s.w
        refine hK40 _ _ ?_
        refine cnd hL rfl (fun hb_ => ?_) (fun hb_ => ?_)
        · replace h := h.1 hb_
          obtain ⟨e41, h42, e43, h44, h45, h⟩ := h
          refine rda follows 11 [(Pd.row (En.int .i64) s0.w.heap.size 3 og12 l11), (Pd.optr (En.int .i64) s0.w.heap.size (some g23) (1) e21.2.1), (Pd.rep (En.int .i64) e21.2.1), (Pd.optr (En.int .i64) s0.w.heap.size og12 ((e21.2.1 : Int).toNat * (En.int .i64).sz) e41), (Pd.rep (En.int .i64) e41), (Pd.row (En.int .i64) s0.w.heap.size 3 og12 l11), (Pd.optr (En.int .i64) s0.w.heap.size (some g23) (2) e21.2.2.1), (Pd.rep (En.int .i64) e21.2.2.1), (Pd.optr (En.int .i64) s0.w.heap.size og12 ((e21.2.2.1 : Int).toNat * (En.int .i64).sz) e43), (Pd.rep (En.int .i64) e43), (Pd.rep (En.int .i64) (e41 + e43))] hL (by kernel_rfl) rfl rfl ?_ ?_
          · refine AllT.cons (t_move (o_t 5 rfl) rfl rfl) ?_
            refine AllT.cons (t_fab (off := 1) (o_t 7 rfl) Tryd.underlying48 rfl (prt_snd (prt_fst (prt_all _ _)) rfl) rfl ty3 rfl rfl) ?_
            refine AllT.cons (t_loado ty3 (o_t 42 rfl) rfl rfl) ?_
            refine AllT.cons (t_idxo (o_t 41 rfl) (o_t 43 rfl) h42 Tryd.underlying82 ty3 rfl rfl) ?_
            refine AllT.cons (t_loado ty3 (o_t 44 rfl) rfl rfl) ?_
            refine AllT.cons (t_move (o_t 5 rfl) rfl rfl) ?_
            refine AllT.cons (t_fab (off := 2) (o_t 7 rfl) Tryd.underlying48 rfl (prt_snd (prt_snd (prt_fst (prt_all _ _)) rfl) rfl) rfl ty3 rfl rfl) ?_
            refine AllT.cons (t_loado ty3 (o_t 47 rfl) rfl rfl) ?_
            refine AllT.cons (t_idxo (o_t 46 rfl) (o_t 48 rfl) h44 Tryd.underlying82 ty3 rfl rfl) ?_
            refine AllT.cons (t_loado ty3 (o_t 49 rfl) rfl rfl) ?_
            refine AllT.cons (t_add (o_t 45 rfl) (o_t 50 rfl) h45 rfl rfl) ?_
            exact AllT.nil
          intro a s e_ hL
          refine st 8 (t_assign (o_t 51 rfl) rfl rfl) rfl rfl hL fun a s e_ hL => ?_
          refine en' ?_
          exact J30 (e41 + e43) a s (hL.keep (.cons (t := 1) rfl (fun _ h_ => h_.elim) (.cons (t := 2) rfl (fun _ h_ => h_.elim) (.cons (t := 5) rfl (fun _ _ h_ => h_) (.cons (t := 6) rfl (fun _ h_ => h_.elim) (.cons (t := 8) rfl (fun _ h_ => h_.elim) .nil)))))) h
        · replace h := h.2 hb_
          refine wp_seq_k fun K46 hK46 => ?_
          refine rg ?_
          refine st 53 (t_eqi (o_t 23 rfl) (o_i (k := .i64) (by decide)) rfl rfl) rfl rfl hL fun a s e_ hL => ?_
          refine st 52 (t_assign (o_t 53 rfl) rfl rfl) rfl rfl hL fun a s e_ hL => ?_
          refine en' ?_
          show K46 a s.w
          refine hK46 _ _ ?_
          refine cnd hL rfl (fun hb_ => ?_) (fun hb_ => ?_)
          · replace h := h.1 hb_
            refine wp_seq_k fun K47 hK47 => ?_
            refine rg ?_
            refine st 8 (t_assign (o_i (k := .i64) (by decide)) rfl rfl) rfl rfl hL fun a s e_ hL => ?_
            refine en' ?_
            show K47 a s.w
            refine hK47 _ _ ?_
            refine wp_seq_k fun K48 hK48 => ?_
            obtain ⟨e49, h50, h⟩ := h
            refine rg ?_
            refine st 54 (t_move (o_t 5 rfl) rfl rfl) rfl rfl hL fun a s e_ hL => ?_
            refine st 55 (t_fab (off := 1) (o_t 7 rfl) Tryd.underlying48 rfl (prt_snd (prt_fst (prt_all _ _)) rfl) rfl ty3 rfl rfl) rfl rfl hL fun a s e_ hL => ?_
            refine st 56 (t_loado ty3 (o_t 55 rfl) rfl rfl) rfl rfl hL fun a s e_ hL => ?_
            refine st 57 (t_idxo (o_t 54 rfl) (o_t 56 rfl) h50 Tryd.underlying82 ty3 rfl rfl) rfl rfl hL fun a s e_ hL => ?_
            refine st 58 (t_loado ty3 (o_t 57 rfl) rfl rfl) rfl rfl hL fun a s e_ hL => ?_
            refine st 59 (t_gtr (o_t 58 rfl) (o_i (k := .i64) (by decide)) rfl rfl) rfl rfl hL fun a s e_ hL => ?_
            refine en' ?_
            show K48 a s.w
            refine hK48 _ _ ?_
            refine cnd hL rfl (fun hb_ => ?_) (fun hb_ => ?_)
            · replace h := h.1 hb_
              refine rg ?_
              refine st 8 (t_assign (o_i (k := .i64) (by decide)) rfl rfl) rfl rfl hL fun a s e_ hL => ?_
              refine en' ?_
              exact J30 2 a s (hL.keep (.cons (t := 1) rfl (fun _ h_ => h_.elim) (.cons (t := 2) rfl (fun _ h_ => h_.elim) (.cons (t := 5) rfl (fun _ _ h_ => h_) (.cons (t := 6) rfl (fun _ h_ => h_.elim) (.cons (t := 8) rfl (fun _ h_ => h_.elim) .nil)))))) h
            · replace h := h.2 hb_
              refine wp_skip ?_
              exact J30 1 a s (hL.keep (.cons (t := 1) rfl (fun _ h_ => h_.elim) (.cons (t := 2) rfl (fun _ h_ => h_.elim) (.cons (t := 5) rfl (fun _ _ h_ => h_) (.cons (t := 6) rfl (fun _ h_ => h_.elim) (.cons (t := 8) rfl (fun _ h_ => h_.elim) .nil)))))) h
          · replace h := h.2 hb_
            refine wp_seq_k fun K51 hK51 => ?_
            refine rg ?_
            refine st 61 (t_eqi (o_t 23 rfl) (o_i (k := .i64) (by decide)) rfl rfl) rfl rfl hL fun a s e_ hL => ?_
            refine st 60 (t_assign (o_t 61 rfl) rfl rfl) rfl rfl hL fun a s e_ hL => ?_
            refine en' ?_
            show K51 a s.w
            refine hK51 _ _ ?_
            refine cnd hL rfl (fun hb_ => ?_) (fun hb_ => ?_)
            · replace h := h.1 hb_
              refine wp_seq_k fun K52 hK52 => ?_
              refine rg ?_
              refine st 62 (t_fab (off := 3) (o_t 7 rfl) Tryd.underlying48 rfl (prt_snd (prt_snd (prt_snd (prt_fst (prt_all _ _)) rfl) rfl) rfl) rfl ty3 rfl rfl) rfl rfl hL fun a s e_ hL => ?_
              refine st 63 (t_loado ty3 (o_t 62 rfl) rfl rfl) rfl rfl hL fun a s e_ hL => ?_
              refine st 9 (t_assign (o_t 63 rfl) rfl rfl) rfl rfl hL fun a s e_ hL => ?_
              refine en' ?_
              show K52 a s.w
              refine hK52 _ _ ?_
              refine wp_block ?_
              obtain ⟨k55, h⟩ := h
              refine lpg (fun k56 a s => ∃ (w53 : Int) (t54 : Int), Has N0 96 s0 a s [(1, (Pd.rep (En.int .i64) i_)), (2, (Pd.ptr En.SDesc d_)), (5, (Pd.row (En.int .i64) s0.w.heap.size 3 og12 l11)), (6, (Pd.rep (En.int .i64) k13)), (7, (Pd.box En.SNode s0.w.heap.size g23 e21)), (8, (Pd.rep (En.int .i64) w53)), (9, (Pd.rep (En.int .i64) t54))] ∧ Dis og12 (some g23) ∧ ref08_Ways.l2 l11 e21 (ref08_Ways.j2 (ref08_Ways.l1 d_ i_ (ref08_Ways.j1 i_ r_) k15) l11 k13) k56 w53 t54) k55 ⟨0, e21.2.2.2.1, hL.keep (.cons (t := 1) rfl (fun _ h_ => h_.elim) (.cons (t := 2) rfl (fun _ h_ => h_.elim) (.cons (t := 5) rfl (fun _ _ h_ => h_) (.cons (t := 6) rfl (fun _ h_ => h_.elim) (.cons (t := 7) rfl (fun _ _ h_ => h_) (.cons (t := 8) rfl (fun _ h_ => h_.elim) (.cons (t := 9) rfl (fun _ h_ => h_.elim) .nil))))))), (Dis.symm d24), h⟩ ?_
              rintro k56 a s ⟨w53, t54, hL, d58, h⟩ KL57 hKL57
              cases k56 with
              | zero => exact h.elim
              | succ k56 =>
              unfold ref08_Ways.l2 at h
              refine wp_seq_k fun K59 hK59 => ?_
              refine wp_seq_k fun K60 hK60 => ?_
              refine rg ?_
              refine st 64 (t_move (o_t 9 rfl) rfl rfl) rfl rfl hL fun a s e_ hL => ?_
              refine st 65 (t_fab (off := 4) (o_t 7 rfl) Tryd.underlying48 rfl (prt_snd (prt_snd (prt_snd (prt_snd (prt_fst (prt_all _ _)) rfl) rfl) rfl) rfl) rfl ty3 rfl rfl) rfl rfl hL fun a s e_ hL => ?_
              refine st 66 (t_loado ty3 (o_t 65 rfl) rfl rfl) rfl rfl hL fun a s e_ hL => ?_
              refine st 67 (t_leq (o_t 64 rfl) (o_t 66 rfl) rfl rfl) rfl rfl hL fun a s e_ hL => ?_
              refine en' ?_
              show K60 a s.w
              refine hK60 _ _ ?_
              refine cnd hL rfl (fun hb_ => ?_) (fun hb_ => ?_)
              · replace h := h.1 hb_
                refine wp_skip ?_
                show K59 a s.w
                refine hK59 _ _ ?_
                refine wp_seq_k fun K61 hK61 => ?_
                refine wp_block ?_
                refine wp_seq_k fun K62 hK62 => ?_
                refine rg ?_
                refine st 10 (t_assign (o_i (k := .i64) (by decide)) rfl rfl) rfl rfl hL fun a s e_ hL => ?_
                refine en' ?_
                show K62 a s.w
                refine hK62 _ _ ?_
                refine wp_seq_k fun K63 hK63 => ?_
                refine wp_seq_k fun K64 hK64 => ?_
                refine rg ?_
                refine st 11 (t_assign (o_i (k := .i64) (by decide)) rfl rfl) rfl rfl hL fun a s e_ hL => ?_
                refine en' ?_
                show K64 a s.w
                refine hK64 _ _ ?_
                refine wp_block ?_
                have J66 : ∀ (p65 : Int) (a : Act) (s : St), Has N0 96 s0 a s [(1, (Pd.rep (En.int .i64) i_)), (2, (Pd.ptr En.SDesc d_)), (5, (Pd.row (En.int .i64) s0.w.heap.size 3 og12 l11)), (6, (Pd.rep (En.int .i64) k13)), (7, (Pd.box En.SNode s0.w.heap.size g23 e21)), (8, (Pd.rep (En.int .i64) w53)), (9, (Pd.rep (En.int .i64) t54)), (10, (Pd.rep (En.int .i64) p65))] → Dis og12 (some g23) → ((ref08_Ways.j3 (ref08_Ways.l2 l11 e21 (ref08_Ways.j2 (ref08_Ways.l1 d_ i_ (ref08_Ways.j1 i_ r_) k15) l11 k13) k56) w53 t54) p65) → K63 a s.w := by
                  intro p65 a s hL d67 h
                  unfold ref08_Ways.j3 at h
                  show K63 a s.w
                  refine hK63 _ _ ?_
                  obtain ⟨h68, h⟩ := h
                  refine rg ?_
                  refine st 83 (t_move (o_t 8 rfl) rfl rfl) rfl rfl hL fun a s e_ hL => ?_
                  refine st 84 (t_move (o_t 10 rfl) rfl rfl) rfl rfl hL fun a s e_ hL => ?_
                  refine st 85 (t_add (o_t 83 rfl) (o_t 84 rfl) h68 rfl rfl) rfl rfl hL fun a s e_ hL => ?_
                  refine st 86 (t_min (o_i (k := .i64) (by decide)) (o_t 85 rfl) rfl rfl) rfl rfl hL fun a s e_ hL => ?_
                  refine st 8 (t_assign (o_t 86 rfl) rfl rfl) rfl rfl hL fun a s e_ hL => ?_
                  refine en' ?_
                  show K61 a s.w
                  refine hK61 _ _ ?_
                  obtain ⟨h69, h⟩ := h
                  refine rg ?_
                  refine st 68 (t_move (o_t 9 rfl) rfl rfl) rfl rfl hL fun a s e_ hL => ?_
                  refine st 69 (t_add (o_t 68 rfl) (o_i (k := .i64) (by decide)) h69 rfl rfl) rfl rfl hL fun a s e_ hL => ?_
                  refine st 9 (t_assign (o_t 69 rfl) rfl rfl) rfl rfl hL fun a s e_ hL => ?_
                  refine en' ?_
                  exact hKL57 k56 a s (Nat.lt_succ_self _) ⟨(min 2 (w53 + p65)), (t54 + 1), hL.keep (.cons (t := 1) rfl (fun _ h_ => h_.elim) (.cons (t := 2) rfl (fun _ h_ => h_.elim) (.cons (t := 5) rfl (fun _ _ h_ => h_) (.cons (t := 6) rfl (fun _ h_ => h_.elim) (.cons (t := 7) rfl (fun _ _ h_ => h_) (.cons (t := 8) rfl (fun _ h_ => h_.elim) (.cons (t := 9) rfl (fun _ h_ => h_.elim) .nil))))))), d67, h⟩
                obtain ⟨k72, h⟩ := h
                refine lpg (fun k73 a s => ∃ (p70 : Int) (m71 : Int), Has N0 96 s0 a s [(1, (Pd.rep (En.int .i64) i_)), (2, (Pd.ptr En.SDesc d_)), (5, (Pd.row (En.int .i64) s0.w.heap.size 3 og12 l11)), (6, (Pd.rep (En.int .i64) k13)), (7, (Pd.box En.SNode s0.w.heap.size g23 e21)), (8, (Pd.rep (En.int .i64) w53)), (9, (Pd.rep (En.int .i64) t54)), (10, (Pd.rep (En.int .i64) p70)), (11, (Pd.rep (En.int .i64) m71))] ∧ Dis og12 (some g23) ∧ ref08_Ways.l3 l11 e21 t54 (ref08_Ways.j3 (ref08_Ways.l2 l11 e21 (ref08_Ways.j2 (ref08_Ways.l1 d_ i_ (ref08_Ways.j1 i_ r_) k15) l11 k13) k56) w53 t54) k73 p70 m71) k72 ⟨1, 0, hL.keep (.cons (t := 1) rfl (fun _ h_ => h_.elim) (.cons (t := 2) rfl (fun _ h_ => h_.elim) (.cons (t := 5) rfl (fun _ _ h_ => h_) (.cons (t := 6) rfl (fun _ h_ => h_.elim) (.cons (t := 7) rfl (fun _ _ h_ => h_) (.cons (t := 8) rfl (fun _ h_ => h_.elim) (.cons (t := 9) rfl (fun _ h_ => h_.elim) (.cons (t := 10) rfl (fun _ h_ => h_.elim) (.cons (t := 11) rfl (fun _ h_ => h_.elim) .nil))))))))), d58, h⟩ ?_
                rintro k73 a s ⟨p70, m71, hL, d75, h⟩ KL74 hKL74
                cases k73 with
                | zero => exact h.elim
                | succ k73 =>
                unfold ref08_Ways.l3 at h
                refine wp_seq_k fun K76 hK76 => ?_
                refine wp_seq_k fun K77 hK77 => ?_
                refine rg ?_
                refine st 70 (t_move (o_t 11 rfl) rfl rfl) rfl rfl hL fun a s e_ hL => ?_
                refine st 71 (t_move (o_t 9 rfl) rfl rfl) rfl rfl hL fun a s e_ hL => ?_
                refine st 72 (t_lss (o_t 70 rfl) (o_t 71 rfl) rfl rfl) rfl rfl hL fun a s e_ hL => ?_
                refine en' ?_
                show K77 a s.w
                refine hK77 _ _ ?_
                refine cnd hL rfl (fun hb_ => ?_) (fun hb_ => ?_)
                · replace h := h.1 hb_
                  refine wp_skip ?_
                  show K76 a s.w
                  refine hK76 _ _ ?_
                  refine wp_seq_k fun K78 hK78 => ?_
                  refine wp_block ?_
                  obtain ⟨e79, h80, h81, h⟩ := h
                  refine rg ?_
                  refine st 75 (t_move (o_t 10 rfl) rfl rfl) rfl rfl hL fun a s e_ hL => ?_
                  refine st 76 (t_move (o_t 5 rfl) rfl rfl) rfl rfl hL fun a s e_ hL => ?_
                  refine st 77 (t_fab (off := 1) (o_t 7 rfl) Tryd.underlying48 rfl (prt_snd (prt_fst (prt_all _ _)) rfl) rfl ty3 rfl rfl) rfl rfl hL fun a s e_ hL => ?_
                  refine st 78 (t_loado ty3 (o_t 77 rfl) rfl rfl) rfl rfl hL fun a s e_ hL => ?_
                  refine st 79 (t_idxo (o_t 76 rfl) (o_t 78 rfl) h80 Tryd.underlying82 ty3 rfl rfl) rfl rfl hL fun a s e_ hL => ?_
                  refine st 80 (t_loado ty3 (o_t 79 rfl) rfl rfl) rfl rfl hL fun a s e_ hL => ?_
                  refine st 81 (t_mul (o_t 75 rfl) (o_t 80 rfl) h81 rfl rfl) rfl rfl hL fun a s e_ hL => ?_
                  refine st 82 (t_min (o_i (k := .i64) (by decide)) (o_t 81 rfl) rfl rfl) rfl rfl hL fun a s e_ hL => ?_
                  refine st 10 (t_assign (o_t 82 rfl) rfl rfl) rfl rfl hL fun a s e_ hL => ?_
                  refine en' ?_
                  show K78 a s.w
                  refine hK78 _ _ ?_
                  obtain ⟨h82, h⟩ := h
                  refine rg ?_
                  refine st 73 (t_move (o_t 11 rfl) rfl rfl) rfl rfl hL fun a s e_ hL => ?_
                  refine st 74 (t_add (o_t 73 rfl) (o_i (k := .i64) (by decide)) h82 rfl rfl) rfl rfl hL fun a s e_ hL => ?_
                  refine st 11 (t_assign (o_t 74 rfl) rfl rfl) rfl rfl hL fun a s e_ hL => ?_
                  refine en' ?_
                  exact hKL74 k73 a s (Nat.lt_succ_self _) ⟨(min 2 (p70 * e79)), (m71 + 1), hL.keep (.cons (t := 1) rfl (fun _ h_ => h_.elim) (.cons (t := 2) rfl (fun _ h_ => h_.elim) (.cons (t := 5) rfl (fun _ _ h_ => h_) (.cons (t := 6) rfl (fun _ h_ => h_.elim) (.cons (t := 7) rfl (fun _ _ h_ => h_) (.cons (t := 8) rfl (fun _ h_ => h_.elim) (.cons (t := 9) rfl (fun _ h_ => h_.elim) (.cons (t := 10) rfl (fun _ h_ => h_.elim) (.cons (t := 11) rfl (fun _ h_ => h_.elim) .nil))))))))), d75, h⟩
                · replace h := h.2 hb_
                  refine wp_exit ?_
                  exact J66 p70 a s (hL.keep (.cons (t := 1) rfl (fun _ h_ => h_.elim) (.cons (t := 2) rfl (fun _ h_ => h_.elim) (.cons (t := 5) rfl (fun _ _ h_ => h_) (.cons (t := 6) rfl (fun _ h_ => h_.elim) (.cons (t := 7) rfl (fun _ _ h_ => h_) (.cons (t := 8) rfl (fun _ h_ => h_.elim) (.cons (t := 9) rfl (fun _ h_ => h_.elim) (.cons (t := 10) rfl (fun _ h_ => h_.elim) .nil))))))))) d75 h
              · replace h := h.2 hb_
                refine wp_exit ?_
                exact J30 w53 a s (hL.keep (.cons (t := 1) rfl (fun _ h_ => h_.elim) (.cons (t := 2) rfl (fun _ h_ => h_.elim) (.cons (t := 5) rfl (fun _ _ h_ => h_) (.cons (t := 6) rfl (fun _ h_ => h_.elim) (.cons (t := 8) rfl (fun _ h_ => h_.elim) .nil)))))) h
            · replace h := h.2 hb_
              refine wp_skip ?_
              exact J30 0 a s (hL.keep (.cons (t := 1) rfl (fun _ h_ => h_.elim) (.cons (t := 2) rfl (fun _ h_ => h_.elim) (.cons (t := 5) rfl (fun _ _ h_ => h_) (.cons (t := 6) rfl (fun _ h_ => h_.elim) (.cons (t := 8) rfl (fun _ h_ => h_.elim) .nil)))))) h
  · replace h := h.2 hb_
    refine wp_exit ?_
    exact J7 l11 og12 a s (hL.keep (.cons (t := 1) rfl (fun _ h_ => h_.elim) (.cons (t := 5) rfl (fun _ _ h_ => h_) .nil))) h
theorem ref08_First_ok {d_ : SDesc} {r_ : (Int × Bool)} (h : ref08_First d_ r_) : Fn Tryd.prog 43 [(Pd.rep En.SDesc d_)] (Rq2 (Pd.rep (En.int .i64) r_.1) (Pd.rep En.bool r_.2)) := by
  unfold ref08_First at h
  refine fn_of Tryd.func43 rfl Tryd.ntmps43 (by rfl) (by simp) fun s0 a hL => ?_
  refine wp_seq_k fun K1 hK1 => ?_
  refine rg ?_
  refine st 1 (t_box (o_t 0 rfl) rfl rfl) rfl rfl hL fun a s e_ hL => ?_
  refine st 2 (t_assign (o_i (k := .i64) (by decide)) rfl rfl) rfl rfl hL fun a s e_ hL => ?_
  refine st 3 (t_assign o_b rfl rfl) rfl rfl hL fun a s e_ hL => ?_
  refine en' ?_
  show K1 a s.w
  refine hK1 _ _ ?_
  refine wp_seq_k fun K2 hK2 => ?_
  refine wp_seq_k fun K3 hK3 => ?_
  refine rg ?_
  refine st 4 (t_assign (o_i (k := .i64) (by decide)) rfl rfl) rfl rfl hL fun a s e_ hL => ?_
  refine en' ?_
  show K3 a s.w
  refine hK3 _ _ ?_
  refine wp_block ?_
  have J4 : ∀ (a : Act) (s : St), Has N0 37 s0 a s [] → ((ref08_First.j1 r_)) → K2 a s.w := by
    intro a s hL h
    unfold ref08_First.j1 at h
    show K2 a s.w
    refine hK2 _ _ ?_
    refine wp_seq_k fun K5 hK5 => ?_
    refine rg ?_
    refine st 2 (t_assign (o_i (k := .i64) (by decide)) rfl rfl) rfl rfl hL fun a s e_ hL => ?_
    refine st 3 (t_assign o_b rfl rfl) rfl rfl hL fun a s e_ hL => ?_
    refine en' ?_
    show K5 a s.w
    refine hK5 _ _ ?_
    subst h
    exact wp_ret (ret2 rfl hL rfl rfl)
  obtain ⟨k7, h⟩ := h
  refine lpg (fun k8 a s => ∃ (i6 : Int), Has N0 37 s0 a s [(1, (Pd.ptr En.SDesc d_)), (4, (Pd.rep (En.int .i64) i6))] ∧ ref08_First.l1 d_ r_ (ref08_First.j1 r_) k8 i6) k7 ⟨0, hL.keep (.cons (t := 1) rfl (fun _ h_ => h_.elim) (.cons (t := 4) rfl (fun _ h_ => h_.elim) .nil)), h⟩ ?_
  rintro k8 a s ⟨i6, hL, h⟩ KL9 hKL9
  cases k8 with
  | zero => exact h.elim
  | succ k8 =>
  unfold ref08_First.l1 at h
  refine wp_seq_k fun K10 hK10 => ?_
  refine wp_seq_k fun K11 hK11 => ?_
  refine rg ?_
  refine st 6 (t_move (o_t 4 rfl) rfl rfl) rfl rfl hL fun a s e_ hL => ?_
  refine st 7 (t_fa (off := 0) (o_t 1 rfl) Tryd.underlying24 rfl (prt_solo (prt_all _ _)) rfl ty22 rfl rfl) rfl rfl hL fun a s e_ hL => ?_
  refine st 8 (t_load ty22 (o_t 7 rfl) rfl rfl) rfl rfl hL fun a s e_ hL => ?_
  refine st 9 (t_len (o_t 8 rfl) Tryd.underlying22 rfl rfl) rfl rfl hL fun a s e_ hL => ?_
  refine st 10 (t_lss (o_t 6 rfl) (o_t 9 rfl) rfl rfl) rfl rfl hL fun a s e_ hL => ?_
  refine en' ?_
  show K11 a s.w
  refine hK11 _ _ ?_
  refine cnd hL rfl (fun hb_ => ?_) (fun hb_ => ?_)
  · replace h := h.1 hb_
    refine wp_skip ?_
    show K10 a s.w
    refine hK10 _ _ ?_
    refine wp_seq_k fun K12 hK12 => ?_
    refine wp_block ?_
    refine wp_seq_k fun K13 hK13 => ?_
    obtain ⟨e14, h15, h⟩ := h
    refine rg ?_
    refine st 13 (t_fa (off := 0) (o_t 1 rfl) Tryd.underlying24 rfl (prt_solo (prt_all _ _)) rfl ty22 rfl rfl) rfl rfl hL fun a s e_ hL => ?_
    refine st 14 (t_load ty22 (o_t 13 rfl) rfl rfl) rfl rfl hL fun a s e_ hL => ?_
    refine st 15 (t_move (o_t 4 rfl) rfl rfl) rfl rfl hL fun a s e_ hL => ?_
    refine st 16 (t_idx (o_t 14 rfl) (o_t 15 rfl) h15 Tryd.underlying22 ty48 rfl rfl) rfl rfl hL fun a s e_ hL => ?_
    refine st 17 (t_fa (off := 0) (o_t 16 rfl) Tryd.underlying48 rfl (prt_fst (prt_all _ _)) rfl ty3 rfl rfl) rfl rfl hL fun a s e_ hL => ?_
    refine st 18 (t_load ty3 (o_t 17 rfl) rfl rfl) rfl rfl hL fun a s e_ hL => ?_
    refine st 5 (t_assign (o_t 18 rfl) rfl rfl) rfl rfl hL fun a s e_ hL => ?_
    refine en' ?_
    show K13 a s.w
    refine hK13 _ _ ?_
    refine wp_seq_k fun K16 hK16 => ?_
    obtain ⟨e17, h18, r19, h20, h⟩ := h
    refine rda follows 17 [(Pd.rep (En.int .i64) e14.1), (Pd.rep En.bool (e14.1 == 6)), (Pd.rep En.bool (e14.1 == 6)), (Pd.when (((e14.1 == 6)) = false) (Pd.rep (En.int .i64) e14.1)), (Pd.when (((e14.1 == 6)) = false) (Pd.rep En.bool (e14.1 == 7))), (Pd.rep En.bool ((e14.1 == 6) || (e14.1 == 7))), (Pd.rep En.bool ((e14.1 == 6) || (e14.1 == 7))), (Pd.when ((((e14.1 == 6) || (e14.1 == 7))) = true) (Pd.rep En.SDesc d_)), (Pd.when ((((e14.1 == 6) || (e14.1 == 7))) = true) (Pd.ptr (En.slice En.SNode) d_)), (Pd.when ((((e14.1 == 6) || (e14.1 == 7))) = true) (Pd.rep (En.slice En.SNode) d_)), (Pd.when ((((e14.1 == 6) || (e14.1 == 7))) = true) (Pd.rep (En.int .i64) i6)), (Pd.when ((((e14.1 == 6) || (e14.1 == 7))) = true) (Pd.ptr En.SNode e17)), (Pd.when ((((e14.1 == 6) || (e14.1 == 7))) = true) (Pd.ptr (En.int .i64) e17.2.1)), (Pd.when ((((e14.1 == 6) || (e14.1 == 7))) = true) (Pd.rep (En.int .i64) e17.2.1)), (Pd.when ((((e14.1 == 6) || (e14.1 == 7))) = true) (Pd.rep (En.int .i64) r19)), (Pd.when ((((e14.1 == 6) || (e14.1 == 7))) = true) (Pd.rep En.bool (r19 != 0))), (Pd.rep En.bool (((e14.1 == 6) || (e14.1 == 7)) && (r19 != 0)))] hL (by kernel_rfl) rfl rfl ?_ ?_
    · refine AllT.cons (t_move (o_t 5 rfl) rfl rfl) ?_
      refine AllT.cons (t_eqi (o_t 19 rfl) (o_i (k := .i64) (by decide)) rfl rfl) ?_
      refine AllT.cons (t_move (o_t 20 rfl) rfl rfl) ?_
      refine AllT.cons (t_g1 rfl rfl rfl (fun hc_ => t_move (o_t 5 rfl) rfl rfl)) ?_
      refine AllT.cons (t_g1 rfl rfl rfl (fun hc_ => t_eqi (o_w hc_ 22 rfl) (o_i (k := .i64) (by decide)) rfl rfl)) ?_
      refine AllT.cons (t_or (o_t 21 rfl) (fun hc2_ => (o_w hc2_ 23 rfl)) rfl rfl) ?_
      refine AllT.cons (t_move (o_t 24 rfl) rfl rfl) ?_
      refine AllT.cons (t_g1 rfl rfl rfl (fun hc_ => t_load ty24 (o_t 1 rfl) rfl rfl)) ?_
      refine AllT.cons (t_g1 rfl rfl rfl (fun hc_ => t_fa (off := 0) (o_t 1 rfl) Tryd.underlying24 rfl (prt_solo (prt_all _ _)) rfl ty22 rfl rfl)) ?_
      refine AllT.cons (t_g1 rfl rfl rfl (fun hc_ => t_load ty22 (o_w hc_ 27 rfl) rfl rfl)) ?_
      refine AllT.cons (t_g1 rfl rfl rfl (fun hc_ => t_move (o_t 4 rfl) rfl rfl)) ?_
      refine AllT.cons (t_g1 rfl rfl rfl (fun hc_ => t_idx (o_w hc_ 28 rfl) (o_w hc_ 29 rfl) (h18 hc_) Tryd.underlying22 ty48 rfl rfl)) ?_
      refine AllT.cons (t_g1 rfl rfl rfl (fun hc_ => t_fa (off := 1) (o_w hc_ 30 rfl) Tryd.underlying48 rfl (prt_snd (prt_fst (prt_all _ _)) rfl) rfl ty3 rfl rfl)) ?_
      refine AllT.cons (t_g1 rfl rfl rfl (fun hc_ => t_load ty3 (o_w hc_ 31 rfl) rfl rfl)) ?_
      refine AllT.cons (t_g1 rfl rfl rfl (fun hc_ => t_call (ref08_Ways_ok (h20 hc_)) (xs := [.tmp 26, .tmp 32]) (.cons (o_w hc_ 26 rfl) (.cons (o_w hc_ 32 rfl) .nil)) rfl rfl)) ?_
      refine AllT.cons (t_g1 rfl rfl rfl (fun hc_ => t_nei (o_w hc_ 33 rfl) (o_i (k := .i64) (by decide)) rfl rfl)) ?_
      refine AllT.cons (t_and (o_t 25 rfl) (fun hc2_ => (o_w hc2_ 34 rfl)) rfl rfl) ?_
      exact AllT.nil
    intro a s e_ hL
    refine en' ?_
    show K16 a s.w
    refine hK16 _ _ ?_
    refine cnd hL rfl (fun hb_ => ?_) (fun hb_ => ?_)
    · replace h := h.1 hb_
      refine wp_seq_k fun K21 hK21 => ?_
      refine rg ?_
      refine st 36 (t_move (o_t 4 rfl) rfl rfl) rfl rfl hL fun a s e_ hL => ?_
      refine st 2 (t_assign (o_t 36 rfl) rfl rfl) rfl rfl hL fun a s e_ hL => ?_
      refine st 3 (t_assign o_b rfl rfl) rfl rfl hL fun a s e_ hL => ?_
      refine en' ?_
      show K21 a s.w
      refine hK21 _ _ ?_
      subst h
      exact wp_ret (ret2 rfl hL rfl rfl)
    · replace h := h.2 hb_
      refine wp_skip ?_
      show K12 a s.w
      refine hK12 _ _ ?_
      obtain ⟨h22, h⟩ := h
      refine rg ?_
      refine st 11 (t_move (o_t 4 rfl) rfl rfl) rfl rfl hL fun a s e_ hL => ?_
      refine st 12 (t_add (o_t 11 rfl) (o_i (k := .i64) (by decide)) h22 rfl rfl) rfl rfl hL fun a s e_ hL => ?_
      refine st 4 (t_assign (o_t 12 rfl) rfl rfl) rfl rfl hL fun a s e_ hL => ?_
      refine en' ?_
      exact hKL9 k8 a s (Nat.lt_succ_self _) ⟨(i6 + 1), hL.keep (.cons (t := 1) rfl (fun _ h_ => h_.elim) (.cons (t := 4) rfl (fun _ h_ => h_.elim) .nil)), h⟩
  · replace h := h.2 hb_
    refine wp_exit ?_
    exact J4 a s (hL.keep .nil) h
theorem ref08_Right_ok {d_ : SDesc} {r_ : Bool} (h : ref08_Right d_ r_) : Fn Tryd.prog 14 [(Pd.rep En.SDesc d_)] (Rq (Pd.rep En.bool r_)) := by
  unfold ref08_Right at h
  refine fn_of Tryd.func14 rfl Tryd.ntmps14 (by rfl) (by simp) fun s0 a hL => ?_
  refine wp_seq_k fun K1 hK1 => ?_
  refine rg ?_
  refine st 1 (t_box (o_t 0 rfl) rfl rfl) rfl rfl hL fun a s e_ hL => ?_
  refine st 2 (t_assign o_b rfl rfl) rfl rfl hL fun a s e_ hL => ?_
  refine en' ?_
  show K1 a s.w
  refine hK1 _ _ ?_
  refine wp_seq_k fun K2 hK2 => ?_
  refine wp_seq_k fun K3 hK3 => ?_
  obtain ⟨r4, h5, h⟩ := h
  refine rg ?_
  refine st 5 (t_load ty24 (o_t 1 rfl) rfl rfl) rfl rfl hL fun a s e_ hL => ?_
  refine st 6 (t_call (ref04_Form_ok h5) (xs := [.tmp 5]) (.cons (o_t 5 rfl) .nil) rfl rfl) rfl rfl hL fun a s e_ hL => ?_
  refine st 7 (t_not (o_t 6 rfl) rfl rfl) rfl rfl hL fun a s e_ hL => ?_
  refine en' ?_
  show K3 a s.w
  refine hK3 _ _ ?_
  refine cnd hL rfl (fun hb_ => ?_) (fun hb_ => ?_)
  · replace h := h.1 hb_
    refine wp_seq_k fun K6 hK6 => ?_
    refine rg ?_
    refine st 2 (t_assign o_b rfl rfl) rfl rfl hL fun a s e_ hL => ?_
    refine en' ?_
    show K6 a s.w
    refine hK6 _ _ ?_
    subst h
    exact wp_ret (retq rfl hL rfl)
  · replace h := h.2 hb_
    refine wp_skip ?_
    show K2 a s.w
    refine hK2 _ _ ?_
    refine wp_seq_k fun K7 hK7 => ?_
    obtain ⟨r8, h9, h⟩ := h
    refine rg ?_
    refine st 9 (t_load ty24 (o_t 1 rfl) rfl rfl) rfl rfl hL fun a s e_ hL => ?_
    refine st 10 (t_call ((ref08_First_ok h9).tup) (xs := [.tmp 9]) (.cons (o_t 9 rfl) .nil) rfl rfl) rfl rfl hL fun a s e_ hL => ?_
    refine st 8 (t_move (o_t 10 rfl) rfl rfl) rfl rfl hL fun a s e_ hL => ?_
    refine st 11 (t_ext0 (o_t 8 rfl) rfl rfl) rfl rfl hL fun a s e_ hL => ?_
    refine st 12 (t_ext1 (o_t 8 rfl) rfl rfl) rfl rfl hL fun a s e_ hL => ?_
    refine st 3 (t_assign (o_t 11 rfl) rfl rfl) rfl rfl hL fun a s e_ hL => ?_
    refine st 4 (t_assign (o_t 12 rfl) rfl rfl) rfl rfl hL fun a s e_ hL => ?_
    refine en' ?_
    show K7 a s.w
    refine hK7 _ _ ?_
    refine wp_seq_k fun K10 hK10 => ?_
    refine rg ?_
    refine st 13 (t_move (o_t 4 rfl) rfl rfl) rfl rfl hL fun a s e_ hL => ?_
    refine st 14 (t_not (o_t 13 rfl) rfl rfl) rfl rfl hL fun a s e_ hL => ?_
    refine st 2 (t_assign (o_t 14 rfl) rfl rfl) rfl rfl hL fun a s e_ hL => ?_
    refine en' ?_
    show K10 a s.w
    refine hK10 _ _ ?_
    subst h
    exact wp_ret (retq rfl hL rfl)
end Go.Proofs.YtdidjelkkanenaaDoor.V
namespace Go.Proofs.YtdidjelkkanenaaDoor.V
open Go
set_option linter.unusedVariables false
def item_Compare_1 (x_ : SItem) (y_ : SItem) (r_ : Int) : Prop := ∃ r3 : Int, cmp_Compare_int x_.1 y_.1 r3 ∧ ∃ r5 : Int, cmp_Compare_int x_.2.1 y_.2.1 r5 ∧ ∃ r7 : Int, cmp_Compare_int x_.2.2.1 y_.2.2.1 r7 ∧ ∃ r9 : Int, cmp_Compare_int x_.2.2.2 y_.2.2.2 r9 ∧ ∃ r11 : Int, cmp_Or_int [r3, r5, r7, r9] r11 ∧ r_ = r11
def item_Compare (a_ : (List SItem)) (b_ : (List SItem)) (r_ : Int) : Prop := ∃ r4 : Int, cmp_Compare_int (a_.length : Int) (b_.length : Int) r4 ∧ (((r4 != 0)) = true → r_ = r4) ∧ (((r4 != 0)) = false → ∃ r9 : Int, slices_CompareFunc_api_State_api_State_api_Item_api_Item a_ b_ (fun q_ => item_Compare_1 q_.1 q_.2.1 q_.2.2) r9 ∧ r_ = r9)
def ref13_numbers.j1 (r_ : (List Int)) (out6 : (List Int)) : Prop := r_ = out6
def ref13_numbers.l1 (s_ : (List SItem)) (X1 : (List Int) → Prop) : Nat → (List Int) → Int → Prop
  | 0, _, _ => False
  | k_0 + 1, out10, i12 => ((decide (i12 < (s_.length : Int))) = true → ∃ e19 : SItem, at? s_ i12 = some e19 ∧ ∃ e21 : SItem, at? s_ i12 = some e21 ∧ ∃ e23 : SItem, at? s_ i12 = some e23 ∧ ∃ e25 : SItem, at? s_ i12 = some e25 ∧ (out10.length + [e19.1, e21.2.1, e23.2.2.1, e25.2.2.2].length ≤ 2147483648) ∧ (InR .i64 (i12 + 1)) ∧ ref13_numbers.l1 s_ X1 k_0 (out10 ++ [e19.1, e21.2.1, e23.2.2.1, e25.2.2.2]) (i12 + 1)) ∧ ((decide (i12 < (s_.length : Int))) = false → X1 out10)
def ref13_numbers (s_ : (List SItem)) (r_ : (List Int)) : Prop := ∃ k13, ref13_numbers.l1 s_ (ref13_numbers.j1 r_) k13 [(s_.length : Int)] 0
def ref13_Compare.j1 (r_ : Int) : Prop := r_ = 0
def ref13_Compare.l1 (r3 : (List Int)) (r6 : (List Int)) (r_ : Int) (X1 : Prop) : Nat → Int → Prop
  | 0, _ => False
  | k_0 + 1, i12 => ∃ b18 : Bool, b18 = ((decide (i12 < (r3.length : Int))) && (decide (i12 < (r6.length : Int)))) ∧ ((b18) = true → ∃ e23 : Int, at? r3 i12 = some e23 ∧ ∃ e25 : Int, at? r6 i12 = some e25 ∧ ((decide (e23 < e25)) = true → r_ = (-1)) ∧ ((decide (e23 < e25)) = false → ∃ e29 : Int, at? r3 i12 = some e29 ∧ ∃ e31 : Int, at? r6 i12 = some e31 ∧ ((decide (e31 < e29)) = true → r_ = 1) ∧ ((decide (e31 < e29)) = false → (InR .i64 (i12 + 1)) ∧ ref13_Compare.l1 r3 r6 r_ X1 k_0 (i12 + 1)))) ∧ ((b18) = false → X1)
def ref13_Compare (a_ : (List SItem)) (b_ : (List SItem)) (r_ : Int) : Prop := ∃ r3 : (List Int), ref13_numbers a_ r3 ∧ ∃ r6 : (List Int), ref13_numbers b_ r6 ∧ ∃ k13, ref13_Compare.l1 r3 r6 r_ (ref13_Compare.j1 r_) k13 0
def ref13_Same (a_ : (List SItem)) (b_ : (List SItem)) (r_ : Bool) : Prop := ∃ r3 : Int, ref13_Compare a_ b_ r3 ∧ r_ = (r3 == 0)
def ref13_form (d_ : SDesc) (x_ : SItem) (r_ : Bool) : Prop := (((x_.1 == 5)) = true → ∃ b5 : Bool, b5 = (((x_.2.1 == 0) && (x_.2.2.2 == 0)) && (decide (0 ≤ x_.2.2.1))) ∧ r_ = (b5 && (decide (x_.2.2.1 ≤ 65535)))) ∧ (((x_.1 == 5)) = false → ∃ b9 : Bool, b9 = ((decide (x_.2.1 < 0)) || (decide ((d_.length : Int) ≤ x_.2.1))) ∧ ((b9) = true → r_ = false) ∧ ((b9) = false → ∃ e13 : SNode, at? d_ x_.2.1 = some e13 ∧ (((x_.1 == 1)) = true → r_ = ((x_.2.2.1 == 0) && (x_.2.2.2 == 0))) ∧ (((x_.1 == 1)) = false → (((x_.1 == 2)) = true → ∃ b22 : Bool, b22 = (((e13.1 == 7) && (decide (0 ≤ x_.2.2.1))) && (decide (x_.2.2.1 ≤ x_.2.2.2))) ∧ r_ = (b22 && (decide (x_.2.2.2 ≤ e13.2.2.2.2.1)))) ∧ (((x_.1 == 2)) = false → (((x_.1 == 3)) = true → ∃ b26 : Bool, b26 = (((e13.1 == 3) && (x_.2.2.2 == 0)) && (decide (0 ≤ x_.2.2.1))) ∧ ∃ b28 : Bool, b28 = (b26 && (decide (x_.2.2.1 < (e13.2.2.2.2.2.2.length : Int)))) ∧ r_ = b28) ∧ (((x_.1 == 3)) = false → (((x_.1 == 4)) = true → ∃ b32 : Bool, b32 = (((e13.1 == 9) && (x_.2.2.2 == 0)) && (decide (0 ≤ x_.2.2.1))) ∧ r_ = (b32 && (decide (x_.2.2.1 ≤ 255)))) ∧ (((x_.1 == 4)) = false → r_ = false))))))
def ref13_Form.j1 (r_ : Bool) : Prop := r_ = true
def ref13_Form.l1 (d_ : SDesc) (s_ : (List SItem)) (r_ : Bool) (X1 : Prop) : Nat → Int → Prop
  | 0, _ => False
  | k_0 + 1, i6 => ((decide (i6 < (s_.length : Int))) = true → ∃ e14 : SItem, at? s_ i6 = some e14 ∧ ∃ r16 : Bool, ref13_form d_ e14 r16 ∧ (((!r16)) = true → r_ = false) ∧ (((!r16)) = false → (InR .i64 (i6 + 1)) ∧ ref13_Form.l1 d_ s_ r_ X1 k_0 (i6 + 1))) ∧ ((decide (i6 < (s_.length : Int))) = false → X1)
def ref13_Form (d_ : SDesc) (s_ : (List SItem)) (r_ : Bool) : Prop := ∃ k7, ref13_Form.l1 d_ s_ r_ (ref13_Form.j1 r_) k7 0
end Go.Proofs.YtdidjelkkanenaaDoor.V
namespace Go.Proofs.YtdidjelkkanenaaDoor.V
open Go
set_option linter.unusedVariables false
set_option maxRecDepth 100000
theorem item_Compare_1_ok {x_ : SItem} {y_ : SItem} {r_ : Int} (h : item_Compare_1 x_ y_ r_) : Fn Tryd.prog 69 [(Pd.rep En.SItem x_), (Pd.rep En.SItem y_)] (Rq (Pd.rep (En.int .i64) r_)) := by
  unfold item_Compare_1 at h
  refine fn_of Tryd.func69 rfl Tryd.ntmps69 (by rfl) (by simp) fun s0 a hL => ?_
  refine wp_seq_k fun K1 hK1 => ?_
  refine rg ?_
  refine st 2 (t_box (o_t 0 rfl) rfl rfl) rfl rfl hL fun a s e_ hL => ?_
  refine st 3 (t_box (o_t 1 rfl) rfl rfl) rfl rfl hL fun a s e_ hL => ?_
  refine st 4 (t_assign (o_i (k := .i64) (by decide)) rfl rfl) rfl rfl hL fun a s e_ hL => ?_
  refine en' ?_
  show K1 a s.w
  refine hK1 _ _ ?_
  refine wp_seq_k fun K2 hK2 => ?_
  obtain ⟨r3, h4, r5, h6, r7, h8, r9, h10, r11, h12, h⟩ := h
  refine rda follows 22 [(Pd.ptr (En.int .i64) x_.1), (Pd.rep (En.int .i64) x_.1), (Pd.ptr (En.int .i64) y_.1), (Pd.rep (En.int .i64) y_.1), (Pd.rep (En.int .i64) r3), (Pd.ptr (En.int .i64) x_.2.1), (Pd.rep (En.int .i64) x_.2.1), (Pd.ptr (En.int .i64) y_.2.1), (Pd.rep (En.int .i64) y_.2.1), (Pd.rep (En.int .i64) r5), (Pd.ptr (En.int .i64) x_.2.2.1), (Pd.rep (En.int .i64) x_.2.2.1), (Pd.ptr (En.int .i64) y_.2.2.1), (Pd.rep (En.int .i64) y_.2.2.1), (Pd.rep (En.int .i64) r7), (Pd.ptr (En.int .i64) x_.2.2.2), (Pd.rep (En.int .i64) x_.2.2.2), (Pd.ptr (En.int .i64) y_.2.2.2), (Pd.rep (En.int .i64) y_.2.2.2), (Pd.rep (En.int .i64) r9), (Pd.rep (En.slice (En.int .i64)) [r3, r5, r7, r9]), (Pd.rep (En.int .i64) r11)] hL (by kernel_rfl) rfl rfl ?_ ?_
  · refine AllT.cons (t_fa (off := 0) (o_t 2 rfl) Tryd.underlying43 rfl (prt_fst (prt_all _ _)) rfl ty3 rfl rfl) ?_
    refine AllT.cons (t_load ty3 (o_t 5 rfl) rfl rfl) ?_
    refine AllT.cons (t_fa (off := 0) (o_t 3 rfl) Tryd.underlying43 rfl (prt_fst (prt_all _ _)) rfl ty3 rfl rfl) ?_
    refine AllT.cons (t_load ty3 (o_t 7 rfl) rfl rfl) ?_
    refine AllT.cons (t_call (cmp_Compare_int_ok h4) (xs := [.tmp 6, .tmp 8]) (.cons (o_t 6 rfl) (.cons (o_t 8 rfl) .nil)) rfl rfl) ?_
    refine AllT.cons (t_fa (off := 1) (o_t 2 rfl) Tryd.underlying43 rfl (prt_snd (prt_fst (prt_all _ _)) rfl) rfl ty3 rfl rfl) ?_
    refine AllT.cons (t_load ty3 (o_t 10 rfl) rfl rfl) ?_
    refine AllT.cons (t_fa (off := 1) (o_t 3 rfl) Tryd.underlying43 rfl (prt_snd (prt_fst (prt_all _ _)) rfl) rfl ty3 rfl rfl) ?_
    refine AllT.cons (t_load ty3 (o_t 12 rfl) rfl rfl) ?_
    refine AllT.cons (t_call (cmp_Compare_int_ok h6) (xs := [.tmp 11, .tmp 13]) (.cons (o_t 11 rfl) (.cons (o_t 13 rfl) .nil)) rfl rfl) ?_
    refine AllT.cons (t_fa (off := 2) (o_t 2 rfl) Tryd.underlying43 rfl (prt_snd (prt_snd (prt_fst (prt_all _ _)) rfl) rfl) rfl ty3 rfl rfl) ?_
    refine AllT.cons (t_load ty3 (o_t 15 rfl) rfl rfl) ?_
    refine AllT.cons (t_fa (off := 2) (o_t 3 rfl) Tryd.underlying43 rfl (prt_snd (prt_snd (prt_fst (prt_all _ _)) rfl) rfl) rfl ty3 rfl rfl) ?_
    refine AllT.cons (t_load ty3 (o_t 17 rfl) rfl rfl) ?_
    refine AllT.cons (t_call (cmp_Compare_int_ok h8) (xs := [.tmp 16, .tmp 18]) (.cons (o_t 16 rfl) (.cons (o_t 18 rfl) .nil)) rfl rfl) ?_
    refine AllT.cons (t_fa (off := 3) (o_t 2 rfl) Tryd.underlying43 rfl (prt_snd (prt_snd (prt_snd (prt_all _ _) rfl) rfl) rfl) rfl ty3 rfl rfl) ?_
    refine AllT.cons (t_load ty3 (o_t 20 rfl) rfl rfl) ?_
    refine AllT.cons (t_fa (off := 3) (o_t 3 rfl) Tryd.underlying43 rfl (prt_snd (prt_snd (prt_snd (prt_all _ _) rfl) rfl) rfl) rfl ty3 rfl rfl) ?_
    refine AllT.cons (t_load ty3 (o_t 22 rfl) rfl rfl) ?_
    refine AllT.cons (t_call (cmp_Compare_int_ok h10) (xs := [.tmp 21, .tmp 23]) (.cons (o_t 21 rfl) (.cons (o_t 23 rfl) .nil)) rfl rfl) ?_
    refine AllT.cons (t_lit (xs := [.tmp 9, .tmp 14, .tmp 19, .tmp 24]) (.cons (o_t 9 rfl) (.cons (o_t 14 rfl) (.cons (o_t 19 rfl) (.cons (o_t 24 rfl) .nil)))) Tryd.underlying82 ty3 rfl rfl (by decide) rfl rfl) ?_
    refine AllT.cons (t_call (cmp_Or_int_ok h12) (xs := [.tmp 25]) (.cons (o_t 25 rfl) .nil) rfl rfl) ?_
    exact AllT.nil
  intro a s e_ hL
  refine st 4 (t_assign (o_t 26 rfl) rfl rfl) rfl rfl hL fun a s e_ hL => ?_
  refine en' ?_
  show K2 a s.w
  refine hK2 _ _ ?_
  subst h
  exact wp_ret (retq rfl hL rfl)
theorem item_Compare_ok {a_ : (List SItem)} {b_ : (List SItem)} {r_ : Int} (h : item_Compare a_ b_ r_) : Fn Tryd.prog 47 [(Pd.rep (En.slice En.SItem) a_), (Pd.rep (En.slice En.SItem) b_)] (Rq (Pd.rep (En.int .i64) r_)) := by
  unfold item_Compare at h
  refine fn_of Tryd.func47 rfl Tryd.ntmps47 (by rfl) (by simp) fun s0 a hL => ?_
  refine wp_seq_k fun K1 hK1 => ?_
  refine rg ?_
  refine st 4 (t_assign (o_i (k := .i64) (by decide)) rfl rfl) rfl rfl hL fun a s e_ hL => ?_
  refine en' ?_
  show K1 a s.w
  refine hK1 _ _ ?_
  refine wp_seq_k fun K2 hK2 => ?_
  refine wp_seq_k fun K3 hK3 => ?_
  obtain ⟨r4, h5, h⟩ := h
  refine rg ?_
  refine st 6 (t_move (o_t 0 rfl) rfl rfl) rfl rfl hL fun a s e_ hL => ?_
  refine st 7 (t_len (o_t 6 rfl) Tryd.underlying26 rfl rfl) rfl rfl hL fun a s e_ hL => ?_
  refine st 8 (t_move (o_t 1 rfl) rfl rfl) rfl rfl hL fun a s e_ hL => ?_
  refine st 9 (t_len (o_t 8 rfl) Tryd.underlying26 rfl rfl) rfl rfl hL fun a s e_ hL => ?_
  refine st 10 (t_call (cmp_Compare_int_ok h5) (xs := [.tmp 7, .tmp 9]) (.cons (o_t 7 rfl) (.cons (o_t 9 rfl) .nil)) rfl rfl) rfl rfl hL fun a s e_ hL => ?_
  refine st 5 (t_assign (o_t 10 rfl) rfl rfl) rfl rfl hL fun a s e_ hL => ?_
  refine en' ?_
  show K3 a s.w
  refine hK3 _ _ ?_
  refine wp_seq_k fun K6 hK6 => ?_
  refine rg ?_
  refine st 11 (t_move (o_t 5 rfl) rfl rfl) rfl rfl hL fun a s e_ hL => ?_
  refine st 12 (t_nei (o_t 11 rfl) (o_i (k := .i64) (by decide)) rfl rfl) rfl rfl hL fun a s e_ hL => ?_
  refine en' ?_
  show K6 a s.w
  refine hK6 _ _ ?_
  refine cnd hL rfl (fun hb_ => ?_) (fun hb_ => ?_)
  · replace h := h.1 hb_
    refine wp_seq_k fun K7 hK7 => ?_
    refine rg ?_
    refine st 13 (t_move (o_t 5 rfl) rfl rfl) rfl rfl hL fun a s e_ hL => ?_
    refine st 4 (t_assign (o_t 13 rfl) rfl rfl) rfl rfl hL fun a s e_ hL => ?_
    refine en' ?_
    show K7 a s.w
    refine hK7 _ _ ?_
    subst h
    exact wp_ret (retq rfl hL rfl)
  · replace h := h.2 hb_
    refine wp_skip ?_
    show K2 a s.w
    refine hK2 _ _ ?_
    refine wp_seq_k fun K8 hK8 => ?_
    obtain ⟨r9, h10, h⟩ := h
    refine rg ?_
    refine st 14 (t_move (o_t 0 rfl) rfl rfl) rfl rfl hL fun a s e_ hL => ?_
    refine st 15 (t_move (o_t 1 rfl) rfl rfl) rfl rfl hL fun a s e_ hL => ?_
    refine st 16 (t_call (slices_CompareFunc_api_State_api_State_api_Item_api_Item_ok h10) (xs := [.tmp 14, .tmp 15, .func 69]) (.cons (o_t 14 rfl) (.cons (o_t 15 rfl) (.cons (o_q (Pd.rep EnF108 (fun q_ => item_Compare_1 q_.1 q_.2.1 q_.2.2)) (o_fun (call_of Tryd.func69 rfl (by rfl)) (fun q_ h_ => item_Compare_1_ok h_))) .nil))) rfl rfl) rfl rfl hL fun a s e_ hL => ?_
    refine st 4 (t_assign (o_t 16 rfl) rfl rfl) rfl rfl hL fun a s e_ hL => ?_
    refine en' ?_
    show K8 a s.w
    refine hK8 _ _ ?_
    subst h
    exact wp_ret (retq rfl hL rfl)
theorem ref13_numbers_ok {s_ : (List SItem)} {r_ : (List Int)} (h : ref13_numbers s_ r_) : Fn Tryd.prog 53 [(Pd.rep (En.slice En.SItem) s_)] (Ro (En.int .i64) 3 r_) := by
  unfold ref13_numbers at h
  refine fn_of Tryd.func53 rfl Tryd.ntmps53 (by rfl) (by simp) fun s0 a hL => ?_
  refine wp_seq_k fun K1 hK1 => ?_
  refine rg ?_
  refine st 2 (t_assign (o_nil (E := (En.int .i64)) (N := s0.w.heap.size) (te := 3)) rfl rfl) rfl rfl hL fun a s e_ hL => ?_
  refine en' ?_
  show K1 a s.w
  refine hK1 _ _ ?_
  refine wp_seq_k fun K2 hK2 => ?_
  refine rg ?_
  refine st 5 (t_move (o_t 0 rfl) rfl rfl) rfl rfl hL fun a s e_ hL => ?_
  refine st 6 (t_len (o_t 5 rfl) Tryd.underlying26 rfl rfl) rfl rfl hL fun a s e_ hL => ?_
  refine st_lito (xs := [.tmp 6]) 7 hL (.cons (o_t 6 rfl) .nil) Tryd.underlying82 ty3 rfl rfl (by decide) rfl rfl rfl rfl fun a s g3 hg_ hL => ?_
  refine st 3 (t_assign (o_t 7 rfl) rfl rfl) rfl rfl hL fun a s e_ hL => ?_
  refine en' ?_
  show K2 a s.w
  refine hK2 _ _ ?_
  refine wp_seq_k fun K4 hK4 => ?_
  refine wp_seq_k fun K5 hK5 => ?_
  refine rg ?_
  refine st 4 (t_assign (o_i (k := .i64) (by decide)) rfl rfl) rfl rfl hL fun a s e_ hL => ?_
  refine en' ?_
  show K5 a s.w
  refine hK5 _ _ ?_
  refine wp_block ?_
  have J8 : ∀ (out6 : (List Int)) (og7 : Option Nat) (a : Act) (s : St), Has N0 38 s0 a s [(3, (Pd.row (En.int .i64) s0.w.heap.size 3 og7 out6))] → ((ref13_numbers.j1 r_) out6) → K4 a s.w := by
    intro out6 og7 a s hL h
    unfold ref13_numbers.j1 at h
    show K4 a s.w
    refine hK4 _ _ ?_
    refine wp_seq_k fun K9 hK9 => ?_
    refine rg ?_
    refine st 37 (t_move (o_t 3 rfl) rfl rfl) rfl rfl hL fun a s e_ hL => ?_
    refine st 2 (t_assign (o_t 37 rfl) rfl rfl) rfl rfl hL fun a s e_ hL => ?_
    refine en' ?_
    show K9 a s.w
    refine hK9 _ _ ?_
    subst h
    exact wp_ret (reto rfl hL rfl)
  obtain ⟨k13, h⟩ := h
  refine lpg (fun k14 a s => ∃ (out10 : (List Int)) (i12 : Int) (og11 : Option Nat), Has N0 38 s0 a s [(0, (Pd.rep (En.slice En.SItem) s_)), (3, (Pd.row (En.int .i64) s0.w.heap.size 3 og11 out10)), (4, (Pd.rep (En.int .i64) i12))] ∧ ref13_numbers.l1 s_ (ref13_numbers.j1 r_) k14 out10 i12) k13 ⟨[(s_.length : Int)], 0, (some g3), hL.keep (.cons (t := 0) rfl (fun _ h_ => h_.elim) (.cons (t := 3) rfl (fun _ _ h_ => h_) (.cons (t := 4) rfl (fun _ h_ => h_.elim) .nil))), h⟩ ?_
  rintro k14 a s ⟨out10, i12, og11, hL, h⟩ KL15 hKL15
  cases k14 with
  | zero => exact h.elim
  | succ k14 =>
  unfold ref13_numbers.l1 at h
  refine wp_seq_k fun K16 hK16 => ?_
  refine wp_seq_k fun K17 hK17 => ?_
  refine rg ?_
  refine st 8 (t_move (o_t 4 rfl) rfl rfl) rfl rfl hL fun a s e_ hL => ?_
  refine st 9 (t_move (o_t 0 rfl) rfl rfl) rfl rfl hL fun a s e_ hL => ?_
  refine st 10 (t_len (o_t 9 rfl) Tryd.underlying26 rfl rfl) rfl rfl hL fun a s e_ hL => ?_
  refine st 11 (t_lss (o_t 8 rfl) (o_t 10 rfl) rfl rfl) rfl rfl hL fun a s e_ hL => ?_
  refine en' ?_
  show K17 a s.w
  refine hK17 _ _ ?_
  refine cnd hL rfl (fun hb_ => ?_) (fun hb_ => ?_)
  · replace h := h.1 hb_
    refine wp_skip ?_
    show K16 a s.w
    refine hK16 _ _ ?_
    refine wp_seq_k fun K18 hK18 => ?_
    refine wp_block ?_
    obtain ⟨e19, h20, e21, h22, e23, h24, e25, h26, h27, h⟩ := h
    refine rda follows 22 [(Pd.row (En.int .i64) s0.w.heap.size 3 og11 out10), (Pd.rep (En.slice En.SItem) s_), (Pd.rep (En.int .i64) i12), (Pd.ptr En.SItem e19), (Pd.ptr (En.int .i64) e19.1), (Pd.rep (En.int .i64) e19.1), (Pd.rep (En.slice En.SItem) s_), (Pd.rep (En.int .i64) i12), (Pd.ptr En.SItem e21), (Pd.ptr (En.int .i64) e21.2.1), (Pd.rep (En.int .i64) e21.2.1), (Pd.rep (En.slice En.SItem) s_), (Pd.rep (En.int .i64) i12), (Pd.ptr En.SItem e23), (Pd.ptr (En.int .i64) e23.2.2.1), (Pd.rep (En.int .i64) e23.2.2.1), (Pd.rep (En.slice En.SItem) s_), (Pd.rep (En.int .i64) i12), (Pd.ptr En.SItem e25), (Pd.ptr (En.int .i64) e25.2.2.2), (Pd.rep (En.int .i64) e25.2.2.2), (Pd.rep (En.slice (En.int .i64)) [e19.1, e21.2.1, e23.2.2.1, e25.2.2.2])] hL (by kernel_rfl) rfl rfl ?_ ?_
    · refine AllT.cons (t_move (o_t 3 rfl) rfl rfl) ?_
      refine AllT.cons (t_move (o_t 0 rfl) rfl rfl) ?_
      refine AllT.cons (t_move (o_t 4 rfl) rfl rfl) ?_
      refine AllT.cons (t_idx (o_t 15 rfl) (o_t 16 rfl) h20 Tryd.underlying26 ty43 rfl rfl) ?_
      refine AllT.cons (t_fa (off := 0) (o_t 17 rfl) Tryd.underlying43 rfl (prt_fst (prt_all _ _)) rfl ty3 rfl rfl) ?_
      refine AllT.cons (t_load ty3 (o_t 18 rfl) rfl rfl) ?_
      refine AllT.cons (t_move (o_t 0 rfl) rfl rfl) ?_
      refine AllT.cons (t_move (o_t 4 rfl) rfl rfl) ?_
      refine AllT.cons (t_idx (o_t 20 rfl) (o_t 21 rfl) h22 Tryd.underlying26 ty43 rfl rfl) ?_
      refine AllT.cons (t_fa (off := 1) (o_t 22 rfl) Tryd.underlying43 rfl (prt_snd (prt_fst (prt_all _ _)) rfl) rfl ty3 rfl rfl) ?_
      refine AllT.cons (t_load ty3 (o_t 23 rfl) rfl rfl) ?_
      refine AllT.cons (t_move (o_t 0 rfl) rfl rfl) ?_
      refine AllT.cons (t_move (o_t 4 rfl) rfl rfl) ?_
      refine AllT.cons (t_idx (o_t 25 rfl) (o_t 26 rfl) h24 Tryd.underlying26 ty43 rfl rfl) ?_
      refine AllT.cons (t_fa (off := 2) (o_t 27 rfl) Tryd.underlying43 rfl (prt_snd (prt_snd (prt_fst (prt_all _ _)) rfl) rfl) rfl ty3 rfl rfl) ?_
      refine AllT.cons (t_load ty3 (o_t 28 rfl) rfl rfl) ?_
      refine AllT.cons (t_move (o_t 0 rfl) rfl rfl) ?_
      refine AllT.cons (t_move (o_t 4 rfl) rfl rfl) ?_
      refine AllT.cons (t_idx (o_t 30 rfl) (o_t 31 rfl) h26 Tryd.underlying26 ty43 rfl rfl) ?_
      refine AllT.cons (t_fa (off := 3) (o_t 32 rfl) Tryd.underlying43 rfl (prt_snd (prt_snd (prt_snd (prt_all _ _) rfl) rfl) rfl) rfl ty3 rfl rfl) ?_
      refine AllT.cons (t_load ty3 (o_t 33 rfl) rfl rfl) ?_
      refine AllT.cons (t_lit (xs := [.tmp 19, .tmp 24, .tmp 29, .tmp 34]) (.cons (o_t 19 rfl) (.cons (o_t 24 rfl) (.cons (o_t 29 rfl) (.cons (o_t 34 rfl) .nil)))) Tryd.underlying82 ty3 rfl rfl (by decide) rfl rfl) ?_
      exact AllT.nil
    intro a s e_ hL
    refine st_app (L' := [(0, (Pd.rep (En.slice En.SItem) s_)), (4, (Pd.rep (En.int .i64) i12))]) 36 hL (o_t 14 rfl) (o_t 35 rfl) Tryd.underlying82 ty3 h27 rfl rfl rfl rfl (.cons (t := 0) rfl (fun _ h_ => h_.elim) (.cons (t := 4) rfl (fun _ h_ => h_.elim) .nil)) fun a s og28 hg_ hL => ?_
    refine st 3 (t_assign (o_t 36 rfl) rfl rfl) rfl rfl hL fun a s e_ hL => ?_
    refine en' ?_
    show K18 a s.w
    refine hK18 _ _ ?_
    obtain ⟨h29, h⟩ := h
    refine rg ?_
    refine st 12 (t_move (o_t 4 rfl) rfl rfl) rfl rfl hL fun a s e_ hL => ?_
    refine st 13 (t_add (o_t 12 rfl) (o_i (k := .i64) (by decide)) h29 rfl rfl) rfl rfl hL fun a s e_ hL => ?_
    refine st 4 (t_assign (o_t 13 rfl) rfl rfl) rfl rfl hL fun a s e_ hL => ?_
    refine en' ?_
    exact hKL15 k14 a s (Nat.lt_succ_self _) ⟨(out10 ++ [e19.1, e21.2.1, e23.2.2.1, e25.2.2.2]), (i12 + 1), og28, hL.keep (.cons (t := 0) rfl (fun _ h_ => h_.elim) (.cons (t := 3) rfl (fun _ _ h_ => h_) (.cons (t := 4) rfl (fun _ h_ => h_.elim) .nil))), h⟩
  · replace h := h.2 hb_
    refine wp_exit ?_
    exact J8 out10 og11 a s (hL.keep (.cons (t := 3) rfl (fun _ _ h_ => h_) .nil)) h
theorem ref13_Compare_ok {a_ : (List SItem)} {b_ : (List SItem)} {r_ : Int} (h : ref13_Compare a_ b_ r_) : Fn Tryd.prog 26 [(Pd.rep (En.slice En.SItem) a_), (Pd.rep (En.slice En.SItem) b_)] (Rq (Pd.rep (En.int .i64) r_)) := by
  unfold ref13_Compare at h
  refine fn_of Tryd.func26 rfl Tryd.ntmps26 (by rfl) (by simp) fun s0 a hL => ?_
  refine wp_seq_k fun K1 hK1 => ?_
  refine rg ?_
  refine st 4 (t_assign (o_i (k := .i64) (by decide)) rfl rfl) rfl rfl hL fun a s e_ hL => ?_
  refine en' ?_
  show K1 a s.w
  refine hK1 _ _ ?_
  refine wp_seq_k fun K2 hK2 => ?_
  obtain ⟨r3, h4, h⟩ := h
  refine rg ?_
  refine st 8 (t_move (o_t 0 rfl) rfl rfl) rfl rfl hL fun a s e_ hL => ?_
  refine st 9 (t_call ((ref13_numbers_ok h4).frz) (xs := [.tmp 8]) (.cons (o_t 8 rfl) .nil) rfl rfl) rfl rfl hL fun a s e_ hL => ?_
  refine st 5 (t_assign (o_t 9 rfl) rfl rfl) rfl rfl hL fun a s e_ hL => ?_
  refine en' ?_
  show K2 a s.w
  refine hK2 _ _ ?_
  refine wp_seq_k fun K5 hK5 => ?_
  obtain ⟨r6, h7, h⟩ := h
  refine rg ?_
  refine st 10 (t_move (o_t 1 rfl) rfl rfl) rfl rfl hL fun a s e_ hL => ?_
  refine st 11 (t_call ((ref13_numbers_ok h7).frz) (xs := [.tmp 10]) (.cons (o_t 10 rfl) .nil) rfl rfl) rfl rfl hL fun a s e_ hL => ?_
  refine st 6 (t_assign (o_t 11 rfl) rfl rfl) rfl rfl hL fun a s e_ hL => ?_
  refine en' ?_
  show K5 a s.w
  refine hK5 _ _ ?_
  refine wp_seq_k fun K8 hK8 => ?_
  refine wp_seq_k fun K9 hK9 => ?_
  refine rg ?_
  refine st 7 (t_assign (o_i (k := .i64) (by decide)) rfl rfl) rfl rfl hL fun a s e_ hL => ?_
  refine en' ?_
  show K9 a s.w
  refine hK9 _ _ ?_
  refine wp_block ?_
  have J10 : ∀ (a : Act) (s : St), Has N0 42 s0 a s [] → ((ref13_Compare.j1 r_)) → K8 a s.w := by
    intro a s hL h
    unfold ref13_Compare.j1 at h
    show K8 a s.w
    refine hK8 _ _ ?_
    refine wp_seq_k fun K11 hK11 => ?_
    refine rg ?_
    refine st 4 (t_assign (o_i (k := .i64) (by decide)) rfl rfl) rfl rfl hL fun a s e_ hL => ?_
    refine en' ?_
    show K11 a s.w
    refine hK11 _ _ ?_
    subst h
    exact wp_ret (retq rfl hL rfl)
  obtain ⟨k13, h⟩ := h
  refine lpg (fun k14 a s => ∃ (i12 : Int), Has N0 42 s0 a s [(5, (Pd.rep (En.slice (En.int .i64)) r3)), (6, (Pd.rep (En.slice (En.int .i64)) r6)), (7, (Pd.rep (En.int .i64) i12))] ∧ ref13_Compare.l1 r3 r6 r_ (ref13_Compare.j1 r_) k14 i12) k13 ⟨0, hL.keep (.cons (t := 5) rfl (fun _ h_ => h_.elim) (.cons (t := 6) rfl (fun _ h_ => h_.elim) (.cons (t := 7) rfl (fun _ h_ => h_.elim) .nil))), h⟩ ?_
  rintro k14 a s ⟨i12, hL, h⟩ KL15 hKL15
  cases k14 with
  | zero => exact h.elim
  | succ k14 =>
  unfold ref13_Compare.l1 at h
  refine wp_seq_k fun K16 hK16 => ?_
  refine wp_seq_k fun K17 hK17 => ?_
  obtain ⟨b18, h19, h⟩ := h
  refine rg ?_
  refine st 12 (t_move (o_t 7 rfl) rfl rfl) rfl rfl hL fun a s e_ hL => ?_
  refine st 13 (t_move (o_t 5 rfl) rfl rfl) rfl rfl hL fun a s e_ hL => ?_
  refine st 14 (t_len (o_t 13 rfl) Tryd.underlying82 rfl rfl) rfl rfl hL fun a s e_ hL => ?_
  refine st 15 (t_lss (o_t 12 rfl) (o_t 14 rfl) rfl rfl) rfl rfl hL fun a s e_ hL => ?_
  refine st 16 (t_move (o_t 15 rfl) rfl rfl) rfl rfl hL fun a s e_ hL => ?_
  refine st 17 (t_g1 rfl rfl rfl (fun hc_ => t_move (o_t 7 rfl) rfl rfl)) rfl rfl hL fun a s e_ hL => ?_
  refine st 18 (t_g1 rfl rfl rfl (fun hc_ => t_move (o_t 6 rfl) rfl rfl)) rfl rfl hL fun a s e_ hL => ?_
  refine st 19 (t_g1 rfl rfl rfl (fun hc_ => t_len (o_w hc_ 18 rfl) Tryd.underlying82 rfl rfl)) rfl rfl hL fun a s e_ hL => ?_
  refine st 20 (t_g1 rfl rfl rfl (fun hc_ => t_lss (o_w hc_ 17 rfl) (o_w hc_ 19 rfl) rfl rfl)) rfl rfl hL fun a s e_ hL => ?_
  refine st 21 (h19 ▸ (t_and (o_t 16 rfl) (fun hc2_ => (o_w hc2_ 20 rfl)) rfl rfl)) rfl rfl hL fun a s e_ hL => ?_
  refine en' ?_
  show K17 a s.w
  refine hK17 _ _ ?_
  refine cnd hL rfl (fun hb_ => ?_) (fun hb_ => ?_)
  · replace h := h.1 hb_
    refine wp_skip ?_
    show K16 a s.w
    refine hK16 _ _ ?_
    refine wp_seq_k fun K20 hK20 => ?_
    refine wp_block ?_
    refine wp_seq_k fun K21 hK21 => ?_
    refine wp_seq_k fun K22 hK22 => ?_
    obtain ⟨e23, h24, e25, h26, h⟩ := h
    refine rda follows 9 [(Pd.rep (En.slice (En.int .i64)) r3), (Pd.rep (En.int .i64) i12), (Pd.ptr (En.int .i64) e23), (Pd.rep (En.int .i64) e23), (Pd.rep (En.slice (En.int .i64)) r6), (Pd.rep (En.int .i64) i12), (Pd.ptr (En.int .i64) e25), (Pd.rep (En.int .i64) e25), (Pd.rep En.bool (decide (e23 < e25)))] hL (by kernel_rfl) rfl rfl ?_ ?_
    · refine AllT.cons (t_move (o_t 5 rfl) rfl rfl) ?_
      refine AllT.cons (t_move (o_t 7 rfl) rfl rfl) ?_
      refine AllT.cons (t_idx (o_t 24 rfl) (o_t 25 rfl) h24 Tryd.underlying82 ty3 rfl rfl) ?_
      refine AllT.cons (t_load ty3 (o_t 26 rfl) rfl rfl) ?_
      refine AllT.cons (t_move (o_t 6 rfl) rfl rfl) ?_
      refine AllT.cons (t_move (o_t 7 rfl) rfl rfl) ?_
      refine AllT.cons (t_idx (o_t 28 rfl) (o_t 29 rfl) h26 Tryd.underlying82 ty3 rfl rfl) ?_
      refine AllT.cons (t_load ty3 (o_t 30 rfl) rfl rfl) ?_
      refine AllT.cons (t_lss (o_t 27 rfl) (o_t 31 rfl) rfl rfl) ?_
      exact AllT.nil
    intro a s e_ hL
    refine en' ?_
    show K22 a s.w
    refine hK22 _ _ ?_
    refine cnd hL rfl (fun hb_ => ?_) (fun hb_ => ?_)
    · replace h := h.1 hb_
      refine wp_seq_k fun K27 hK27 => ?_
      refine rg ?_
      refine st 4 (t_assign (o_i (k := .i64) (by decide)) rfl rfl) rfl rfl hL fun a s e_ hL => ?_
      refine en' ?_
      show K27 a s.w
      refine hK27 _ _ ?_
      subst h
      exact wp_ret (retq rfl hL rfl)
    · replace h := h.2 hb_
      refine wp_skip ?_
      show K21 a s.w
      refine hK21 _ _ ?_
      refine wp_seq_k fun K28 hK28 => ?_
      obtain ⟨e29, h30, e31, h32, h⟩ := h
      refine rda follows 9 [(Pd.rep (En.slice (En.int .i64)) r3), (Pd.rep (En.int .i64) i12), (Pd.ptr (En.int .i64) e29), (Pd.rep (En.int .i64) e29), (Pd.rep (En.slice (En.int .i64)) r6), (Pd.rep (En.int .i64) i12), (Pd.ptr (En.int .i64) e31), (Pd.rep (En.int .i64) e31), (Pd.rep En.bool (decide (e31 < e29)))] hL (by kernel_rfl) rfl rfl ?_ ?_
      · refine AllT.cons (t_move (o_t 5 rfl) rfl rfl) ?_
        refine AllT.cons (t_move (o_t 7 rfl) rfl rfl) ?_
        refine AllT.cons (t_idx (o_t 33 rfl) (o_t 34 rfl) h30 Tryd.underlying82 ty3 rfl rfl) ?_
        refine AllT.cons (t_load ty3 (o_t 35 rfl) rfl rfl) ?_
        refine AllT.cons (t_move (o_t 6 rfl) rfl rfl) ?_
        refine AllT.cons (t_move (o_t 7 rfl) rfl rfl) ?_
        refine AllT.cons (t_idx (o_t 37 rfl) (o_t 38 rfl) h32 Tryd.underlying82 ty3 rfl rfl) ?_
        refine AllT.cons (t_load ty3 (o_t 39 rfl) rfl rfl) ?_
        refine AllT.cons (t_gtr (o_t 36 rfl) (o_t 40 rfl) rfl rfl) ?_
        exact AllT.nil
      intro a s e_ hL
      refine en' ?_
      show K28 a s.w
      refine hK28 _ _ ?_
      refine cnd hL rfl (fun hb_ => ?_) (fun hb_ => ?_)
      · replace h := h.1 hb_
        refine wp_seq_k fun K33 hK33 => ?_
        refine rg ?_
        refine st 4 (t_assign (o_i (k := .i64) (by decide)) rfl rfl) rfl rfl hL fun a s e_ hL => ?_
        refine en' ?_
        show K33 a s.w
        refine hK33 _ _ ?_
        subst h
        exact wp_ret (retq rfl hL rfl)
      · replace h := h.2 hb_
        refine wp_skip ?_
        show K20 a s.w
        refine hK20 _ _ ?_
        obtain ⟨h34, h⟩ := h
        refine rg ?_
        refine st 22 (t_move (o_t 7 rfl) rfl rfl) rfl rfl hL fun a s e_ hL => ?_
        refine st 23 (t_add (o_t 22 rfl) (o_i (k := .i64) (by decide)) h34 rfl rfl) rfl rfl hL fun a s e_ hL => ?_
        refine st 7 (t_assign (o_t 23 rfl) rfl rfl) rfl rfl hL fun a s e_ hL => ?_
        refine en' ?_
        exact hKL15 k14 a s (Nat.lt_succ_self _) ⟨(i12 + 1), hL.keep (.cons (t := 5) rfl (fun _ h_ => h_.elim) (.cons (t := 6) rfl (fun _ h_ => h_.elim) (.cons (t := 7) rfl (fun _ h_ => h_.elim) .nil))), h⟩
  · replace h := h.2 hb_
    refine wp_exit ?_
    exact J10 a s (hL.keep .nil) h
theorem ref13_Same_ok {a_ : (List SItem)} {b_ : (List SItem)} {r_ : Bool} (h : ref13_Same a_ b_ r_) : Fn Tryd.prog 23 [(Pd.rep (En.slice En.SItem) a_), (Pd.rep (En.slice En.SItem) b_)] (Rq (Pd.rep En.bool r_)) := by
  unfold ref13_Same at h
  refine fn_of Tryd.func23 rfl Tryd.ntmps23 (by rfl) (by simp) fun s0 a hL => ?_
  refine wp_seq_k fun K1 hK1 => ?_
  refine rg ?_
  refine st 4 (t_assign o_b rfl rfl) rfl rfl hL fun a s e_ hL => ?_
  refine en' ?_
  show K1 a s.w
  refine hK1 _ _ ?_
  refine wp_seq_k fun K2 hK2 => ?_
  obtain ⟨r3, h4, h⟩ := h
  refine rg ?_
  refine st 5 (t_move (o_t 0 rfl) rfl rfl) rfl rfl hL fun a s e_ hL => ?_
  refine st 6 (t_move (o_t 1 rfl) rfl rfl) rfl rfl hL fun a s e_ hL => ?_
  refine st 7 (t_call (ref13_Compare_ok h4) (xs := [.tmp 5, .tmp 6]) (.cons (o_t 5 rfl) (.cons (o_t 6 rfl) .nil)) rfl rfl) rfl rfl hL fun a s e_ hL => ?_
  refine st 8 (t_eqi (o_t 7 rfl) (o_i (k := .i64) (by decide)) rfl rfl) rfl rfl hL fun a s e_ hL => ?_
  refine st 4 (t_assign (o_t 8 rfl) rfl rfl) rfl rfl hL fun a s e_ hL => ?_
  refine en' ?_
  show K2 a s.w
  refine hK2 _ _ ?_
  subst h
  exact wp_ret (retq rfl hL rfl)
end Go.Proofs.YtdidjelkkanenaaDoor.V
namespace Go.Proofs.YtdidjelkkanenaaDoor.V
open Go
set_option linter.unusedVariables false
def heads_Ready (d_ : SDesc) (s_ : (List SItem)) (r_ : Bool) : Prop := ((((s_.length : Int) == 0)) = true → r_ = true) ∧ ((((s_.length : Int) == 0)) = false → ∃ e7 : SItem, at? s_ 0 = some e7 ∧ (((e7.1 == 1)) = true → ∃ e13 : SNode, at? d_ e7.2.1 = some e13 ∧ ∃ e16 : Bool, (((decide (e13.1 < 10)) = true) → at? gdat0 e13.1 = some e16) ∧ r_ = ((decide (e13.1 < 10)) && e16)) ∧ (((e7.1 == 1)) = false → (((e7.1 == 3)) = true → (((e7.1 == 3)) = true → r_ = true) ∧ (((e7.1 == 3)) = false → r_ = false)) ∧ (((e7.1 == 3)) = false → (((e7.1 == 4)) = true → r_ = true) ∧ (((e7.1 == 4)) = false → r_ = false))))
def heads_with (rest_ : (List SItem)) (list_ : (List SItem)) (r_ : (List SItem)) : Prop := ∃ r3 : (List SItem), slices_Concat_api_State_api_Item [list_, rest_] r3 ∧ r_ = r3
def heads_node (i_ : Int) (r_ : SItem) : Prop := r_ = (1, i_, 0, 0)
def heads_Open.j1 (r_ : (List (List SItem))) (out35 : (List (List SItem))) : Prop := r_ = out35
def heads_Open.j2 (s_ : (List SItem)) (r_ : (List (List SItem))) (e4 : SItem) (e9 : SNode) (out27 : (List (List SItem))) : Prop := ((decide (0 < e4.2.2.2)) = true → ∃ r39 : SItem, heads_node e9.2.1 r39 ∧ (InR .i64 (e4.2.2.1 - 1)) ∧ (InR .i64 (e4.2.2.2 - 1)) ∧ ∃ r43 : (List SItem), heads_with (s_.drop (1 : Int).toNat) [r39, (e4.1, e4.2.1, (max (e4.2.2.1 - 1) 0), e4.2.2.2 - 1)] r43 ∧ (out27.length + [r43].length ≤ 2147483648) ∧ (heads_Open.j1 r_) (out27 ++ [r43])) ∧ ((decide (0 < e4.2.2.2)) = false → (heads_Open.j1 r_) out27)
def heads_Open (d_ : SDesc) (s_ : (List SItem)) (r_ : (List (List SItem))) : Prop := ∃ e4 : SItem, at? s_ 0 = some e4 ∧ ((0 : Int) ≤ 1 ∧ 1 ≤ (s_.length : Int)) ∧ ∃ e9 : SNode, at? d_ e4.2.1 = some e9 ∧ ((((e4.1 == 5) && (e4.2.2.1 == 0))) = true → ∃ r16 : (List SItem), heads_with (s_.drop (1 : Int).toNat) ([] : (List SItem)) r16 ∧ r_ = [r16]) ∧ ((((e4.1 == 5) && (e4.2.2.1 == 0))) = false → (((e4.1 == 5)) = true → r_ = ([] : (List (List SItem)))) ∧ (((e4.1 == 5)) = false → (((e4.1 == 2)) = true → (((e4.2.2.1 == 0)) = true → ∃ r47 : (List SItem), heads_with (s_.drop (1 : Int).toNat) ([] : (List SItem)) r47 ∧ (([] : (List (List SItem))).length + [r47].length ≤ 2147483648) ∧ (heads_Open.j2 s_ r_ e4 e9) (([] : (List (List SItem))) ++ [r47])) ∧ (((e4.2.2.1 == 0)) = false → (heads_Open.j2 s_ r_ e4 e9) ([] : (List (List SItem))))) ∧ (((e4.1 == 2)) = false → (((e9.1 == 1)) = true → ∃ r57 : (List SItem), heads_with (s_.drop (1 : Int).toNat) ([] : (List SItem)) r57 ∧ r_ = [r57]) ∧ (((e9.1 == 1)) = false → (((e9.1 == 3)) = true → ∃ r64 : (List SItem), heads_with (s_.drop (1 : Int).toNat) [(3, e4.2.1, 0, 0)] r64 ∧ r_ = [r64]) ∧ (((e9.1 == 3)) = false → (((e9.1 == 4)) = true → ∃ r71 : SItem, heads_node e9.2.1 r71 ∧ ∃ r73 : SItem, heads_node e9.2.2.1 r73 ∧ ∃ r75 : (List SItem), heads_with (s_.drop (1 : Int).toNat) [r71, r73] r75 ∧ r_ = [r75]) ∧ (((e9.1 == 4)) = false → (((e9.1 == 5)) = true → ∃ r82 : SItem, heads_node e9.2.1 r82 ∧ ∃ r84 : (List SItem), heads_with (s_.drop (1 : Int).toNat) [r82] r84 ∧ ∃ r86 : SItem, heads_node e9.2.2.1 r86 ∧ ∃ r88 : (List SItem), heads_with (s_.drop (1 : Int).toNat) [r86] r88 ∧ r_ = [r84, r88]) ∧ (((e9.1 == 5)) = false → (((e9.1 == 6)) = true → ∃ r95 : (List SItem), heads_with (s_.drop (1 : Int).toNat) ([] : (List SItem)) r95 ∧ ∃ r97 : SItem, heads_node e9.2.1 r97 ∧ ∃ r99 : (List SItem), heads_with (s_.drop (1 : Int).toNat) [r97, e4] r99 ∧ r_ = [r95, r99]) ∧ (((e9.1 == 6)) = false → ∃ r105 : (List SItem), heads_with (s_.drop (1 : Int).toNat) [(2, e4.2.1, e9.2.2.2.1, e9.2.2.2.2.1)] r105 ∧ r_ = [r105]))))))))
def heads_Heads_1 (a_ : SBranch) (b_ : SBranch) (r_ : Int) : Prop := ∃ r3 : Int, item_Compare a_.1 b_.1 r3 ∧ r_ = r3
def law14_start (d_ : SDesc) (r_ : (List SItem)) : Prop := (InR .i64 ((d_.length : Int) - 1)) ∧ r_ = [(1, (d_.length : Int) - 1, 0, 0)]
def law14_awake  (r_ : Bool) : Prop := ∃ r8 : SDesc, ref04_Wrap 6 0 0 [(2, 0, 0, 0, 0, (0#256), ([] : Str))] r8 ∧ ∃ r14 : SDesc, ref04_Pair 5 [(1, 0, 0, 0, 0, (0#256), ([] : Str))] [(1, 0, 0, 0, 0, (0#256), ([] : Str))] r14 ∧ ∃ r21 : (List SItem), law14_start r8 r21 ∧ ∃ r23 : (List SBranch), heads_Heads r8 r21 r23 ∧ ∃ r26 : (List SItem), law14_start r14 r26 ∧ ∃ r28 : (List SBranch), heads_Heads r14 r26 r28 ∧ ∃ r31 : (List SItem), law14_start r8 r31 ∧ ∃ r33 : (List (List SItem)), heads_Open r8 r31 r33 ∧ ∃ r36 : (List (List SItem)), heads_Open r8 [(5, 0, 1, 0)] r36 ∧ ∃ b40 : Bool, b40 = (((r23.length : Int) != 2) || ((r28.length : Int) != 1)) ∧ (((b40 || ((r33.length : Int) != 2))) = true → r_ = false) ∧ (((b40 || ((r33.length : Int) != 2))) = false → ∃ e44 : SBranch, at? r23 0 = some e44 ∧ ∃ e46 : SBranch, (((((e44.1.length : Int) == 0)) = true) → at? r23 0 = some e46) ∧ ∃ e48 : SBranch, ((((((e44.1.length : Int) == 0) && (e46.2 == 1))) = true) → at? r23 1 = some e48) ∧ ∃ b50 : Bool, b50 = ((((e44.1.length : Int) == 0) && (e46.2 == 1)) && ((e48.1.length : Int) == 2)) ∧ ∃ e52 : SBranch, (((b50) = true) → at? r23 1 = some e52) ∧ ∃ e54 : SItem, (((b50) = true) → at? e52.1 0 = some e54) ∧ ∃ e56 : SBranch, ((((b50 && (e54 == (1, 0, 0, 0)))) = true) → at? r28 0 = some e56) ∧ ∃ e58 : (List SItem), (((((b50 && (e54 == (1, 0, 0, 0))) && (e56.2 == 2))) = true) → at? r33 0 = some e58) ∧ ∃ b60 : Bool, b60 = (((b50 && (e54 == (1, 0, 0, 0))) && (e56.2 == 2)) && ((e58.length : Int) == 0)) ∧ ∃ e62 : (List SItem), (((b60) = true) → at? r33 1 = some e62) ∧ ∃ e64 : SBranch, (((b60) = true) → at? r23 1 = some e64) ∧ ∃ r66 : Bool, (((b60) = true) → ref13_Same e62 e64.1 r66) ∧ ∃ r68 : Bool, (((((b60 && r66) && ((r36.length : Int) == 0))) = true) → heads_Ready r8 ([] : (List SItem)) r68) ∧ ∃ b70 : Bool, b70 = (((b60 && r66) && ((r36.length : Int) == 0)) && r68) ∧ ∃ r72 : (List SItem), (((b70) = true) → law14_start r8 r72) ∧ ∃ r74 : Bool, (((b70) = true) → heads_Ready r8 r72 r74) ∧ ∃ r76 : (List SItem), ((((b70 && (!r74))) = true) → law14_start [(2, 0, 0, 0, 0, (0#256), ([] : Str))] r76) ∧ ∃ r78 : Bool, ((((b70 && (!r74))) = true) → heads_Ready [(2, 0, 0, 0, 0, (0#256), ([] : Str))] r76 r78) ∧ r_ = ((b70 && (!r74)) && r78))
def ref14_Fits (d_ : SDesc) (s_ : (List SItem)) (r_ : Bool) : Prop := ∃ b3 : Bool, b3 = ((decide ((d_.length : Int) ≤ 24)) && (decide ((s_.length : Int) ≤ 8))) ∧ ∃ r5 : Bool, (((b3) = true) → ref13_Form d_ s_ r5) ∧ r_ = (b3 && r5)
def ref14_Ready (d_ : SDesc) (s_ : (List SItem)) (r_ : Bool) : Prop := ∃ e4 : SItem, (((((s_.length : Int) == 0)) = false) → at? s_ 0 = some e4) ∧ ∃ e6 : SItem, ((((((s_.length : Int) == 0) || (e4.1 == 3))) = false) → at? s_ 0 = some e6) ∧ ∃ b8 : Bool, b8 = ((((s_.length : Int) == 0) || (e4.1 == 3)) || (e6.1 == 4)) ∧ ((b8) = true → r_ = true) ∧ ((b8) = false → ∃ e12 : SItem, at? s_ 0 = some e12 ∧ ∃ e14 : SNode, at? d_ e12.2.1 = some e14 ∧ ∃ e17 : SItem, at? s_ 0 = some e17 ∧ ∃ b19 : Bool, b19 = ((e17.1 == 1) && (((e14.1 == 2) || (e14.1 == 8)) || (e14.1 == 9))) ∧ r_ = b19)
def ref14_ahead (l_ : (List SItem)) (s_ : (List SItem)) (r_ : (List SItem)) : Prop := (([] : (List SItem)).length + l_.length ≤ 2147483648) ∧ ((([] : (List SItem)) ++ l_).length + s_.length ≤ 2147483648) ∧ r_ = (([] : (List SItem)) ++ l_) ++ s_
def ref14_Add.j1 (s_ : (List SItem)) (many_ : Int) (r_ : (List SBranch)) (out6 : (List SBranch)) (done8 : Bool) : Prop := (((!done8)) = true → (out6.length + [(s_, many_)].length ≤ 2147483648) ∧ r_ = out6 ++ [(s_, many_)]) ∧ (((!done8)) = false → r_ = out6)
def ref14_Add.j2 (L1_ : (List SBranch) → Bool → Int → Prop) (l_ : (List SBranch)) (i19 : Int) (out43 : (List SBranch)) (done45 : Bool) : Prop := ∃ e47 : SBranch, at? l_ i19 = some e47 ∧ (out43.length + [e47].length ≤ 2147483648) ∧ (InR .i64 (i19 + 1)) ∧ L1_ (out43 ++ [e47]) done45 (i19 + 1)
def ref14_Add.l1 (l_ : (List SBranch)) (s_ : (List SItem)) (many_ : Int) (X1 : (List SBranch) → Bool → Prop) : Nat → (List SBranch) → Bool → Int → Prop
  | 0, _, _, _ => False
  | k_0 + 1, out16, done18, i19 => ((decide (i19 < (l_.length : Int))) = true → ∃ e27 : SBranch, at? l_ i19 = some e27 ∧ ∃ r29 : Int, ref13_Compare s_ e27.1 r29 ∧ (((r29 == 0)) = true → ∃ e34 : SBranch, at? l_ i19 = some e34 ∧ (InR .i64 (e34.2 + many_)) ∧ (out16.length + [(s_, (min 2 (e34.2 + many_)))].length ≤ 2147483648) ∧ (InR .i64 (i19 + 1)) ∧ ref14_Add.l1 l_ s_ many_ X1 k_0 (out16 ++ [(s_, (min 2 (e34.2 + many_)))]) true (i19 + 1)) ∧ (((r29 == 0)) = false → ((((decide (r29 < 0)) && (!done18))) = true → (out16.length + [(s_, many_)].length ≤ 2147483648) ∧ (ref14_Add.j2 (ref14_Add.l1 l_ s_ many_ X1 k_0) l_ i19) (out16 ++ [(s_, many_)]) true) ∧ ((((decide (r29 < 0)) && (!done18))) = false → (ref14_Add.j2 (ref14_Add.l1 l_ s_ many_ X1 k_0) l_ i19) out16 done18))) ∧ ((decide (i19 < (l_.length : Int))) = false → X1 out16 done18)
def ref14_Add (l_ : (List SBranch)) (s_ : (List SItem)) (many_ : Int) (r_ : (List SBranch)) : Prop := ∃ k20, ref14_Add.l1 l_ s_ many_ (ref14_Add.j1 s_ many_ r_) k20 ([] : (List SBranch)) false 0
def ref14_Open.j1 (r_ : (List (List SItem))) (out27 : (List (List SItem))) : Prop := r_ = out27
def ref14_Open.j2 (r_ : (List (List SItem))) (out47 : (List (List SItem))) : Prop := r_ = out47
def ref14_Open.j3 (s_ : (List SItem)) (r_ : (List (List SItem))) (e3 : SItem) (e9 : SNode) (out39 : (List (List SItem))) : Prop := ((decide (0 < e3.2.2.2)) = true → (InR .i64 (e3.2.2.1 - 1)) ∧ (InR .i64 (e3.2.2.2 - 1)) ∧ ∃ r53 : (List SItem), ref14_ahead [(1, e9.2.1, 0, 0), (2, e3.2.1, (max 0 (e3.2.2.1 - 1)), e3.2.2.2 - 1)] (s_.drop (1 : Int).toNat) r53 ∧ (out39.length + [r53].length ≤ 2147483648) ∧ (ref14_Open.j2 r_) (out39 ++ [r53])) ∧ ((decide (0 < e3.2.2.2)) = false → (ref14_Open.j2 r_) out39)
def ref14_Open (d_ : SDesc) (s_ : (List SItem)) (r_ : (List (List SItem))) : Prop := ∃ e3 : SItem, at? s_ 0 = some e3 ∧ ((0 : Int) ≤ 1 ∧ 1 ≤ (s_.length : Int)) ∧ ∃ e9 : SNode, at? d_ e3.2.1 = some e9 ∧ (((e3.1 == 5)) = true → (((e3.2.2.1 == 0)) = true → ∃ r31 : (List SItem), ref14_ahead ([] : (List SItem)) (s_.drop (1 : Int).toNat) r31 ∧ (([] : (List (List SItem))).length + [r31].length ≤ 2147483648) ∧ (ref14_Open.j1 r_) (([] : (List (List SItem))) ++ [r31])) ∧ (((e3.2.2.1 == 0)) = false → (ref14_Open.j1 r_) ([] : (List (List SItem))))) ∧ (((e3.1 == 5)) = false → (((e3.1 == 2)) = true → (((e3.2.2.1 == 0)) = true → ∃ r57 : (List SItem), ref14_ahead ([] : (List SItem)) (s_.drop (1 : Int).toNat) r57 ∧ (([] : (List (List SItem))).length + [r57].length ≤ 2147483648) ∧ (ref14_Open.j3 s_ r_ e3 e9) (([] : (List (List SItem))) ++ [r57])) ∧ (((e3.2.2.1 == 0)) = false → (ref14_Open.j3 s_ r_ e3 e9) ([] : (List (List SItem))))) ∧ (((e3.1 == 2)) = false → (((e9.1 == 1)) = true → ∃ r66 : (List SItem), ref14_ahead ([] : (List SItem)) (s_.drop (1 : Int).toNat) r66 ∧ (([] : (List (List SItem))).length + [r66].length ≤ 2147483648) ∧ r_ = ([] : (List (List SItem))) ++ [r66]) ∧ (((e9.1 == 1)) = false → (((e9.1 == 3)) = true → ∃ r72 : (List SItem), ref14_ahead [(3, e3.2.1, 0, 0)] (s_.drop (1 : Int).toNat) r72 ∧ (([] : (List (List SItem))).length + [r72].length ≤ 2147483648) ∧ r_ = ([] : (List (List SItem))) ++ [r72]) ∧ (((e9.1 == 3)) = false → (((e9.1 == 4)) = true → ∃ r78 : (List SItem), ref14_ahead [(1, e9.2.1, 0, 0), (1, e9.2.2.1, 0, 0)] (s_.drop (1 : Int).toNat) r78 ∧ (([] : (List (List SItem))).length + [r78].length ≤ 2147483648) ∧ r_ = ([] : (List (List SItem))) ++ [r78]) ∧ (((e9.1 == 4)) = false → (((e9.1 == 5)) = true → ∃ r84 : (List SItem), ref14_ahead [(1, e9.2.1, 0, 0)] (s_.drop (1 : Int).toNat) r84 ∧ ∃ r86 : (List SItem), ref14_ahead [(1, e9.2.2.1, 0, 0)] (s_.drop (1 : Int).toNat) r86 ∧ (([] : (List (List SItem))).length + [r84, r86].length ≤ 2147483648) ∧ r_ = ([] : (List (List SItem))) ++ [r84, r86]) ∧ (((e9.1 == 5)) = false → (((e9.1 == 6)) = true → ∃ r92 : (List SItem), ref14_ahead ([] : (List SItem)) (s_.drop (1 : Int).toNat) r92 ∧ ∃ r94 : (List SItem), ref14_ahead [(1, e9.2.1, 0, 0), e3] (s_.drop (1 : Int).toNat) r94 ∧ (([] : (List (List SItem))).length + [r92, r94].length ≤ 2147483648) ∧ r_ = ([] : (List (List SItem))) ++ [r92, r94]) ∧ (((e9.1 == 6)) = false → (((e9.1 == 7)) = true → ∃ r100 : (List SItem), ref14_ahead [(2, e3.2.1, e9.2.2.2.1, e9.2.2.2.2.1)] (s_.drop (1 : Int).toNat) r100 ∧ (([] : (List (List SItem))).length + [r100].length ≤ 2147483648) ∧ r_ = ([] : (List (List SItem))) ++ [r100]) ∧ (((e9.1 == 7)) = false → r_ = ([] : (List (List SItem)))))))))))
def ref14_into.j1 (r_ : (List SBranch)) (l16 : (List SBranch)) : Prop := r_ = l16
def ref14_into.l1 (n_ : SDesc → (List SItem) → (List SBranch) → (List SBranch) → Prop) (d_ : SDesc) (r12 : (List (List SItem))) (X1 : (List SBranch) → Prop) : Nat → (List SBranch) → Int → Prop
  | 0, _, _ => False
  | k_0 + 1, l19, i20 => ((decide (i20 < (r12.length : Int))) = true → ∃ e27 : (List SItem), at? r12 i20 = some e27 ∧ ∃ r29 : (List SBranch), n_ d_ e27 l19 r29 ∧ (InR .i64 (i20 + 1)) ∧ ref14_into.l1 n_ d_ r12 X1 k_0 r29 (i20 + 1)) ∧ ((decide (i20 < (r12.length : Int))) = false → X1 l19)
def ref14_into.n : Nat → SDesc → (List SItem) → (List SBranch) → (List SBranch) → Prop
  | 0, _, _, _, _ => False
  | k_ + 1, d_, s_, l_, r_ => ∃ r4 : Bool, ref14_Ready d_ s_ r4 ∧ ((r4) = true → ∃ r7 : (List SItem), ref14_ahead ([] : (List SItem)) s_ r7 ∧ ∃ r9 : (List SBranch), ref14_Add l_ r7 1 r9 ∧ r_ = r9) ∧ ((r4) = false → ∃ r12 : (List (List SItem)), ref14_Open d_ s_ r12 ∧ ∃ k21, ref14_into.l1 (ref14_into.n k_) d_ r12 (ref14_into.j1 r_) k21 l_ 0)
def ref14_into (d_ : SDesc) (s_ : (List SItem)) (l_ : (List SBranch)) (r_ : (List SBranch)) : Prop := ∃ k_, ref14_into.n k_ d_ s_ l_ r_
def ref14_Heads (d_ : SDesc) (s_ : (List SItem)) (r_ : (List SBranch)) : Prop := ∃ r3 : (List SBranch), ref14_into d_ s_ ([] : (List SBranch)) r3 ∧ r_ = r3
def ref14_Same.j1 (r_ : Bool) : Prop := r_ = true
def ref14_Same.l1 (a_ : (List SBranch)) (b_ : (List SBranch)) (r_ : Bool) (X1 : Prop) : Nat → Int → Prop
  | 0, _ => False
  | k_0 + 1, i9 => ((decide (i9 < (a_.length : Int))) = true → ∃ e17 : SBranch, at? a_ i9 = some e17 ∧ ∃ e19 : SBranch, at? b_ i9 = some e19 ∧ ∃ e21 : SBranch, ((((e17.2 != e19.2)) = false) → at? a_ i9 = some e21) ∧ ∃ e23 : SBranch, ((((e17.2 != e19.2)) = false) → at? b_ i9 = some e23) ∧ ∃ r25 : Bool, ((((e17.2 != e19.2)) = false) → ref13_Same e21.1 e23.1 r25) ∧ ((((e17.2 != e19.2) || (!r25))) = true → r_ = false) ∧ ((((e17.2 != e19.2) || (!r25))) = false → (InR .i64 (i9 + 1)) ∧ ref14_Same.l1 a_ b_ r_ X1 k_0 (i9 + 1))) ∧ ((decide (i9 < (a_.length : Int))) = false → X1)
def ref14_Same (a_ : (List SBranch)) (b_ : (List SBranch)) (r_ : Bool) : Prop := ((((a_.length : Int) != (b_.length : Int))) = true → r_ = false) ∧ ((((a_.length : Int) != (b_.length : Int))) = false → ∃ k10, ref14_Same.l1 a_ b_ r_ (ref14_Same.j1 r_) k10 0)
def law14_HeadsTells.j1 (r_ : Bool) : Prop := r_ = true
def law14_HeadsTells.l1 (r34 : (List (List SItem))) (r37 : (List (List SItem))) (r_ : Bool) (X1 : Prop) : Nat → Int → Prop
  | 0, _ => False
  | k_0 + 1, i46 => ((decide (i46 < (r34.length : Int))) = true → ∃ e54 : (List SItem), at? r34 i46 = some e54 ∧ ∃ e56 : (List SItem), at? r37 i46 = some e56 ∧ ∃ r58 : Bool, ref13_Same e54 e56 r58 ∧ (((!r58)) = true → r_ = false) ∧ (((!r58)) = false → (InR .i64 (i46 + 1)) ∧ law14_HeadsTells.l1 r34 r37 r_ X1 k_0 (i46 + 1))) ∧ ((decide (i46 < (r34.length : Int))) = false → X1)
def law14_HeadsTells (d_ : SDesc) (s_ : (List SItem)) (r_ : Bool) : Prop := ∃ r4 : Bool, law14_awake  r4 ∧ ∃ r6 : Bool, ((((!r4)) = false) → ref04_Few d_ r6) ∧ ∃ r8 : Bool, (((((!r4) || (!r6))) = false) → ref08_Right d_ r8) ∧ ∃ r10 : Bool, ((((((!r4) || (!r6)) || (!r8))) = false) → ref14_Fits d_ s_ r10) ∧ ((((((!r4) || (!r6)) || (!r8)) || (!r10))) = true → ∃ r13 : Bool, law14_awake  r13 ∧ r_ = r13) ∧ ((((((!r4) || (!r6)) || (!r8)) || (!r10))) = false → ∃ r17 : Bool, heads_Ready d_ s_ r17 ∧ ∃ r19 : Bool, ref14_Ready d_ s_ r19 ∧ ∃ r21 : (List SBranch), ((((r17 != r19)) = false) → heads_Heads d_ s_ r21) ∧ ∃ r23 : (List SBranch), ((((r17 != r19)) = false) → ref14_Heads d_ s_ r23) ∧ ∃ r25 : Bool, ((((r17 != r19)) = false) → ref14_Same r21 r23 r25) ∧ ((((r17 != r19) || (!r25))) = true → r_ = false) ∧ ((((r17 != r19) || (!r25))) = false → ∃ r30 : Bool, ref14_Ready d_ s_ r30 ∧ ((r30) = true → r_ = true) ∧ ((r30) = false → ∃ r34 : (List (List SItem)), heads_Open d_ s_ r34 ∧ ∃ r37 : (List (List SItem)), ref14_Open d_ s_ r37 ∧ ((((r34.length : Int) != (r37.length : Int))) = true → r_ = false) ∧ ((((r34.length : Int) != (r37.length : Int))) = false → ∃ k47, law14_HeadsTells.l1 r34 r37 r_ (law14_HeadsTells.j1 r_) k47 0))))
def law14_HeadsReady.j1 (d_ : SDesc) (r_ : Bool) (nothing23 : Int) : Prop := (InR .i64 ((d_.length : Int) - 1)) ∧ ∃ r27 : Int, ref08_Ways d_ ((d_.length : Int) - 1) r27 ∧ r_ = (nothing23 == r27)
def law14_HeadsReady.l1 (d_ : SDesc) (r18 : (List SBranch)) (r_ : Bool) (X1 : Int → Prop) : Nat → Int → Int → Prop
  | 0, _, _ => False
  | k_0 + 1, nothing29, i30 => ((decide (i30 < (r18.length : Int))) = true → ∃ e39 : SBranch, at? r18 i30 = some e39 ∧ ∃ r41 : Bool, heads_Ready d_ e39.1 r41 ∧ ∃ e43 : SBranch, ((((!r41)) = false) → at? r18 i30 = some e43) ∧ ∃ r45 : Bool, ((((!r41)) = false) → ref13_Form d_ e43.1 r45) ∧ ∃ e47 : SBranch, (((((!r41) || (!r45))) = false) → at? r18 i30 = some e47) ∧ ∃ e49 : SBranch, ((((((!r41) || (!r45)) || (decide (e47.2 < 1)))) = false) → at? r18 i30 = some e49) ∧ ∃ b51 : Bool, b51 = ((((!r41) || (!r45)) || (decide (e47.2 < 1))) || (decide (2 < e49.2))) ∧ ((((b51) = false) ∧ (decide (0 < i30)) = true) → InR .i64 (i30 - 1)) ∧ ∃ e54 : SBranch, ((((b51) = false) ∧ (decide (0 < i30)) = true) → at? r18 (i30 - 1) = some e54) ∧ ∃ e56 : SBranch, ((((b51) = false) ∧ (decide (0 < i30)) = true) → at? r18 i30 = some e56) ∧ ∃ r58 : Int, ((((b51) = false) ∧ (decide (0 < i30)) = true) → ref13_Compare e54.1 e56.1 r58) ∧ ∃ b60 : Bool, b60 = (b51 || ((decide (0 < i30)) && (decide (0 ≤ r58)))) ∧ ((b60) = true → r_ = false) ∧ ((b60) = false → ∃ e64 : SBranch, at? r18 i30 = some e64 ∧ ((((e64.1.length : Int) == 0)) = true → ∃ e66 : SBranch, at? r18 i30 = some e66 ∧ (InR .i64 (i30 + 1)) ∧ law14_HeadsReady.l1 d_ r18 r_ X1 k_0 e66.2 (i30 + 1)) ∧ ((((e64.1.length : Int) == 0)) = false → (InR .i64 (i30 + 1)) ∧ law14_HeadsReady.l1 d_ r18 r_ X1 k_0 nothing29 (i30 + 1)))) ∧ ((decide (i30 < (r18.length : Int))) = false → X1 nothing29)
def law14_HeadsReady (d_ : SDesc) (r_ : Bool) : Prop := ∃ r4 : Bool, law14_awake  r4 ∧ ∃ r6 : Bool, ((((!r4)) = false) → ref04_Few d_ r6) ∧ ∃ r8 : Bool, (((((!r4) || (!r6))) = false) → ref08_Right d_ r8) ∧ ∃ b10 : Bool, b10 = ((((!r4) || (!r6)) || (!r8)) || (decide (24 < (d_.length : Int)))) ∧ ((b10) = true → ∃ r13 : Bool, law14_awake  r13 ∧ r_ = r13) ∧ ((b10) = false → ∃ r16 : (List SItem), law14_start d_ r16 ∧ ∃ r18 : (List SBranch), heads_Heads d_ r16 r18 ∧ ∃ k31, law14_HeadsReady.l1 d_ r18 r_ (law14_HeadsReady.j1 d_ r_) k31 0 0)
def law14_HeadsOpen.j1 (r_ : Bool) (r16 : (List SBranch)) (all37 : (List SBranch)) : Prop := ∃ r40 : Bool, ref14_Same all37 r16 r40 ∧ r_ = r40
def law14_HeadsOpen.j2 (L1_ : (List SBranch) → Int → Prop) (i43 : Int) (all56 : (List SBranch)) : Prop := (InR .i64 (i43 + 1)) ∧ L1_ all56 (i43 + 1)
def law14_HeadsOpen.l2 (r53 : (List SBranch)) (X2 : (List SBranch) → Prop) : Nat → (List SBranch) → Int → Prop
  | 0, _, _ => False
  | k_0 + 1, all59, k60 => ((decide (k60 < (r53.length : Int))) = true → ∃ e67 : SBranch, at? r53 k60 = some e67 ∧ ∃ e69 : SBranch, at? r53 k60 = some e69 ∧ ∃ r71 : (List SBranch), ref14_Add all59 e67.1 e69.2 r71 ∧ (InR .i64 (k60 + 1)) ∧ law14_HeadsOpen.l2 r53 X2 k_0 r71 (k60 + 1)) ∧ ((decide (k60 < (r53.length : Int))) = false → X2 all59)
def law14_HeadsOpen.l1 (d_ : SDesc) (r32 : (List (List SItem))) (X1 : (List SBranch) → Prop) : Nat → (List SBranch) → Int → Prop
  | 0, _, _ => False
  | k_0 + 1, all42, i43 => ((decide (i43 < (r32.length : Int))) = true → ∃ e51 : (List SItem), at? r32 i43 = some e51 ∧ ∃ r53 : (List SBranch), heads_Heads d_ e51 r53 ∧ ∃ k61, law14_HeadsOpen.l2 r53 (law14_HeadsOpen.j2 (law14_HeadsOpen.l1 d_ r32 X1 k_0) i43) k61 all42 0) ∧ ((decide (i43 < (r32.length : Int))) = false → X1 all42)
def law14_HeadsOpen (d_ : SDesc) (s_ : (List SItem)) (r_ : Bool) : Prop := ∃ r4 : Bool, law14_awake  r4 ∧ ∃ r6 : Bool, ((((!r4)) = false) → ref04_Few d_ r6) ∧ ∃ r8 : Bool, (((((!r4) || (!r6))) = false) → ref08_Right d_ r8) ∧ ∃ r10 : Bool, ((((((!r4) || (!r6)) || (!r8))) = false) → ref14_Fits d_ s_ r10) ∧ ((((((!r4) || (!r6)) || (!r8)) || (!r10))) = true → ∃ r13 : Bool, law14_awake  r13 ∧ r_ = r13) ∧ ((((((!r4) || (!r6)) || (!r8)) || (!r10))) = false → ∃ r16 : (List SBranch), heads_Heads d_ s_ r16 ∧ ∃ r20 : Bool, heads_Ready d_ s_ r20 ∧ ((r20) = true → ∃ e23 : SBranch, (((((r16.length : Int) == 1)) = true) → at? r16 0 = some e23) ∧ ∃ e25 : SBranch, ((((((r16.length : Int) == 1) && (e23.2 == 1))) = true) → at? r16 0 = some e25) ∧ ∃ r27 : Bool, ((((((r16.length : Int) == 1) && (e23.2 == 1))) = true) → ref13_Same e25.1 s_ r27) ∧ ∃ b29 : Bool, b29 = ((((r16.length : Int) == 1) && (e23.2 == 1)) && r27) ∧ r_ = b29) ∧ ((r20) = false → ∃ r32 : (List (List SItem)), heads_Open d_ s_ r32 ∧ ∃ k44, law14_HeadsOpen.l1 d_ r32 (law14_HeadsOpen.j1 r_ r16) k44 ([] : (List SBranch)) 0))
def law14_sum.j1 (r_ : Int) (n5 : Int) : Prop := r_ = n5
def law14_sum.l1 (l_ : (List SBranch)) (X1 : Int → Prop) : Nat → Int → Int → Prop
  | 0, _, _ => False
  | k_0 + 1, n8, i9 => ((decide (i9 < (l_.length : Int))) = true → ∃ e16 : SBranch, at? l_ i9 = some e16 ∧ (InR .i64 (n8 + e16.2)) ∧ (InR .i64 (i9 + 1)) ∧ law14_sum.l1 l_ X1 k_0 (n8 + e16.2) (i9 + 1)) ∧ ((decide (i9 < (l_.length : Int))) = false → X1 n8)
def law14_sum (l_ : (List SBranch)) (r_ : Int) : Prop := ∃ k10, law14_sum.l1 l_ (law14_sum.j1 r_) k10 0 0
def law14_HeadsWays.j1 (r_ : Bool) (r29 : SDesc) (r35 : SDesc) (r43 : (List SBranch)) (r48 : (List SBranch)) (r53 : (List SBranch)) (r58 : (List SBranch)) (nothing69 : Int) : Prop := (InR .i64 ((r43.length : Int) + (r48.length : Int))) ∧ (InR .i64 (((r43.length : Int) + (r48.length : Int)) - nothing69)) ∧ ∃ i76 : Int, i76 = (((r43.length : Int) + (r48.length : Int)) - nothing69) ∧ ∃ r78 : Int, ((((((r53.length : Int) != i76)) = false) ∧ ((nothing69 == 0)) = true) → law14_sum r53 r78) ∧ ∃ r80 : Int, ((((((r53.length : Int) != i76)) = false) ∧ ((nothing69 == 0)) = true) → law14_sum r43 r80) ∧ ∃ r82 : Int, ((((((r53.length : Int) != i76)) = false) ∧ ((nothing69 == 0)) = true) → law14_sum r48 r82) ∧ ((((((r53.length : Int) != i76)) = false) ∧ ((nothing69 == 0)) = true) → InR .i64 (r80 + r82)) ∧ ∃ b85 : Bool, b85 = (((r53.length : Int) != i76) || ((nothing69 == 0) && (r78 != (r80 + r82)))) ∧ ∃ e87 : SBranch, ((((b85 || ((r58.length : Int) != 1))) = false) → at? r58 0 = some e87) ∧ ∃ b89 : Bool, b89 = ((b85 || ((r58.length : Int) != 1)) || (e87.2 != 1)) ∧ ∃ e91 : SBranch, (((b89) = false) → at? r58 0 = some e91) ∧ ∃ r93 : (List SItem), (((b89) = false) → law14_start r35 r93) ∧ ∃ r95 : Bool, (((b89) = false) → ref13_Same e91.1 r93 r95) ∧ (((b89 || (!r95))) = true → r_ = false) ∧ (((b89 || (!r95))) = false → ∃ r99 : (List SItem), law14_start r29 r99 ∧ ∃ r101 : (List SBranch), heads_Heads r29 r99 r101 ∧ ∃ r104 : Int, (((((r101.length : Int) == (r43.length : Int))) = true) → law14_sum r101 r104) ∧ ∃ r106 : Int, (((((r101.length : Int) == (r43.length : Int))) = true) → law14_sum r43 r106) ∧ ∃ b108 : Bool, b108 = (((r101.length : Int) == (r43.length : Int)) && (r104 == r106)) ∧ r_ = b108)
def law14_HeadsWays (d_ : SDesc) (ev_ : SDesc) (r_ : Bool) : Prop := ∃ r4 : Bool, law14_awake  r4 ∧ ∃ r6 : Bool, ((((!r4)) = false) → ref04_Few d_ r6) ∧ ∃ r8 : Bool, (((((!r4) || (!r6))) = false) → ref04_Few ev_ r8) ∧ ∃ r10 : Bool, ((((((!r4) || (!r6)) || (!r8))) = false) → ref08_Right d_ r10) ∧ ∃ r12 : Bool, (((((((!r4) || (!r6)) || (!r8)) || (!r10))) = false) → ref08_Right ev_ r12) ∧ ∃ b14 : Bool, b14 = (((((!r4) || (!r6)) || (!r8)) || (!r10)) || (!r12)) ∧ ∃ b16 : Bool, b16 = ((b14 || (decide (10 < (d_.length : Int)))) || (decide (10 < (ev_.length : Int)))) ∧ ((b16) = true → ∃ r19 : Bool, law14_awake  r19 ∧ r_ = r19) ∧ ((b16) = false → ∃ r24 : SDesc, ref04_Pair 5 d_ ev_ r24 ∧ ∃ r29 : SDesc, ref04_Pair 4 [(1, 0, 0, 0, 0, (0#256), ([] : Str))] d_ r29 ∧ ∃ r35 : SDesc, ref04_Wrap 8 0 0 d_ r35 ∧ ∃ r41 : (List SItem), law14_start d_ r41 ∧ ∃ r43 : (List SBranch), heads_Heads d_ r41 r43 ∧ ∃ r46 : (List SItem), law14_start ev_ r46 ∧ ∃ r48 : (List SBranch), heads_Heads ev_ r46 r48 ∧ ∃ r51 : (List SItem), law14_start r24 r51 ∧ ∃ r53 : (List SBranch), heads_Heads r24 r51 r53 ∧ ∃ r56 : (List SItem), law14_start r35 r56 ∧ ∃ r58 : (List SBranch), heads_Heads r35 r56 r58 ∧ (InR .i64 ((d_.length : Int) - 1)) ∧ ∃ r64 : Int, ref08_Ways d_ ((d_.length : Int) - 1) r64 ∧ (((decide (0 < r64)) = true) → InR .i64 ((ev_.length : Int) - 1)) ∧ ∃ r67 : Int, (((decide (0 < r64)) = true) → ref08_Ways ev_ ((ev_.length : Int) - 1) r67) ∧ ((((decide (0 < r64)) && (decide (0 < r67)))) = true → (law14_HeadsWays.j1 r_ r29 r35 r43 r48 r53 r58) 1) ∧ ((((decide (0 < r64)) && (decide (0 < r67)))) = false → (law14_HeadsWays.j1 r_ r29 r35 r43 r48 r53 r58) 0))
end Go.Proofs.YtdidjelkkanenaaDoor.V
