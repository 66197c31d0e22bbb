/-
  The texts that the law's proof needs, part 2.
-/
import Derived.Carry
import Derived.ChangeSame
import Derived.Deep.Slices
import Derived.Handed
import Derived.KernelRfl
import Derived.LaidHandle
import Derived.LaidLaws
import Derived.LaidMore
import Derived.Lib.ItoaLen
import Derived.Lib.ItoaNum
import Derived.Lib.Join
import Derived.Lib.LaidTab
import Derived.Lib.SlBytesConst
import Derived.OpenShut
import Derived.ProofKit
import Derived.RowKit
import Derived.SizedLaws
import Derived.Stop.LaidErr
import Derived.Test.YtamjkbneebghmaaDoorRows
import Derived.WalkKit
import Derived.WideKeyElems2
import Derived.Test.YtamjkbneebghmaaDoorPrintClassP1

namespace Go.Proofs.YtamjkbneebghmaaDoor.V
open Go
set_option linter.unusedVariables false
set_option maxRecDepth 100000
set_option maxHeartbeats 2000000
set_option synthInstance.maxSize 100000
set_option synthInstance.maxHeartbeats 200000
theorem zbq {s_:Str} {i_:Int} {from_:Int} {to_:Int} {r_:Bool} (h:zb6 s_ i_ from_ to_ r_):Fn Tryd.prog 61 [(Pd.rep En.str s_),(Pi i_),(Pi from_),(Pi to_)] (Rq (Pd.rep En.bool r_)):=by
 unfold zb6 at h;refine zbe Tryd.func61 J Tryd.ntmps61 (by rfl) (by simp) fun s0 a L=>?_;refine rA 1 L fun a s L=>?_;obtain ⟨c1,h2,b3,h4,c5,h6,h⟩:=h;refine ra 21 (pp h2 (pp h4 (p1 h6))) L fun a s L=>?_;subst h;exact wp_ret (zeh J L J)
theorem zfo {s_:Str} {r_:Bool} (h:zm s_ r_):Fn Tryd.prog 53 [(Pd.rep En.str s_)] (Rq (Pd.rep En.bool r_)):=by
 unfold zm at h;refine zbe Tryd.func53 J Tryd.ntmps53 (by rfl) (by simp) fun s0 a L=>?_;refine rA 1 L fun a s L=>?_;refine rA 1 L fun a s L=>?_;refine wp_seq_k fun K1 H1=>wp_block ?_;have J2:∀(a:Act) (s:St),Has N0 148 s0 a s []→((zm.j1 r_))→K1 a s.w:=by
  intro a s L h;unfold zm.j1 at h;show K1 a s.w;refine H1 _ _ (rA 1 L fun a s L=>?_);subst h;exact wp_ret (zeh J L J)
 obtain ⟨k4,h⟩:=h;refine lpn (fun k5 a s=>∃(i3:Int),Has N0 148 s0 a s [(0,(Pd.rep En.str s_)),(3,(Pi i3))]∧zm.l1 s_ r_ (zm.j1 r_) k5 i3) k4 ⟨0,L.kk,h⟩ ?_;rintro k5 a s ⟨i3,L,h⟩ KL6 hKL6;unfold zm.l1 at h;refine wp_seq_k fun K7 H7=>rA 4 L fun a s L=>?_;refine cn L h (fun h=>?_) fun h=>?_
 ·refine wp_skip (H7 _ _ ?_);refine wp_block ?_;obtain ⟨c8,h9,h⟩:=h;refine ra 5 (p1 h9) L fun a s L=>?_;obtain ⟨h10,r11,h12,h⟩:=h;refine ra 5 (p1 (zbq h12)) L fun a s L=>?_;obtain ⟨h13,r14,h15,h⟩:=h;refine ra 5 (p1 (zbq h15)) L fun a s L=>?_;obtain ⟨h16,r17,h18,h⟩:=h;refine ra 5 (p1 (zbq h18)) L fun a s L=>?_;refine wp_block (rA 3 L fun a s L=>?_);refine cn L h (fun h=>?_) fun h=>?_
  ·obtain ⟨h19,h⟩:=h;refine rg (sA 3 L fun a s L=>?_);refine en' ?_;exact hKL6 a s ⟨(i3+1),L.kk,h⟩
  ·obtain ⟨b20,h21,h⟩:=h;refine ra 10 (p1 h21) L fun a s L=>?_;refine cn L h (fun h=>?_) fun h=>?_
   ·obtain ⟨h22,h⟩:=h;refine rg (sA 3 L fun a s L=>?_);refine en' ?_;exact hKL6 a s ⟨(i3+2),L.kk,h⟩
   ·obtain ⟨h23,r24,h25,h⟩:=h;refine ra 12 (pp (fun hc_=>(zbq (h25 hc_))) trivial) L fun a s L=>?_;refine cn L h (fun h=>?_) fun h=>?_
    ·obtain ⟨h26,h⟩:=h;refine rg (sA 3 L fun a s L=>?_);refine en' ?_;exact hKL6 a s ⟨(i3+3),L.kk,h⟩
    ·obtain ⟨b27,h28,h⟩:=h;refine ra 21 (p1 h28) L fun a s L=>?_;refine cn L h (fun h=>?_) fun h=>?_
     ·obtain ⟨h29,h⟩:=h;refine rg (sA 3 L fun a s L=>?_);refine en' ?_;exact hKL6 a s ⟨(i3+3),L.kk,h⟩
     ·obtain ⟨h30,r31,h32,h⟩:=h;refine ra 12 (pp (fun hc_=>(zbq (h32 hc_))) trivial) L fun a s L=>?_;refine cn L h (fun h=>?_) fun h=>?_
      ·obtain ⟨h33,h⟩:=h;refine rg (sA 3 L fun a s L=>?_);refine en' ?_;exact hKL6 a s ⟨(i3+3),L.kk,h⟩
      ·obtain ⟨h34,r35,h36,h⟩:=h;refine ra 15 (pp (fun hc_=>(zbq (h36 hc_))) trivial) L fun a s L=>?_;refine cn L h (fun h=>?_) fun h=>?_
       ·obtain ⟨h37,h⟩:=h;refine rg (sA 3 L fun a s L=>?_);refine en' ?_;exact hKL6 a s ⟨(i3+4),L.kk,h⟩
       ·obtain ⟨b38,h39,h⟩:=h;refine ra 16 (p1 h39) L fun a s L=>?_;refine cn L h (fun h=>?_) fun h=>?_
        ·obtain ⟨h40,h⟩:=h;refine rg (sA 3 L fun a s L=>?_);refine en' ?_;exact hKL6 a s ⟨(i3+4),L.kk,h⟩
        ·obtain ⟨h41,r42,h43,h⟩:=h;refine ra 15 (pp (fun hc_=>(zbq (h43 hc_))) trivial) L fun a s L=>?_;refine cn L h (fun h=>?_) fun h=>?_
         ·obtain ⟨h44,h⟩:=h;refine rg (sA 3 L fun a s L=>?_);refine en' ?_;exact hKL6 a s ⟨(i3+4),L.kk,h⟩
         ·refine rA 1 L fun a s L=>?_;subst h;exact wp_ret (zeh J L J)
 ·refine wp_exit ?_;exact J2 a s (L.kk) h
theorem zde {cv_:Int} {r_:Int} (h:zj cv_ r_):Fn Tryd.prog 50 [(Pd.rep (En.int .u8) cv_)] (Rq (Pi r_)):=by
 unfold zj at h;refine zbe Tryd.func50 J Tryd.ntmps50 (by rfl) (by simp) fun s0 a L=>?_;refine rA 1 L fun a s L=>?_;refine rs (sv (zu (o_s (by decide)) J J) L fun a s L=>?_);refine es (rA 2 L fun a s L=>?_);refine wp_seq_k fun K1 H1=>rA 1 L fun a s L=>?_;refine wp_block ?_;have J2:∀(a:Act) (s:St),Has N0 22 s0 a s []→((zj.j1 r_))→K1 a s.w:=by
  intro a s L h;unfold zj.j1 at h;show K1 a s.w;refine H1 _ _ (rA 1 L fun a s L=>?_);subst h;exact wp_ret (zeh J L J)
 obtain ⟨k4,h⟩:=h;refine lpn (fun k5 a s=>∃(i3:Int),Has N0 22 s0 a s [(0,(Pd.rep (En.int .u8) cv_)),(3,(Pd.rep En.str ([40,41,124,42,98,119]:Str))),(4,(Pd.rep (En.slice (En.int .i64)) [3,4,5,6,8,9])),(5,(Pi i3))]∧zj.l1 cv_ r_ (zj.j1 r_) k5 i3) k4 ⟨0,L.kk,h⟩ ?_;rintro k5 a s ⟨i3,L,h⟩ KL6 hKL6;unfold zj.l1 at h;refine wp_seq_k fun K7 H7=>?_;obtain ⟨b8,h9,h⟩:=h;refine ra 4 (p1 h9) L fun a s L=>?_;refine cn L h (fun h=>?_) fun h=>?_
 ·refine wp_skip (H7 _ _ ?_);refine wp_seq_k fun K10 H10=>wp_block ?_;obtain ⟨c11,h12,h⟩:=h;refine ra 5 (p1 h12) L fun a s L=>?_;refine cn L h (fun h=>?_) fun h=>?_
  ·obtain ⟨e13,h14,h⟩:=h;refine ra 5 (p1 h14) L fun a s L=>?_;subst h;exact wp_ret (zeh J L J)
  ·refine wp_skip (H10 _ _ ?_);obtain ⟨h15,h⟩:=h;refine rg (sA 3 L fun a s L=>?_);refine en' ?_;exact hKL6 a s ⟨(i3+1),L.kk,h⟩
 ·refine wp_exit ?_;exact J2 a s (L.kk) h
theorem zc7 {s_:Str} {i_:Int} {cv_:Int} {r_:Int} (h:zy s_ i_ cv_ r_):Fn Tryd.prog 51 [(Pd.rep En.str s_),(Pi i_),(Pd.rep (En.int .u8) cv_)] (Rq (Pi r_)):=by
 unfold zy at h;refine zbe Tryd.func51 J Tryd.ntmps51 (by rfl) (by simp) fun s0 a L=>?_;refine rA 1 L fun a s L=>?_;refine wp_seq_k fun K1 H1=>?_;obtain ⟨h2,h⟩:=h;refine rA 3 L fun a s L=>?_;refine wp_block ?_;have J3:∀(a:Act) (s:St),Has N0 22 s0 a s []→((zy.j1 r_))→K1 a s.w:=by
  intro a s L h;unfold zy.j1 at h;show K1 a s.w;refine H1 _ _ (rA 1 L fun a s L=>?_);subst h;exact wp_ret (zeh J L J)
 obtain ⟨k5,h⟩:=h;refine lpn (fun k6 a s=>∃(k4:Int),Has N0 22 s0 a s [(0,(Pd.rep En.str s_)),(2,(Pd.rep (En.int .u8) cv_)),(7,(Pi k4))]∧zy.l1 s_ cv_ r_ (zy.j1 r_) k6 k4) k5 ⟨(i_+1),L.kk,h⟩ ?_;rintro k6 a s ⟨k4,L,h⟩ KL7 hKL7;unfold zy.l1 at h;refine wp_seq_k fun K8 H8=>rA 4 L fun a s L=>?_;refine cn L h (fun h=>?_) fun h=>?_
 ·refine wp_skip (H8 _ _ ?_);refine wp_seq_k fun K9 H9=>wp_block ?_;obtain ⟨c10,h11,h⟩:=h;refine ra 5 (p1 h11) L fun a s L=>?_;refine cn L h (fun h=>?_) fun h=>?_
  ·refine rA 2 L fun a s L=>?_;subst h;exact wp_ret (zeh J L J)
  ·refine wp_skip (H9 _ _ ?_);obtain ⟨h12,h⟩:=h;refine rg (sA 3 L fun a s L=>?_);refine en' ?_;exact hKL7 a s ⟨(k4+1),L.kk,h⟩
 ·refine wp_exit ?_;exact J3 a s (L.kk) h
theorem zb0 {cv_:Int} {r_:Int} (h:zbr cv_ r_):Fn Tryd.prog 65 [(Pd.rep (En.int .u8) cv_)] (Rq (Pi r_)):=by
 unfold zbr at h;refine zbe Tryd.func65 J Tryd.ntmps65 (by rfl) (by simp) fun s0 a L=>?_;refine rA 1 L fun a s L=>?_;refine wp_seq_k fun K1 H1=>rA 6 L fun a s L=>?_;refine cn L h (fun h=>?_) fun h=>?_
 ·obtain ⟨h2,h⟩:=h;refine rA 4 L fun a s L=>?_;subst h;exact wp_ret (zeh J L J)
 ·refine wp_skip (H1 _ _ ?_);refine wp_seq_k fun K3 H3=>rA 6 L fun a s L=>?_;refine cn L h (fun h=>?_) fun h=>?_
  ·obtain ⟨h4,h⟩:=h;refine rA 4 L fun a s L=>?_;subst h;exact wp_ret (zeh J L J)
  ·refine wp_skip (H3 _ _ ?_);refine rA 1 L fun a s L=>?_;subst h;exact wp_ret (zeh J L J)
theorem zdm {s_:Str} {i_:Int} {r_:Int} (h:zcq s_ i_ r_):Fn Tryd.prog 58 [(Pd.rep En.str s_),(Pi i_)] (Rq (Pi r_)):=by
 unfold zcq at h;refine zbe Tryd.func58 J Tryd.ntmps58 (by rfl) (by simp) fun s0 a L=>?_;refine rA 1 L fun a s L=>?_;refine wp_seq_k fun K1 H1=>?_;obtain ⟨h2,c3,h4,r5,h6,b7,h8,h9,c10,h11,r12,h13,h⟩:=h;refine ra 20 (pp h4 (pp (fun hc_=>(zb0 (h6 hc_))) (pp h8 (pp h11 (pp (fun hc_=>(zb0 (h13 hc_))) trivial))))) L fun a s L=>?_;refine cn L h (fun h=>?_) fun h=>?_
 ·refine rA 1 L fun a s L=>?_;subst h;exact wp_ret (zeh J L J)
 ·refine wp_skip (H1 _ _ ?_);obtain ⟨c14,h15,r16,h17,h18,h19,c20,h21,r22,h23,h24,h⟩:=h;refine wp_seq (rdx 11 (pp h15 (pp (zb0 h17) (pp h21 (p1 (zb0 h23))))) L fun a s L=>?_);refine sA 1 L fun a s L=>?_;refine es ?_;subst h;exact wp_ret (zeh J L J)
theorem ze7 {s_:Str} {r_:(Cl × Bool)} (h:zb s_ r_):Fn Tryd.prog 52 [(Pd.rep En.str s_)] (Rq2 (Pd.rep En.cls r_.1) (Pd.rep En.bool r_.2)):=by
 unfold zb at h;refine zbe Tryd.func52 J Tryd.ntmps52 (by rfl) (by simp) fun s0 a L=>?_;refine rs (zw En.cls (z:=(0#256)) 2 L ze6 J J J J fun a s g1 hg_ L=>?_);refine sA 1 L fun a s L=>?_;refine es (rA 1 L fun a s L=>?_);refine rA 1 L fun a s L=>?_;refine wp_seq_k fun K2 H2=>?_;obtain ⟨c3,h4,h⟩:=h;refine ra 8 (p1 h4) L fun a s L=>?_;have J7:∀(i5:Int) (not6:Bool) (a:Act) (s:St),Has N0 80 s0 a s [(0,(Pd.rep En.str s_)),(2,(Pd.box En.cls s0.w.heap.size g1 (0#256))),(4,(Pi i5)),(5,(Pd.rep En.bool not6))]→((zb.j3 s_ r_) i5 not6)→K2 a s.w:=by
  intro i5 not6 a s L h;unfold zb.j3 at h;show K2 a s.w;refine H2 _ _ (rs ?_);have lt_d9:=L.blt 2 rfl;refine zw En.cls (z:=(0#256)) 6 L ze6 J J J J fun a s g8 hg_ L=>?_;have d9:=Dis.newg hg_ lt_d9;refine es (wp_seq_k fun K10 H10=>?_);refine wp_block ?_;have J13:∀(v11:Cl) (a12:Cl) (a:Act) (s:St),Has N0 80 s0 a s [(2,(Pd.box En.cls s0.w.heap.size g1 v11)),(5,(Pd.rep En.bool not6)),(6,(Pd.box En.cls s0.w.heap.size g8 a12))]→Dis (some g1) (some g8)→((zb.j1 r_ not6) v11 a12)→K10 a s.w:=by
   intro v11 a12 a s L d14 h;unfold zb.j1 at h;show K10 a s.w;refine H10 _ _ (wp_seq_k fun K15 H15=>?_);refine rA 1 L fun a s L=>?_;refine cn L h (fun h=>?_) fun h=>?_
   ·obtain ⟨r16,h17,h⟩:=h;refine rg (sl 2 (p1 (ref01_Not_ok h17)) L fun a s L=>?_);refine sB 6 L fun s L=>?_;refine en' (H15 _ _ ?_);refine rs (sA 1 L fun a s L=>?_);refine sB 2 L fun s L=>?_;refine sA 1 L fun a s L=>?_;refine es ?_;subst h;exact wp_ret (ret2b J ty27 L J J)
   ·refine wp_skip (H15 _ _ ?_);refine rs (sA 1 L fun a s L=>?_);refine sB 2 L fun s L=>?_;refine sA 1 L fun a s L=>?_;refine es ?_;subst h;exact wp_ret (ret2b J ty27 L J J)
  obtain ⟨k21,h⟩:=h;refine lpn (fun k22 a s=>∃(v18:Cl) (i19:Int) (a20:Cl),Has N0 80 s0 a s [(0,(Pd.rep En.str s_)),(2,(Pd.box En.cls s0.w.heap.size g1 v18)),(4,(Pi i19)),(5,(Pd.rep En.bool not6)),(6,(Pd.box En.cls s0.w.heap.size g8 a20))]∧Dis (some g1) (some g8)∧zb.l1 s_ r_ (zb.j1 r_ not6) k22 v18 i19 a20) k21 ⟨(0#256),i5,(0#256),L.kk,(Dis.symm d9),h⟩ ?_;rintro k22 a s ⟨v18,i19,a20,L,d24,h⟩ KL23 hKL23;unfold zb.l1 at h;refine wp_seq_k fun K25 H25=>rA 4 L fun a s L=>?_;refine cn L h (fun h=>?_) fun h=>?_
  ·refine wp_skip (H25 _ _ ?_);refine wp_block ?_;obtain ⟨r26,h27,h⟩:=h;refine ra 4 (p1 (zdm h27)) L fun a s L=>?_;refine rA 2 L fun a s L=>?_;obtain ⟨h28,h⟩:=h;refine rA 3 L fun a s L=>?_;refine wp_seq_k fun K29 H29=>?_;obtain ⟨c30,h31,b32,h33,h⟩:=h;refine ra 10 (pp h31 (p1 h33)) L fun a s L=>?_;have J36:∀(i34:Int) (to35:Int) (a:Act) (s:St),Has N0 80 s0 a s [(0,(Pd.rep En.str s_)),(2,(Pd.box En.cls s0.w.heap.size g1 v18)),(4,(Pi i34)),(5,(Pd.rep En.bool not6)),(6,(Pd.box En.cls s0.w.heap.size g8 a20)),(7,(Pi r26)),(8,(Pi to35))]→Dis (some g1) (some g8)→((zb.j2 (zb.l1 s_ r_ (zb.j1 r_ not6) k22) s_ r_ v18 a20 r26) i34 to35)→K29 a s.w:=by
    intro i34 to35 a s L d37 h;unfold zb.j2 at h;show K29 a s.w;refine H29 _ _ (wp_seq_k fun K38 H38=>?_);refine rA 7 L fun a s L=>?_;refine cn L h (fun h=>?_) fun h=>?_
    ·refine rs ?_;refine sA 1 L fun a s L=>?_;refine sB 2 L fun s L=>?_;refine sA 1 L fun a s L=>?_;refine es ?_;subst h;exact wp_ret (ret2b J ty27 L J J)
    ·refine wp_skip (H38 _ _ ?_);obtain ⟨r39,h40,r41,h42,h⟩:=h;refine wp_seq (rdx 7 (pp (zb2 h40) (p1 (zfq h42))) L fun a s L=>?_);refine sB 6 L fun s L=>?_;refine es (rA 4 L fun a s L=>?_);refine cn L h (fun h=>?_) fun h=>?_
     ·refine wp_seq_k fun K43 H43=>?_;obtain ⟨c44,h45,h46,h⟩:=h;refine ra 11 (p1 h45) L fun a s L=>?_;refine cn L h (fun h=>?_) fun h=>?_
      ·refine rs ?_;refine sA 1 L fun a s L=>?_;refine sB 2 L fun s L=>?_;refine sA 1 L fun a s L=>?_;refine es ?_;subst h;exact wp_ret (ret2b J ty27 L J J)
      ·refine wp_skip (H43 _ _ ?_);obtain ⟨h47,h⟩:=h;refine rg (sA 3 L fun a s L=>?_);refine en' ?_;exact hKL23 a s ⟨v18,(i34+1),r41,L.kk,d37,h⟩
     ·refine wp_skip ?_;exact hKL23 a s ⟨v18,i34,r41,L.kk,d37,h⟩
   refine cn L h (fun h=>?_) fun h=>?_
   ·obtain ⟨h48,r49,h50,h⟩:=h;refine ra 5 (p1 (zdm h50)) L fun a s L=>?_;obtain ⟨h51,h⟩:=h;refine rg (sA 3 L fun a s L=>?_);refine en' ?_;exact J36 ((i19+2)+3) r49 a s (L.kk) d24 h
   ·refine wp_skip ?_;exact J36 (i19+2) r26 a s (L.kk) d24 h
  ·refine wp_exit ?_;exact J13 v18 a20 a s (L.kk) d24 h
 refine cn L h (fun h=>?_) fun h=>?_
 ·refine rA 1 L fun a s L=>?_;refine rg (sA 1 L fun a s L=>?_);refine en' ?_;exact J7 1 true a s (L.kk) h
 ·refine wp_skip ?_;exact J7 0 false a s (L.kk) h
theorem zc6 {s_:Str} {i_:Int} {r_:(Int × Int)} (h:zo s_ i_ r_):Fn Tryd.prog 54 [(Pd.rep En.str s_),(Pi i_)] (Rq2 (Pi r_.1) (Pi r_.2)):=by
 unfold zo at h;refine zbe Tryd.func54 J Tryd.ntmps54 (by rfl) (by simp) fun s0 a L=>?_;refine rA 2 L fun a s L=>?_;refine rA 1 L fun a s L=>?_;refine rA 2 L fun a s L=>?_;refine wp_seq_k fun K1 H1=>wp_block ?_;have J4:∀(n2:Int) (k3:Int) (a:Act) (s:St),Has N0 54 s0 a s [(0,(Pd.rep En.str s_)),(1,(Pi i_)),(6,(Pi n2)),(7,(Pi k3))]→((zo.j1 s_ i_ r_) n2 k3)→K1 a s.w:=by
  intro n2 k3 a s L h;unfold zo.j1 at h;show K1 a s.w;refine H1 _ _ (wp_seq_k fun K5 H5=>?_);obtain ⟨h6,c7,h8,b9,h10,h⟩:=h;refine ra 15 (pp h8 (p1 h10)) L fun a s L=>?_;refine cn L h (fun h=>?_) fun h=>?_
  ·refine rA 3 L fun a s L=>?_;subst h;exact wp_ret (ret2 J L J J)
  ·refine wp_skip (H5 _ _ ?_);refine rA 4 L fun a s L=>?_;subst h;exact wp_ret (ret2 J L J J)
 obtain ⟨k13,h⟩:=h;refine lpn (fun k14 a s=>∃(n11:Int) (k12:Int),Has N0 54 s0 a s [(0,(Pd.rep En.str s_)),(1,(Pi i_)),(6,(Pi n11)),(7,(Pi k12))]∧zo.l1 s_ (zo.j1 s_ i_ r_) k14 n11 k12) k13 ⟨0,i_,L.kk,h⟩ ?_;rintro k14 a s ⟨n11,k12,L,h⟩ KL15 hKL15;unfold zo.l1 at h;refine wp_seq_k fun K16 H16=>?_;obtain ⟨c17,h18,b19,h20,c21,h22,h⟩:=h;refine ra 16 (pp h18 (pp h20 (p1 h22))) L fun a s L=>?_;refine cn L h (fun h=>?_) fun h=>?_
 ·refine wp_skip (H16 _ _ ?_);refine wp_block ?_;obtain ⟨h23,c24,h25,h26,h27,h⟩:=h;refine ra 10 (p1 h25) L fun a s L=>?_;obtain ⟨h28,h⟩:=h;refine rg (sA 3 L fun a s L=>?_);refine en' ?_;exact hKL15 a s ⟨(min 256 (((10*n11)+c24)-48)),(k12+1),L.kk,h⟩
 ·refine wp_exit ?_;exact J4 n11 k12 a s (L.kk) h
theorem ref03_one_ok {s_:Str} {i_:Int} {r_:(SToken × Int × Int)} (h:zdn s_ i_ r_):Fn Tryd.prog 28 [(Pd.rep En.str s_),(Pi i_)] (Rq3 (Pd.rep En.SToken r_.1) (Pi r_.2.1) (Pi r_.2.2)):=by
 unfold zdn at h;refine zbe Tryd.func28 J Tryd.ntmps28 (by rfl) (by simp) fun s0 a L=>?_;refine rs (zw En.SToken (z:=(0,0,(0#256),([]:Str),0,0)) 4 L tyz38 J J J J fun a s g1 hg_ L=>?_);refine sA 2 L fun a s L=>?_;refine es (rs ?_);refine sA 1 L fun a s L=>?_;refine sv (zc3 (x:=(0,i_,(0#256),([]:Str),0,0)) (ps:=[(1,.tmp 17)]) tyz38 J stt38 (.cons (i:=1) op J (zk (zbb (zq _ _ _)) J) .nil) J J) L fun a s L=>?_;have lt_d3:=L.blt 4 rfl;refine zw En.SToken (z:=(0,0,(0#256),([]:Str),0,0)) 7 L tyz38 J J J J fun a s g2 hg_ L=>?_;have d3:=Dis.newg hg_ lt_d3;refine sB 7 L fun s L=>?_;refine es (wp_seq_k fun K4 H4=>?_);obtain ⟨c5,h6,r7,h8,h⟩:=h;refine ra 5 (pp h6 (p1 (zde h8))) L fun a s L=>?_;refine cn L h (fun h=>?_) fun h=>?_
 ·obtain ⟨c9,h10,r11,h12,h⟩:=h;refine rs (sl 5 (pp h10 (p1 (zde h12))) L fun a s L=>?_);refine zbt 7 L J op op (zbb (zq _ _ _)) Tq.h J J J ka fun s L=>?_;refine es ?_;obtain ⟨h13,h⟩:=h;refine rs (sA 3 L fun a s L=>?_);refine sB 4 L fun s L=>?_;refine sA 2 L fun a s L=>?_;refine es ?_;subst h;exact wp_ret (zdz J ty38 L J J J)
 ·refine wp_skip (H4 _ _ ?_);refine wp_seq_k fun K14 H14=>?_;obtain ⟨c15,h16,h⟩:=h;refine ra 3 (p1 h16) L fun a s L=>?_;refine wp_block (rA 2 L fun a s L=>?_);refine cn L h (fun h=>?_) fun h=>?_
  ·refine rs ?_;refine sA 1 L fun a s L=>?_;refine zbt 7 L J op op (zbb (zq _ _ _)) Tq.h J J J ka fun s L=>?_;refine es ?_;obtain ⟨r17,h18,h⟩:=h;refine rs (sl 2 (p1 (zb2 h18)) L fun a s L=>?_);refine zbt 7 L J op op (zk (zk (zbb (zq _ _ _)) J) J) Tq.h J J J ka fun s L=>?_;refine es ?_;obtain ⟨h19,h⟩:=h;refine rs (sA 3 L fun a s L=>?_);refine sB 4 L fun s L=>?_;refine sA 2 L fun a s L=>?_;refine es ?_;subst h;exact wp_ret (zdz J ty38 L J J J)
  ·refine rA 2 L fun a s L=>?_;refine cn L h (fun h=>?_) fun h=>?_
   ·obtain ⟨r20,h21,h⟩:=h;refine ra 4 (p1 (zc7 h21)) L fun a s L=>?_;refine wp_seq_k fun K22 H22=>rA 2 L fun a s L=>?_;refine cn L h (fun h=>?_) fun h=>?_
    ·refine rs ?_;refine sA 1 L fun a s L=>?_;refine sB 4 L fun s L=>?_;refine sA 2 L fun a s L=>?_;refine es ?_;subst h;exact wp_ret (zdz J ty38 L J J J)
    ·refine wp_skip (H22 _ _ ?_);obtain ⟨h23,h24,r25,h26,h⟩:=h;refine rs (sA 4 L fun a s L=>?_);refine sv (zek op op op h24 Ud.h J J) L fun a s L=>?_;refine sl 4 (p1 ((ze7 h26).tup)) L fun a s L=>?_;have lt_d29:=L.blt 7 rfl;have lt_d28:=L.blt 4 rfl;refine zw En.cls (z:=(0#256)) 9 L ze6 J J J J fun a s g27 hg_ L=>?_;have d28:=Dis.newg hg_ lt_d28;have d29:=Dis.newg hg_ lt_d29;refine sB 9 L fun s L=>?_;refine sA 1 L fun a s L=>?_;refine es (wp_seq_k fun K30 H30=>?_);refine rA 2 L fun a s L=>?_;refine cn L h (fun h=>?_) fun h=>?_
     ·refine rs ?_;refine sA 1 L fun a s L=>?_;refine sB 4 L fun s L=>?_;refine sA 2 L fun a s L=>?_;refine es ?_;subst h;exact wp_ret (zdz J ty38 L J J J)
     ·refine wp_skip (H30 _ _ ?_);refine rs (sA 1 L fun a s L=>?_);refine zbt 7 L J op op (zbb (zq _ _ _)) Tq.h J J J ka fun s L=>?_;refine es (rs ?_);refine sA 2 L fun a s L=>?_;refine zbt 7 L J op op (zk (zk (zbb (zq _ _ _)) J) J) Tq.h J J J ka fun s L=>?_;refine es ?_;obtain ⟨h31,h⟩:=h;refine rs (sA 3 L fun a s L=>?_);replace L:=L.dr (some g27);refine sB 4 L fun s L=>?_;refine sA 2 L fun a s L=>?_;refine es ?_;subst h;exact wp_ret (zdz J ty38 L J J J)
   ·refine rA 2 L fun a s L=>?_;refine cn L h (fun h=>?_) fun h=>?_
    ·obtain ⟨r32,h33,h⟩:=h;refine ra 4 (p1 (zc7 h33)) L fun a s L=>?_;refine wp_seq_k fun K34 H34=>?_;obtain ⟨h35,h36,h37,r38,h39,b40,h41,h⟩:=h;refine rs (sA 13 L fun a s L=>?_);refine sv (zdj J J J (fun hc_=>zek (opc hc_) (opc hc_) (opc hc_) (h37 hc_) Ud.h J J)) L fun a s L=>?_;refine sl 3 (pp (fun hc_=>(zfo (h39 hc_))) (p1 h41)) L fun a s L=>?_;refine es (cn L h (fun h=>?_) fun h=>?_)
     ·refine rs ?_;refine sA 1 L fun a s L=>?_;refine sB 4 L fun s L=>?_;refine sA 2 L fun a s L=>?_;refine es ?_;subst h;exact wp_ret (zdz J ty38 L J J J)
     ·refine wp_skip (H34 _ _ ?_);refine rs (sA 1 L fun a s L=>?_);refine zbt 7 L J op op (zbb (zq _ _ _)) Tq.h J J J ka fun s L=>?_;refine es ?_;obtain ⟨h42,h43,h⟩:=h;refine rs (sA 4 L fun a s L=>?_);refine sv (zek op op op h43 Ud.h J J) L fun a s L=>?_;refine sA 1 L fun a s L=>?_;refine zbt 7 L J op op (zk (zk (zk (zbb (zq _ _ _)) J) J) J) Tq.h J J J ka fun s L=>?_;refine es ?_;obtain ⟨h44,h⟩:=h;refine rs (sA 3 L fun a s L=>?_);refine sB 4 L fun s L=>?_;refine sA 2 L fun a s L=>?_;refine es ?_;subst h;exact wp_ret (zdz J ty38 L J J J)
    ·refine rA 2 L fun a s L=>?_;refine cn L h (fun h=>?_) fun h=>?_
     ·obtain ⟨r45,h46,h⟩:=h;refine ra 4 (p1 (zc7 h46)) L fun a s L=>?_;refine wp_seq_k fun K47 H47=>rA 2 L fun a s L=>?_;refine cn L h (fun h=>?_) fun h=>?_
      ·refine rs ?_;refine sA 1 L fun a s L=>?_;refine sB 4 L fun s L=>?_;refine sA 2 L fun a s L=>?_;refine es ?_;subst h;exact wp_ret (zdz J ty38 L J J J)
      ·refine wp_skip (H47 _ _ ?_);obtain ⟨h48,h49,r50,h51,h⟩:=h;refine rs (sA 2 L fun a s L=>?_);refine sv (t_supto op op h48 Ud.h J J) L fun a s L=>?_;refine sl 8 (p1 ((zc6 h51).tup)) L fun a s L=>?_;refine es (wp_seq_k fun K52 H52=>?_);obtain ⟨c53,h54,b55,h56,h⟩:=h;refine ra 13 (pp h54 (p1 h56)) L fun a s L=>?_;refine cn L h (fun h=>?_) fun h=>?_
       ·refine rs ?_;refine sA 1 L fun a s L=>?_;refine sB 4 L fun s L=>?_;refine sA 2 L fun a s L=>?_;refine es ?_;subst h;exact wp_ret (zdz J ty38 L J J J)
       ·refine wp_skip (H52 _ _ ?_);obtain ⟨h57,h58,r59,h60,h⟩:=h;refine rs (sA 2 L fun a s L=>?_);refine sv (t_supto op op h57 Ud.h J J) L fun a s L=>?_;refine sl 8 (p1 ((zc6 h60).tup)) L fun a s L=>?_;refine es (wp_seq_k fun K61 H61=>?_);refine rA 7 L fun a s L=>?_;refine cn L h (fun h=>?_) fun h=>?_
        ·refine rs ?_;refine sA 1 L fun a s L=>?_;refine sB 4 L fun s L=>?_;refine sA 2 L fun a s L=>?_;refine es ?_;subst h;exact wp_ret (zdz J ty38 L J J J)
        ·refine wp_skip (H61 _ _ ?_);refine wp_seq_k fun K62 H62=>?_;obtain ⟨b63,h64,h⟩:=h;refine ra 7 (p1 h64) L fun a s L=>?_;refine cn L h (fun h=>?_) fun h=>?_
         ·refine rs ?_;refine sA 1 L fun a s L=>?_;refine sB 4 L fun s L=>?_;refine sA 2 L fun a s L=>?_;refine es ?_;subst h;exact wp_ret (zdz J ty38 L J J J)
         ·refine wp_skip (H62 _ _ ?_);refine rs (sA 1 L fun a s L=>?_);refine zbt 7 L J op op (zbb (zq _ _ _)) Tq.h J J J ka fun s L=>?_;refine es (rs ?_);refine sA 2 L fun a s L=>?_;refine zbt 7 L J op op (zk (zk (zk (zk (zbb (zq _ _ _)) J) J) J) J) Tq.h J J J ka fun s L=>?_;refine es (rs ?_);refine sA 2 L fun a s L=>?_;refine zbt 7 L J op op (zk (zk (zk (zk (zk (zq _ _ _) J) J) J) J) J) Tq.h J J J ka fun s L=>?_;refine es ?_;obtain ⟨h65,h⟩:=h;refine rs (sA 3 L fun a s L=>?_);refine sB 4 L fun s L=>?_;refine sA 2 L fun a s L=>?_;refine es ?_;subst h;exact wp_ret (zdz J ty38 L J J J)
     ·refine wp_skip (H14 _ _ ?_);refine rs (sA 1 L fun a s L=>?_);refine sB 4 L fun s L=>?_;refine sA 2 L fun a s L=>?_;refine es ?_;subst h;exact wp_ret (zdz J ty38 L J J J)
theorem zfp {s_:Str} {r_:((List SToken) × Int × Int)} (h:zt s_ r_):Fn Tryd.prog 15 [(Pd.rep En.str s_)] (Rq3 (Pd.rep (En.slice En.SToken) r_.1) (Pi r_.2.1) (Pi r_.2.2)):=by
 unfold zt at h;refine zbe Tryd.func15 J Tryd.ntmps15 (by rfl) (by simp) fun s0 a L=>?_;refine rs (snr En.SToken L fun a s L=>?_);refine sA 2 L fun a s L=>?_;refine es (rs ?_);refine sno En.SToken 38 L fun a s L=>?_;refine es (rA 1 L fun a s L=>?_);refine wp_seq_k fun K1 H1=>wp_block ?_;have J4:∀(out2:(List SToken)) (og3:Option Nat) (a:Act) (s:St),Has N0 42 s0 a s [(0,(Pd.rep En.str s_)),(5,(Pd.row En.SToken s0.w.heap.size 38 og3 out2))]→((zt.j1 s_ r_) out2)→K1 a s.w:=by
  intro out2 og3 a s L h;unfold zt.j1 at h;show K1 a s.w;refine H1 _ _ ?_;obtain ⟨h5,h⟩:=h;refine rs (sA 3 L fun a s L=>?_);refine sv (zc3 (x:=(10,(s_.length:Int),(0#256),([]:Str),0,0)) (ps:=[(0,.const (.int .i64 10)),(1,.tmp 38)]) tyz38 J stt38 (.cons (i:=0) op J (zbb (zq _ _ _)) (.cons (i:=1) op J (zk (zbb (zq _ _ _)) J) .nil)) J J) L fun a s L=>?_;refine sA 1 L fun a s L=>?_;refine zd7 41 L op op Ud.h Tq.h h5 J J J J ka fun a s og6 hg_ L=>?_;refine sA 3 L fun a s L=>?_;refine es (fzc 2 L fun s L=>?_);subst h;exact wp_ret (ret3 J L J J J)
 obtain ⟨k10,h⟩:=h;refine lpn (fun k11 a s=>∃(out7:(List SToken)) (i9:Int) (og8:Option Nat),Has N0 42 s0 a s [(0,(Pd.rep En.str s_)),(5,(Pd.row En.SToken s0.w.heap.size 38 og8 out7)),(6,(Pi i9))]∧zt.l1 s_ r_ (zt.j1 s_ r_) k11 out7 i9) k10 ⟨([]:(List SToken)),0,none,L.kk,h⟩ ?_;rintro k11 a s ⟨out7,i9,og8,L,h⟩ KL12 hKL12;unfold zt.l1 at h;refine wp_seq_k fun K13 H13=>rA 4 L fun a s L=>?_;refine cn L h (fun h=>?_) fun h=>?_
 ·refine wp_skip (H13 _ _ ?_);refine wp_block (wp_seq_k fun K14 H14=>?_);obtain ⟨c15,h16,h⟩:=h;refine ra 4 (p1 h16) L fun a s L=>?_;refine cn L h (fun h=>?_) fun h=>?_
  ·obtain ⟨h17,h⟩:=h;refine rA 3 L fun a s L=>?_;refine wp_exit ?_;exact hKL12 a s ⟨out7,(i9+1),og8,L.kk,h⟩
  ·refine wp_skip (H14 _ _ ?_);obtain ⟨r18,h19,h⟩:=h;refine rs (sl 4 (p1 ((ref03_one_ok h19).tup3)) L fun a s L=>?_);refine sv (t_ext3_0 op J J) L fun a s L=>?_;refine sv (t_ext3_1 op J J) L fun a s L=>?_;refine sv (t_ext3_2 op J J) L fun a s L=>?_;have lt_d21:=L.rlt 5 rfl;refine zw En.SToken (z:=(0,0,(0#256),([]:Str),0,0)) 7 L tyz38 J J J J fun a s g20 hg_ L=>?_;have d21:=Dis.newg hg_ lt_d21;refine sB 7 L fun s L=>?_;refine sA 2 L fun a s L=>?_;refine es (wp_seq_k fun K22 H22=>?_);refine rA 2 L fun a s L=>?_;refine cn L h (fun h=>?_) fun h=>?_
   ·refine rs ?_;refine sA 2 L fun a s L=>?_;refine snr En.SToken L fun a s L=>?_;refine sA 2 L fun a s L=>?_;refine es ?_;subst h;exact wp_ret (ret3 J L J J J)
   ·refine wp_skip (H22 _ _ ?_);obtain ⟨h23,h⟩:=h;refine rs (sA 3 L fun a s L=>?_);refine zd7 34 L op op Ud.h Tq.h h23 J J J J ka fun a s og24 hg_ L=>?_;refine sA 1 L fun a s L=>?_;refine es (rg ?_);refine sA 2 L fun a s L=>?_;refine en' ?_;exact hKL12 a s ⟨(out7++[r18.1]),r18.2.1,og24,L.kk,h⟩
 ·refine wp_exit ?_;exact J4 out7 og8 a s (L.kk) h
def zd.j1 (r_:(List SNode)) (out2:(List SNode)):Prop:=r_=out2
def zd.j2 (L1_:(List SNode)→Int→Prop) (out5:(List SNode)) (i7:Int) (n22:SNode):Prop:=(out5.length+[n22].length≤2147483648)∧(InR .i64 (i7+1))∧L1_ (out5++[n22]) (i7+1)
def zd.j3 (L1_:(List SNode)→Int→Prop) (by_:Int) (out5:(List SNode)) (i7:Int) (n18:SNode):Prop:=((((n18.1==4)||(n18.1==5)))=true→(InR .i64 (n18.2.2.1+by_))∧(zd.j2 (L1_) out5 i7) (n18.1,n18.2.1,n18.2.2.1+by_,n18.2.2.2.1,n18.2.2.2.2.1,n18.2.2.2.2.2.1,n18.2.2.2.2.2.2))∧((((n18.1==4)||(n18.1==5)))=false→(zd.j2 (L1_) out5 i7) n18)
def zd.l1 (l_:(List SNode)) (by_:Int) (X1:(List SNode)→Prop):Nat→(List SNode)→Int→Prop
 | 0,_,_=>False
 | k_0+1,out5,i7=>((decide (i7<(l_.length:Int)))=true→∃e13:SNode,at? l_ i7=some e13∧((decide (4≤e13.1))=true→(InR .i64 (e13.2.1+by_))∧(zd.j3 (zd.l1 l_ by_ X1 k_0) by_ out5 i7) (e13.1,e13.2.1+by_,e13.2.2.1,e13.2.2.2.1,e13.2.2.2.2.1,e13.2.2.2.2.2.1,e13.2.2.2.2.2.2))∧((decide (4≤e13.1))=false→(zd.j3 (zd.l1 l_ by_ X1 k_0) by_ out5 i7) e13))∧((decide (i7<(l_.length:Int)))=false→X1 out5)
def zd (l_:(List SNode)) (by_:Int) (r_:(List SNode)):Prop:=∃k8,zd.l1 l_ by_ (zd.j1 r_) k8 ([]:(List SNode)) 0
def zda (kind_:Int) (a_:SDesc) (b_:SDesc) (r_:SDesc):Prop:=∃r4:(List SNode),zd a_ 0 r4∧∃r6:(List SNode),zd b_ (a_.length:Int) r6∧(r4.length+r6.length≤2147483648)∧(InR .i64 ((a_.length:Int)-1))∧(InR .i64 ((a_.length:Int)+(b_.length:Int)))∧(InR .i64 (((a_.length:Int)+(b_.length:Int))-1))∧((r4++r6).length+[(kind_,(a_.length:Int)-1,((a_.length:Int)+(b_.length:Int))-1,0,0,(0#256),([]:Str))].length≤2147483648)∧r_=(r4++r6)++[(kind_,(a_.length:Int)-1,((a_.length:Int)+(b_.length:Int))-1,0,0,(0#256),([]:Str))]
def zcp (kind_:Int) (lo_:Int) (hi_:Int) (a_:SDesc) (r_:SDesc):Prop:=∃r4:(List SNode),zd a_ 0 r4∧(InR .i64 ((a_.length:Int)-1))∧(r4.length+[(kind_,(a_.length:Int)-1,0,lo_,hi_,(0#256),([]:Str))].length≤2147483648)∧r_=r4++[(kind_,(a_.length:Int)-1,0,lo_,hi_,(0#256),([]:Str))]
set_option maxRecDepth 100000
set_option maxHeartbeats 2000000
set_option synthInstance.maxSize 100000
set_option synthInstance.maxHeartbeats 200000
theorem zco {l_:(List SNode)} {by_:Int} {r_:(List SNode)} (h:zd l_ by_ r_):Fn Tryd.prog 30 [(Pd.rep (En.slice En.SNode) l_),(Pi by_)] (Ro En.SNode 43 r_):=by
 unfold zd at h;refine zbe Tryd.func30 J Tryd.ntmps30 (by rfl) (by simp) fun s0 a L=>?_;refine rs (sno En.SNode 43 L fun a s L=>?_);refine es (rs ?_);refine sno En.SNode 43 L fun a s L=>?_;refine es (wp_seq_k fun K1 H1=>?_);refine rA 1 L fun a s L=>?_;refine wp_block ?_;have J4:∀(out2:(List SNode)) (og3:Option Nat) (a:Act) (s:St),Has N0 44 s0 a s [(5,(Pd.row En.SNode s0.w.heap.size 43 og3 out2))]→((zd.j1 r_) out2)→K1 a s.w:=by
  intro out2 og3 a s L h;unfold zd.j1 at h;show K1 a s.w;refine H1 _ _ (rA 2 L fun a s L=>?_);subst h;exact wp_ret (reto J L J)
 obtain ⟨k8,h⟩:=h;refine lpn (fun k9 a s=>∃(out5:(List SNode)) (i7:Int) (og6:Option Nat),Has N0 44 s0 a s [(0,(Pd.rep (En.slice En.SNode) l_)),(1,(Pi by_)),(5,(Pd.row En.SNode s0.w.heap.size 43 og6 out5)),(6,(Pi i7))]∧zd.l1 l_ by_ (zd.j1 r_) k9 out5 i7) k8 ⟨([]:(List SNode)),0,none,L.kk,h⟩ ?_;rintro k9 a s ⟨out5,i7,og6,L,h⟩ KL10 hKL10;unfold zd.l1 at h;refine wp_seq_k fun K11 H11=>rA 4 L fun a s L=>?_;refine cn L h (fun h=>?_) fun h=>?_
 ·refine wp_skip (H11 _ _ ?_);refine wp_seq_k fun K12 H12=>wp_block ?_;obtain ⟨e13,h14,h⟩:=h;refine rs (sl 4 (p1 h14) L fun a s L=>?_);have lt_d16:=L.rlt 5 rfl;refine zw En.SNode (z:=(0,0,0,0,0,(0#256),([]:Str))) 7 L tyz43 J J J J fun a s g15 hg_ L=>?_;have d16:=Dis.newg hg_ lt_d16;refine sB 7 L fun s L=>?_;refine es (wp_seq_k fun K17 H17=>?_);refine rA 3 L fun a s L=>?_;have J19:∀(n18:SNode) (a:Act) (s:St),Has N0 44 s0 a s [(0,(Pd.rep (En.slice En.SNode) l_)),(1,(Pi by_)),(5,(Pd.row En.SNode s0.w.heap.size 43 og6 out5)),(6,(Pi i7)),(7,(Pd.box En.SNode s0.w.heap.size g15 n18))]→Dis og6 (some g15)→((zd.j3 (zd.l1 l_ by_ (zd.j1 r_) k9) by_ out5 i7) n18)→K17 a s.w:=by
   intro n18 a s L d20 h;unfold zd.j3 at h;show K17 a s.w;refine H17 _ _ (wp_seq_k fun K21 H21=>?_);refine rA 8 L fun a s L=>?_;have J23:∀(n22:SNode) (a:Act) (s:St),Has N0 44 s0 a s [(0,(Pd.rep (En.slice En.SNode) l_)),(1,(Pi by_)),(5,(Pd.row En.SNode s0.w.heap.size 43 og6 out5)),(6,(Pi i7)),(7,(Pd.box En.SNode s0.w.heap.size g15 n22))]→Dis og6 (some g15)→((zd.j2 (zd.l1 l_ by_ (zd.j1 r_) k9) out5 i7) n22)→K21 a s.w:=by
    intro n22 a s L d24 h;unfold zd.j2 at h;show K21 a s.w;refine H21 _ _ ?_;obtain ⟨h25,h⟩:=h;refine rg (sA 3 L fun a s L=>?_);refine zd7 42 L op op Ud.h Tq.h h25 J J J J ka fun a s og26 hg_ L=>?_;refine sA 1 L fun a s L=>?_;refine en' (H12 _ _ ?_);obtain ⟨h27,h⟩:=h;refine rg (sA 3 L fun a s L=>?_);refine en' ?_;exact hKL10 a s ⟨(out5++[n22]),(i7+1),og26,L.kk,h⟩
   refine cn L h (fun h=>?_) fun h=>?_
   ·obtain ⟨h28,h⟩:=h;refine rg (sA 5 L fun a s L=>?_);refine zbt 7 L J op op (zk (zk (zbb (zq _ _ _)) J) J) Tq.h J J J ka fun s L=>?_;refine en' ?_;exact J23 (n18.1,n18.2.1,n18.2.2.1+by_,n18.2.2.2.1,n18.2.2.2.2.1,n18.2.2.2.2.2.1,n18.2.2.2.2.2.2) a s (L.kk) d20 h
   ·refine wp_skip ?_;exact J23 n18 a s (L.kk) d20 h
  refine cn L h (fun h=>?_) fun h=>?_
  ·obtain ⟨h29,h⟩:=h;refine rg (sA 5 L fun a s L=>?_);refine zbt 7 L J op op (zk (zbb (zq _ _ _)) J) Tq.h J J J ka fun s L=>?_;refine en' ?_;exact J19 (e13.1,e13.2.1+by_,e13.2.2.1,e13.2.2.2.1,e13.2.2.2.2.1,e13.2.2.2.2.2.1,e13.2.2.2.2.2.2) a s (L.kk) (Dis.symm d16) h
  ·refine wp_skip ?_;exact J19 e13 a s (L.kk) (Dis.symm d16) h
 ·refine wp_exit ?_;exact J4 out5 og6 a s (L.kk) h
theorem zfn {kind_:Int} {a_:SDesc} {b_:SDesc} {r_:SDesc} (h:zda kind_ a_ b_ r_):Fn Tryd.prog 19 [(Pi kind_),(Pd.rep En.SDesc a_),(Pd.rep En.SDesc b_)] (Rq (Pd.rep En.SDesc r_)):=by
 unfold zda at h;refine zbe Tryd.func19 J Tryd.ntmps19 (by rfl) (by simp) fun s0 a L=>?_;refine rs (sA 2 L fun a s L=>?_);refine zw En.SDesc (z:=[]) 6 L zfk J J J J fun a s g1 hg_ L=>?_;refine es ?_;obtain ⟨r4,h5,r6,h7,h10,h⟩:=h;refine wp_seq ?_;obtain ⟨K2,H2,nK2,L⟩:=L.mark 999983;have lt3:∀k,(some g1)=some k→k<K2:=by rw [H2];exact L.blt 6 rfl
 refine rda zdi 9 [(Pd.ptr (En.slice En.SNode) a_),(Pd.rep (En.slice En.SNode) a_),(Pd.erow En.SNode s0.w.heap.size K2 43 r4),(Pd.ptr (En.slice En.SNode) b_),(Pd.rep (En.slice En.SNode) b_),(Pd.ptr (En.slice En.SNode) a_),(Pd.rep (En.slice En.SNode) a_),(Pi (a_.length:Int)),(Pd.rep (En.slice En.SNode) r6)] L (by kernel_rfl) J J ?_ ?_
 ·refine z7.cons (t_fa (off:=0) (O 4 J) Tryd.underlying24 J (zdb (zbd _ _)) J ty22 J J) ?_;refine z7.cons (zce ty22 (O 8 J) J J) ?_;refine z7.cons (t_callox (K:=K2) (m:=999983) J nK2 (zco h5) (xs:=[.tmp 9,.const (.int .i64 0)]) (.cons (O 9 J) (.cons oI .nil)) J J) ?_;refine z7.cons (t_fa (off:=0) (O 5 J) Tryd.underlying24 J (zdb (zbd _ _)) J ty22 J J) ?_;refine z7.cons (zce ty22 (O 11 J) J J) ?_;refine z7.cons (t_fa (off:=0) (O 4 J) Tryd.underlying24 J (zdb (zbd _ _)) J ty22 J J) ?_;refine z7.cons (zce ty22 (O 13 J) J J) ?_;refine z7.cons (t_len (O 14 J) Tryd.underlying22 J J) ?_;refine z7.cons (zfc ((zco h7).frz) (xs:=[.tmp 12,.tmp 15]) (.cons (O 12 J) (.cons (O 15 J) .nil)) J J) ?_;exact z7.nil
 intro a s _ L;obtain ⟨og8,hg_,L⟩:=L.openr 10 rfl;have d9:=Dis.new hg_ lt3;replace L:=L.kk (L':=[(0,(Pi kind_)),(4,(Pd.ptr En.SDesc a_)),(5,(Pd.ptr En.SDesc b_)),(6,(Pd.box En.SDesc s0.w.heap.size g1 [])),(10,(Pd.row En.SNode s0.w.heap.size 43 og8 r4)),(16,(Pd.rep (En.slice En.SNode) r6))]);refine dp ?_;have lt_og11_0:=L.blt 6 rfl;refine zd7 17 L op op Ud.h Tq.h h10 J J J J ka fun a s og11 hg_ L=>?_;have d12:=Dis.app hg_ d9 lt_og11_0;refine sA 1 L fun a s L=>?_;refine es ?_;obtain ⟨h13,h14,h15,h16,h⟩:=h;refine rs (sA 14 L fun a s L=>?_);refine sv (zc3 (x:=(kind_,(a_.length:Int)-1,((a_.length:Int)+(b_.length:Int))-1,0,0,(0#256),([]:Str))) (ps:=[(0,.tmp 19),(1,.tmp 23),(2,.tmp 31)]) tyz43 J stt43 (.cons (i:=0) op J (zbb (zq _ _ _)) (.cons (i:=1) op J (zk (zbb (zq _ _ _)) J) (.cons (i:=2) op J (zk (zk (zbb (zq _ _ _)) J) J) .nil))) J J) L fun a s L=>?_;refine sA 1 L fun a s L=>?_;have lt_og17_0:=L.blt 6 rfl;refine zd7 34 L op op Ud.h Tq.h h16 J J J J ka fun a s og17 hg_ L=>?_;have d18:=Dis.app hg_ d12 lt_og17_0;refine fzl 34 L fun s L=>?_;refine sv (zc3 (x:=(r4++r6)++[(kind_,(a_.length:Int)-1,((a_.length:Int)+(b_.length:Int))-1,0,0,(0#256),([]:Str))]) (ps:=[(0,.tmp 34)]) zfk J stt24 (.cons (i:=0) op J (zfl (zq _ _ _)) .nil) J J) L fun a s L=>?_;refine sB 6 L fun s L=>?_;refine es ?_;subst h;exact wp_ret (retb J ty24 L J)
theorem zdl {kind_:Int} {lo_:Int} {hi_:Int} {a_:SDesc} {r_:SDesc} (h:zcp kind_ lo_ hi_ a_ r_):Fn Tryd.prog 18 [(Pi kind_),(Pi lo_),(Pi hi_),(Pd.rep En.SDesc a_)] (Rq (Pd.rep En.SDesc r_)):=by
 unfold zcp at h;refine zbe Tryd.func18 J Tryd.ntmps18 (by rfl) (by simp) fun s0 a L=>?_;refine rs (sA 1 L fun a s L=>?_);refine zw En.SDesc (z:=[]) 8 L zfk J J J J fun a s g1 hg_ L=>?_;refine es ?_;obtain ⟨r4,h5,h6,h9,h⟩:=h;refine wp_seq ?_;obtain ⟨K2,H2,nK2,L⟩:=L.mark 999983;have lt3:∀k,(some g1)=some k→k<K2:=by rw [H2];exact L.blt 8 rfl
 refine rda zdi 12 [(Pd.ptr (En.slice En.SNode) a_),(Pd.rep (En.slice En.SNode) a_),(Pd.erow En.SNode s0.w.heap.size K2 43 r4),(Pi kind_),(Pd.ptr (En.slice En.SNode) a_),(Pd.rep (En.slice En.SNode) a_),(Pi (a_.length:Int)),(Pi ((a_.length:Int)-1)),(Pi lo_),(Pi hi_),(Pd.rep En.SNode (kind_,(a_.length:Int)-1,0,lo_,hi_,(0#256),([]:Str))),(Pd.rep (En.slice En.SNode) [(kind_,(a_.length:Int)-1,0,lo_,hi_,(0#256),([]:Str))])] L (by kernel_rfl) J J ?_ ?_
 ·refine z7.cons (t_fa (off:=0) (O 7 J) Tryd.underlying24 J (zdb (zbd _ _)) J ty22 J J) ?_;refine z7.cons (zce ty22 (O 9 J) J J) ?_;refine z7.cons (t_callox (K:=K2) (m:=999983) J nK2 (zco h5) (xs:=[.tmp 10,.const (.int .i64 0)]) (.cons (O 10 J) (.cons oI .nil)) J J) ?_;refine z7.cons (zbl (O 0 J) J J) ?_;refine z7.cons (t_fa (off:=0) (O 7 J) Tryd.underlying24 J (zdb (zbd _ _)) J ty22 J J) ?_;refine z7.cons (zce ty22 (O 13 J) J J) ?_;refine z7.cons (t_len (O 14 J) Tryd.underlying22 J J) ?_;refine z7.cons (t_sub (O 15 J) oI h6 J J) ?_;refine z7.cons (zbl (O 1 J) J J) ?_;refine z7.cons (zbl (O 2 J) J J) ?_;refine z7.cons (zc3 (x:=(kind_,(a_.length:Int)-1,0,lo_,hi_,(0#256),([]:Str))) (ps:=[(0,.tmp 12),(1,.tmp 16),(3,.tmp 17),(4,.tmp 18)]) tyz43 J stt43 (.cons (i:=0) (O 12 J) J (zbb (zq _ _ _)) (.cons (i:=1) (O 16 J) J (zk (zbb (zq _ _ _)) J) (.cons (i:=3) (O 17 J) J (zk (zk (zk (zbb (zq _ _ _)) J) J) J) (.cons (i:=4) (O 18 J) J (zk (zk (zk (zk (zbb (zq _ _ _)) J) J) J) J) .nil)))) J J) ?_;refine z7.cons (t_lit (xs:=[.tmp 19]) (.cons (O 19 J) .nil) Tryd.underlying22 ty43 J J (by decide) J J) ?_;exact z7.nil
 intro a s _ L;obtain ⟨og7,hg_,L⟩:=L.openr 11 rfl;have d8:=Dis.new hg_ lt3;replace L:=L.kk (L':=[(8,(Pd.box En.SDesc s0.w.heap.size g1 [])),(11,(Pd.row En.SNode s0.w.heap.size 43 og7 r4)),(20,(Pd.rep (En.slice En.SNode) [(kind_,(a_.length:Int)-1,0,lo_,hi_,(0#256),([]:Str))]))]);refine dp ?_;have lt_og10_0:=L.blt 8 rfl;refine zd7 21 L op op Ud.h Tq.h h9 J J J J ka fun a s og10 hg_ L=>?_;have d11:=Dis.app hg_ d8 lt_og10_0;refine fzl 21 L fun s L=>?_;refine sv (zc3 (x:=r4++[(kind_,(a_.length:Int)-1,0,lo_,hi_,(0#256),([]:Str))]) (ps:=[(0,.tmp 21)]) zfk J stt24 (.cons (i:=0) op J (zfl (zq _ _ _)) .nil) J J) L fun a s L=>?_;refine sB 8 L fun s L=>?_;refine es ?_;subst h;exact wp_ret (retb J ty24 L J)
def print_text_1.b (n_:SDesc→Int→Int→(Str × Int)→Prop) (level_:Int) (front_:Str) (back_:Str) (cap0_:SDesc) (cap1_:SNode) (r_:(Str × Int)):Prop:=∃r1:(Str × Int),n_ cap0_ cap1_.2.1 level_ r1∧(front_.length+r1.1.length≤9223372036854775807)∧((front_++r1.1).length+back_.length≤9223372036854775807)∧r_=((front_++r1.1)++back_,r1.2)
def print_text_2.b (n_:SDesc→Int→Int→(Str × Int)→Prop) (level_:Int) (between_:Str) (cap0_:SDesc) (cap1_:SNode) (r_:(Str × Int)):Prop:=∃r1:(Str × Int),n_ cap0_ cap1_.2.1 level_ r1∧(InR .i64 (level_+1))∧∃r4:(Str × Int),n_ cap0_ cap1_.2.2.1 (level_+1) r4∧(r1.1.length+between_.length≤9223372036854775807)∧((r1.1++between_).length+r4.1.length≤9223372036854775807)∧r_=((r1.1++between_)++r4.1,(max r1.2 r4.2))
def zbg (front_:Str) (cap0_:(Int × Str × Str × Str × Int→Prop)) (r_:(Str × Int)):Prop:=∃r1:(Str × Int),cap0_ (0,front_,([41]:Str),r1.1,r1.2)∧(InR .i64 (r1.2+1))∧r_=(r1.1,r1.2+1)
def zcl  (r_:(Str × Int)):Prop:=r_=(([40,41]:Str),1)
def zcr (cv_:Int) (r_:Str):Prop:=(0≤cv_)∧(0≤cv_)∧(InR .i64 ((cv_ / 16)+1))∧((0:Int)≤(cv_ / 16)∧(cv_ / 16)≤((cv_ / 16)+1)∧((cv_ / 16)+1)≤(([48,49,50,51,52,53,54,55,56,57,97,98,99,100,101,102]:Str).length:Int))∧(0≤cv_)∧(0≤cv_)∧(InR .i64 ((cv_ % 16)+1))∧((0:Int)≤(cv_ % 16)∧(cv_ % 16)≤((cv_ % 16)+1)∧((cv_ % 16)+1)≤(([48,49,50,51,52,53,54,55,56,57,97,98,99,100,101,102]:Str).length:Int))∧(((([48,49,50,51,52,53,54,55,56,57,97,98,99,100,101,102]:Str).take ((cv_ / 16)+1:Int).toNat).drop (cv_ / 16:Int).toNat).length+((([48,49,50,51,52,53,54,55,56,57,97,98,99,100,101,102]:Str).take ((cv_ % 16)+1:Int).toNat).drop (cv_ % 16:Int).toNat).length≤9223372036854775807)∧r_=((([48,49,50,51,52,53,54,55,56,57,97,98,99,100,101,102]:Str).take ((cv_ / 16)+1:Int).toNat).drop (cv_ / 16:Int).toNat)++((([48,49,50,51,52,53,54,55,56,57,97,98,99,100,101,102]:Str).take ((cv_ % 16)+1:Int).toNat).drop (cv_ % 16:Int).toNat)
def za.j1 (r_:Str) (rows5:(List Str)):Prop:=∃r8:Str,zd6 rows5 ([44]:Str) r8∧(([60]:Str).length+r8.length≤9223372036854775807)∧((([60]:Str)++r8).length+([62]:Str).length≤9223372036854775807)∧r_=(([60]:Str)++r8)++([62]:Str)
def za.j2 (L1_:(List Str)→Int→Prop) (rows12:(List Str)) (last25:Int) (s30:Str):Prop:=(rows12.length+[s30].length≤2147483648)∧(InR .i64 (last25+1))∧L1_ (rows12++[s30]) (last25+1)
def za.j3 (L1_:(List Str)→Int→Prop) (rows12:(List Str)) (c14:Int) (last25:Int):Prop:=∃r27:Str,zcr c14 r27∧((decide (c14<last25))=true→∃r35:Str,zcr last25 r35∧(([45]:Str).length+r35.length≤9223372036854775807)∧(r27.length+(([45]:Str)++r35).length≤9223372036854775807)∧(za.j2 (L1_) rows12 last25) (r27++(([45]:Str)++r35)))∧((decide (c14<last25))=false→(za.j2 (L1_) rows12 last25) r27)
def za.l2 (a_:Cl) (X2:Int→Prop):Nat→Int→Prop
 | 0,_=>False
 | k_0+1,last39=>(InR .i64 (last39+1))∧(((decide (last39+1<256))=true)→InR .i64 (last39+1))∧∃r46:Bool,(((decide (last39+1<256))=true)→zcd a_ ((last39+1) % 256) r46)∧((((decide (last39+1<256))&&r46))=true→(InR .i64 (last39+1))∧za.l2 a_ X2 k_0 (last39+1))∧((((decide (last39+1<256))&&r46))=false→X2 last39)
def za.l1 (a_:Cl) (X1:(List Str)→Prop):Nat→(List Str)→Int→Prop
 | 0,_,_=>False
 | k_0+1,rows12,c14=>((decide (c14<256))=true→∃r21:Bool,zcd a_ (c14 % 256) r21∧(((!r21))=true→(InR .i64 (c14+1))∧za.l1 a_ X1 k_0 rows12 (c14+1))∧(((!r21))=false→∃k40,za.l2 a_ (za.j3 (za.l1 a_ X1 k_0) rows12 c14) k40 c14))∧((decide (c14<256))=false→X1 rows12)
def za (a_:Cl) (r_:Str):Prop:=∃r2:Int,zn a_ r2∧(((r2==256))=true→r_=([46]:Str))∧(((r2==256))=false→∃k15,za.l1 a_ (za.j1 r_) k15 ([]:(List Str)) 0)
def zck (cap0_:SNode) (r_:(Str × Int)):Prop:=∃r1:Str,za cap0_.2.2.2.2.2.1 r1∧r_=(r1,0)
def zcj (cap0_:SNode) (r_:(Str × Int)):Prop:=(([34]:Str).length+cap0_.2.2.2.2.2.2.length≤9223372036854775807)∧((([34]:Str)++cap0_.2.2.2.2.2.2).length+([34]:Str).length≤9223372036854775807)∧r_=((([34]:Str)++cap0_.2.2.2.2.2.2)++([34]:Str),0)
def zci (cap0_:(Int × Str × Str × Int→Prop)) (r_:(Str × Int)):Prop:=∃r1:(Str × Int),cap0_ (1,([]:Str),r1.1,r1.2)∧r_=(r1.1,r1.2)
def zch (cap0_:(Int × Str × Str × Int→Prop)) (r_:(Str × Int)):Prop:=∃r1:(Str × Int),cap0_ (0,([124]:Str),r1.1,r1.2)∧r_=(r1.1,r1.2)
def zcg (cap0_:(Int × Str × Str × Str × Int→Prop)) (r_:(Str × Int)):Prop:=∃r1:(Str × Int),cap0_ (2,([]:Str),([42]:Str),r1.1,r1.2)∧r_=(r1.1,r1.2)
def zb9 (cap0_:(Int × Str × Str × Str × Int→Prop)) (cap1_:SNode) (r_:(Str × Int)):Prop:=∃r1:Str,zcf cap1_.2.2.2.1 r1∧(([123]:Str).length+r1.length≤9223372036854775807)∧((([123]:Str)++r1).length+([44]:Str).length≤9223372036854775807)∧∃r5:Str,zcf cap1_.2.2.2.2.1 r5∧(((([123]:Str)++r1)++([44]:Str)).length+r5.length≤9223372036854775807)∧((((([123]:Str)++r1)++([44]:Str))++r5).length+([125]:Str).length≤9223372036854775807)∧∃r9:(Str × Int),cap0_ (2,([]:Str),(((([123]:Str)++r1)++([44]:Str))++r5)++([125]:Str),r9.1,r9.2)∧r_=(r9.1,r9.2)
def zb8 (cap0_:(Str × Str × Int→Prop)) (r_:(Str × Int)):Prop:=∃r1:(Str × Int),cap0_ (([98,40]:Str),r1.1,r1.2)∧r_=(r1.1,r1.2)
def zb7 (cap0_:(Str × Str × Int→Prop)) (r_:(Str × Int)):Prop:=∃r1:(Str × Int),cap0_ (([119,40]:Str),r1.1,r1.2)∧r_=(r1.1,r1.2)
def ze.j1 (n_:SDesc→Int→Int→(Str × Int)→Prop) (d_:SDesc) (i_:Int) (level_:Int) (r_:(Str × Int)) (e1:SNode) (own5:Int):Prop:=((decide (own5<level_))=true→∃r8:(Str × Int),n_ d_ i_ own5 r8∧(([40]:Str).length+r8.1.length≤9223372036854775807)∧((([40]:Str)++r8.1).length+([41]:Str).length≤9223372036854775807)∧(InR .i64 (r8.2+1))∧r_=((([40]:Str)++r8.1)++([41]:Str),r8.2+1))∧((decide (own5<level_))=false→∃r19:(Str × Int),(zcn (z1 (z1 (z1 (z1 (z1 (z1 (z1 (z1 (z1 ([]:(List (Int × (Str × Int→Prop)))) 1 (fun q_=>zcl (q_.1,q_.2))) 2 (fun q_=>zck e1 (q_.1,q_.2))) 3 (fun q_=>zcj e1 (q_.1,q_.2))) 4 (fun q_=>zci (fun q_=>print_text_2.b (n_) q_.1 q_.2.1 d_ e1 (q_.2.2.1,q_.2.2.2)) (q_.1,q_.2))) 5 (fun q_=>zch (fun q_=>print_text_2.b (n_) q_.1 q_.2.1 d_ e1 (q_.2.2.1,q_.2.2.2)) (q_.1,q_.2))) 6 (fun q_=>zcg (fun q_=>print_text_1.b (n_) q_.1 q_.2.1 q_.2.2.1 d_ e1 (q_.2.2.2.1,q_.2.2.2.2)) (q_.1,q_.2))) 7 (fun q_=>zb9 (fun q_=>print_text_1.b (n_) q_.1 q_.2.1 q_.2.2.1 d_ e1 (q_.2.2.2.1,q_.2.2.2.2)) e1 (q_.1,q_.2))) 8 (fun q_=>zb8 (fun q_=>zbg q_.1 (fun q_=>print_text_1.b (n_) q_.1 q_.2.1 q_.2.2.1 d_ e1 (q_.2.2.2.1,q_.2.2.2.2)) (q_.2.1,q_.2.2)) (q_.1,q_.2))) 9 (fun q_=>zb7 (fun q_=>zbg q_.1 (fun q_=>print_text_1.b (n_) q_.1 q_.2.1 q_.2.2.1 d_ e1 (q_.2.2.2.1,q_.2.2.2.2)) (q_.2.1,q_.2.2)) (q_.1,q_.2))) e1.1 (fun _=>False)) (r19.1,r19.2)∧r_=(r19.1,r19.2))
def ze.n:Nat→SDesc→Int→Int→(Str × Int)→Prop
 | 0,_,_,_,_=>False
 | k_+1,d_,i_,level_,r_=>∃e1:SNode,at? d_ i_=some e1∧(((!(zey gfm0 e1.1)))=true→(ze.j1 (ze.n k_) d_ i_ level_ r_ e1) 3)∧(((!(zey gfm0 e1.1)))=false→(ze.j1 (ze.n k_) d_ i_ level_ r_ e1) (lvI (zcn gfm0 e1.1 none)))
def ze (d_:SDesc) (i_:Int) (level_:Int) (r_:(Str × Int)):Prop:=∃k_,ze.n k_ d_ i_ level_ r_
def zbz (d_:SDesc) (r_:Str):Prop:=(InR .i64 ((d_.length:Int)-1))∧∃r2:(Str × Int),ze d_ ((d_.length:Int)-1) 0 r2∧r_=r2.1
def zbi (d_:SDesc) (r_:Int):Prop:=(InR .i64 ((d_.length:Int)-1))∧∃r2:(Str × Int),ze d_ ((d_.length:Int)-1) 0 r2∧r_=r2.2
def zcx  (r_:Bool):Prop:=∃r1:Cl,zp 0 255 r1∧∃r4:SDesc,zda 5 [(2,0,0,0,0,r1,([]:Str))] [(2,0,0,0,0,r1,([]:Str))] r4∧∃r8:SDesc,zcp 6 0 0 r4 r8∧∃r13:SDesc,zcp 8 0 0 r8 r13∧∃r18:Str,zbz r8 r18∧∃r20:Int,((((r18==([40,46,124,46,41,42]:Str)))=true)→zbi r8 r20)∧∃b22:Bool,b22=((r18==([40,46,124,46,41,42]:Str))&&(r20==1))∧∃r24:Str,(((b22)=true)→zbz r13 r24)∧∃b26:Bool,b26=(r24==([98,40,40,46,124,46,41,42,41]:Str))∧∃r28:Int,((((b22&&b26))=true)→zbi r13 r28)∧∃r30:Cl,(((((b22&&b26)&&(r28==2)))=true)→zp 97 98 r30)∧∃r32:Str,(((((b22&&b26)&&(r28==2)))=true)→za r30 r32)∧∃b34:Bool,b34=(((b22&&b26)&&(r28==2))&&(r32==([60,54,49,45,54,50,62]:Str)))∧∃r36:Str,(((b34)=true)→za (0#256) r36)∧∃r38:Str,((((b34&&(r36==([60,62]:Str))))=true)→za (Cl.ofWords 5 0 0 0) r38)∧∃b40:Bool,b40=((b34&&(r36==([60,62]:Str)))&&(r38==([60,48,48,44,48,50,62]:Str)))∧∃r42:Int,(((b40)=true)→zbi [(2,0,0,0,0,r1,([]:Str))] r42)∧r_=(b40&&(r42==0))
def zf.j1 (a_:Cl) (r_:Bool) (r4:Str) (n16:Int):Prop:=∃r18:Cl,(((decide ((r4.length:Int)≤(max n16 2)))=true)→zp 0 255 r18)∧∃b20:Bool,b20=((decide ((r4.length:Int)≤(max n16 2)))&&((r4==([46]:Str))==(a_==r18)))∧r_=b20
def zf.l1 (a_:Cl) (X1:Int→Prop):Nat→Int→Int→Prop
 | 0,_,_=>False
 | k_0+1,n22,c23=>((decide (c23<256))=true→∃r29:Bool,z6 a_ (c23 % 256) r29∧((r29)=true→(InR .i64 (n22+3))∧(InR .i64 (c23+1))∧zf.l1 a_ X1 k_0 (n22+3) (c23+1))∧((r29)=false→(InR .i64 (c23+1))∧zf.l1 a_ X1 k_0 n22 (c23+1)))∧((decide (c23<256))=false→X1 n22)
def zf (a_:Cl) (r_:Bool):Prop:=∃r2:Bool,zcx  r2∧(((!r2))=true→r_=false)∧(((!r2))=false→∃r4:Str,za a_ r4∧∃r6:((List SToken) × Int × Int),zt r4 r6∧∃e9:SToken,(((((r6.2.1 != 0)||((r6.1.length:Int) != 2)))=false)→at? r6.1 0=some e9)∧∃b11:Bool,b11=(((r6.2.1 != 0)||((r6.1.length:Int) != 2))||(e9.1 != 1))∧∃e13:SToken,(((b11)=false)→at? r6.1 0=some e13)∧(((b11||(e13.2.2.1 != a_)))=true→r_=false)∧(((b11||(e13.2.2.1 != a_)))=false→∃k24,zf.l1 a_ (zf.j1 a_ r_ r4) k24 1 0))
set_option maxRecDepth 100000
set_option maxHeartbeats 2000000
set_option synthInstance.maxSize 100000
set_option synthInstance.maxHeartbeats 200000
theorem print_text_1.b_ok {n_:SDesc→Int→Int→(Str × Int)→Prop} (ih_:∀{y0_:SDesc} {y1_:Int} {y2_:Int} {r_:(Str × Int)} (h:n_ y0_ y1_ y2_ r_),Fn Tryd.prog 21 [Pd.rep En.SDesc y0_,Pd.rep (En.int .i64) y1_,Pd.rep (En.int .i64) y2_] (Rq2 (Pd.rep En.str r_.1) (Pi r_.2))) {level_:Int} {front_:Str} {back_:Str} {cap0_:SDesc} {cap1_:SNode} {r_:(Str × Int)} (h:print_text_1.b n_ level_ front_ back_ cap0_ cap1_ r_):Fn Tryd.prog 32 [(Pi level_),(Pd.rep En.str front_),(Pd.rep En.str back_),(Pd.ptr En.SDesc cap0_),(Pd.ptr En.SNode cap1_)] (Rq2 (Pd.rep En.str r_.1) (Pi r_.2)):=by
 unfold print_text_1.b at h;refine zbe Tryd.func32 J Tryd.ntmps32 (by rfl) (by simp) fun s0 a L=>?_;refine rs (sv (zu (o_s (by decide)) J J) L fun a s L=>?_);refine sA 1 L fun a s L=>?_;refine es ?_;obtain ⟨r1,h2,h⟩:=h;refine ra 10 (p1 ((ih_ h2).tup)) L fun a s L=>?_;obtain ⟨h3,h4,h⟩:=h;refine rA 8 L fun a s L=>?_;subst h;exact wp_ret (ret2 J L J J)
theorem print_text_2.b_ok {n_:SDesc→Int→Int→(Str × Int)→Prop} (ih_:∀{y0_:SDesc} {y1_:Int} {y2_:Int} {r_:(Str × Int)} (h:n_ y0_ y1_ y2_ r_),Fn Tryd.prog 21 [Pd.rep En.SDesc y0_,Pd.rep (En.int .i64) y1_,Pd.rep (En.int .i64) y2_] (Rq2 (Pd.rep En.str r_.1) (Pi r_.2))) {level_:Int} {between_:Str} {cap0_:SDesc} {cap1_:SNode} {r_:(Str × Int)} (h:print_text_2.b n_ level_ between_ cap0_ cap1_ r_):Fn Tryd.prog 33 [(Pi level_),(Pd.rep En.str between_),(Pd.ptr En.SDesc cap0_),(Pd.ptr En.SNode cap1_)] (Rq2 (Pd.rep En.str r_.1) (Pi r_.2)):=by
 unfold print_text_2.b at h;refine zbe Tryd.func33 J Tryd.ntmps33 (by rfl) (by simp) fun s0 a L=>?_;refine rs (sv (zu (o_s (by decide)) J J) L fun a s L=>?_);refine sA 1 L fun a s L=>?_;refine es ?_;obtain ⟨r1,h2,h⟩:=h;refine ra 10 (p1 ((ih_ h2).tup)) L fun a s L=>?_;obtain ⟨h3,r4,h5,h⟩:=h;refine ra 11 (p1 ((ih_ h5).tup)) L fun a s L=>?_;obtain ⟨h6,h7,h⟩:=h;refine rA 10 L fun a s L=>?_;subst h;exact wp_ret (ret2 J L J J)
theorem zev {front_:Str} {cap0_:(Int × Str × Str × Str × Int→Prop)} {r_:(Str × Int)} (h:zbg front_ cap0_ r_):Fn Tryd.prog 34 [(Pd.rep En.str front_),(Pd.ptr EnF63 cap0_)] (Rq2 (Pd.rep En.str r_.1) (Pi r_.2)):=by
 unfold zbg at h;refine zbe Tryd.func34 J Tryd.ntmps34 (by rfl) (by simp) fun s0 a L=>?_;refine rs (sv (zu (o_s (by decide)) J J) L fun a s L=>?_);refine sA 1 L fun a s L=>?_;refine es ?_;obtain ⟨r1,h2,h⟩:=h;refine rs (sA 2 L fun a s L=>?_);refine sv (zc2 (q:=(0,front_,([41]:Str),r1.1,r1.2)) op h2 (xs:=[.const (.int .i64 0),.tmp 9,.const (.string ⟨#[41]⟩)]) (.cons op (.cons op (.cons (o_s (by decide)) .nil))) (fun _ _ _ h_=>zd5 h_) J J) L fun a s L=>?_;refine sA 5 L fun a s L=>?_;refine es ?_;obtain ⟨h3,h⟩:=h;refine rA 5 L fun a s L=>?_;subst h;exact wp_ret (ret2 J L J J)
theorem zeu  {r_:(Str × Int)} (h:zcl  r_):Fn Tryd.prog 35 [] (Rq2 (Pd.rep En.str r_.1) (Pi r_.2)):=by
 unfold zcl at h;refine zbe Tryd.func35 J Tryd.ntmps35 (by rfl) (by simp) fun s0 a L=>?_;refine rs (sv (zu (o_s (by decide)) J J) L fun a s L=>?_);refine sA 1 L fun a s L=>?_;refine es (rs ?_);refine sv (zu (o_s (by decide)) J J) L fun a s L=>?_;refine sA 1 L fun a s L=>?_;refine es ?_;subst h;exact wp_ret (ret2 J L J J)
theorem zeb {cv_:Int} {r_:Str} (h:zcr cv_ r_):Fn Tryd.prog 25 [(Pi cv_)] (Rq (Pd.rep En.str r_)):=by
 unfold zcr at h;refine zbe Tryd.func25 J Tryd.ntmps25 (by rfl) (by simp) fun s0 a L=>?_;refine rs (sv (zu (o_s (by decide)) J J) L fun a s L=>?_);refine es ?_;obtain ⟨h1,h2,h3,h4,h5,h6,h7,h8,h9,h⟩:=h;refine wp_seq (rda zdi 13 [(Pi cv_),(Pi (cv_ / 16)),(Pi cv_),(Pi (cv_ / 16)),(Pi ((cv_ / 16)+1)),(Pd.rep En.str ((([48,49,50,51,52,53,54,55,56,57,97,98,99,100,101,102]:Str).take ((cv_ / 16)+1:Int).toNat).drop (cv_ / 16:Int).toNat)),(Pi cv_),(Pi (cv_ % 16)),(Pi cv_),(Pi (cv_ % 16)),(Pi ((cv_ % 16)+1)),(Pd.rep En.str ((([48,49,50,51,52,53,54,55,56,57,97,98,99,100,101,102]:Str).take ((cv_ % 16)+1:Int).toNat).drop (cv_ % 16:Int).toNat)),(Pd.rep En.str (((([48,49,50,51,52,53,54,55,56,57,97,98,99,100,101,102]:Str).take ((cv_ / 16)+1:Int).toNat).drop (cv_ / 16:Int).toNat)++((([48,49,50,51,52,53,54,55,56,57,97,98,99,100,101,102]:Str).take ((cv_ % 16)+1:Int).toNat).drop (cv_ % 16:Int).toNat)))] L (by kernel_rfl) J J ?_ ?_)
 ·refine z7.cons (zbl (O 0 J) J J) ?_;refine z7.cons (t_quo (O 3 J) oI h1 (by decide) J J) ?_;refine z7.cons (zbl (O 0 J) J J) ?_;refine z7.cons (t_quo (O 5 J) oI h2 (by decide) J J) ?_;refine z7.cons (t_add (O 6 J) oI h3 J J) ?_;refine z7.cons (zek (o_s (by decide)) (O 4 J) (O 7 J) h4 Tryd.underlying9 J J) ?_;refine z7.cons (zbl (O 0 J) J J) ?_;refine z7.cons (t_rem (O 9 J) oI h5 (by decide) J J) ?_;refine z7.cons (zbl (O 0 J) J J) ?_;refine z7.cons (t_rem (O 11 J) oI h6 (by decide) J J) ?_;refine z7.cons (t_add (O 12 J) oI h7 J J) ?_;refine z7.cons (zek (o_s (by decide)) (O 10 J) (O 13 J) h8 Tryd.underlying9 J J) ?_;refine z7.cons (zbh (O 8 J) (O 14 J) h9 J J) ?_;exact z7.nil
 intro a s _ L;replace L:=L.kk (L':=[(2,(Pd.rep En.str ([]:Str))),(15,(Pd.rep En.str (((([48,49,50,51,52,53,54,55,56,57,97,98,99,100,101,102]:Str).take ((cv_ / 16)+1:Int).toNat).drop (cv_ / 16:Int).toNat)++((([48,49,50,51,52,53,54,55,56,57,97,98,99,100,101,102]:Str).take ((cv_ % 16)+1:Int).toNat).drop (cv_ % 16:Int).toNat))))]);refine dp ?_;refine sA 1 L fun a s L=>?_;refine es ?_;subst h;exact wp_ret (zeh J L J)
theorem zbm {a_:Cl} {r_:Str} (h:za a_ r_):Fn Tryd.prog 13 [(Pd.rep En.cls a_)] (Rq (Pd.rep En.str r_)):=by
 unfold za at h;refine zbe Tryd.func13 J Tryd.ntmps13 (by rfl) (by simp) fun s0 a L=>?_;refine rs (sA 1 L fun a s L=>?_);refine sv (zu (o_s (by decide)) J J) L fun a s L=>?_;refine es (wp_seq_k fun K1 H1=>?_);obtain ⟨r2,h3,h⟩:=h;refine ra 3 (p1 (ze9 h3)) L fun a s L=>?_;refine cn L h (fun h=>?_) fun h=>?_
 ·refine rs ?_;refine sv (zu (o_s (by decide)) J J) L fun a s L=>?_;refine es ?_;subst h;exact wp_ret (zeh J L J)
 ·refine wp_skip (H1 _ _ ?_);refine rs (sno En.str 9 L fun a s L=>?_);refine es (wp_seq_k fun K4 H4=>?_);refine rA 1 L fun a s L=>?_;refine wp_block ?_;have J7:∀(rows5:(List Str)) (og6:Option Nat) (a:Act) (s:St),Has N0 51 s0 a s [(3,(Pd.row En.str s0.w.heap.size 9 og6 rows5))]→((za.j1 r_) rows5)→K4 a s.w:=by
   intro rows5 og6 a s L h;unfold za.j1 at h;show K4 a s.w;refine H4 _ _ (fzc 3 L fun s L=>?_);obtain ⟨r8,h9,h10,h11,h⟩:=h;refine rs (sA 1 L fun a s L=>?_);refine sv (zfc (zel h9) (xs:=[.tmp 47,.const (.string ⟨#[44]⟩)]) (.cons op (.cons (o_s (by decide)) .nil)) J J) L fun a s L=>?_;refine sv (zbh (o_s (by decide)) op h10 J J) L fun a s L=>?_;refine sv (zbh op (o_s (by decide)) h11 J J) L fun a s L=>?_;refine sA 1 L fun a s L=>?_;refine es ?_;subst h;exact wp_ret (zeh J L J)
  obtain ⟨k15,h⟩:=h;refine lpn (fun k16 a s=>∃(rows12:(List Str)) (c14:Int) (og13:Option Nat),Has N0 51 s0 a s [(1,(Pd.ptr En.cls a_)),(3,(Pd.row En.str s0.w.heap.size 9 og13 rows12)),(4,(Pi c14))]∧za.l1 a_ (za.j1 r_) k16 rows12 c14) k15 ⟨([]:(List Str)),0,none,L.kk,h⟩ ?_;rintro k16 a s ⟨rows12,c14,og13,L,h⟩ KL17 hKL17;unfold za.l1 at h;refine wp_seq_k fun K18 H18=>rA 2 L fun a s L=>?_;refine cn L h (fun h=>?_) fun h=>?_
  ·refine wp_skip (H18 _ _ ?_);refine wp_seq_k fun K19 H19=>wp_block (wp_seq_k fun K20 H20=>?_);obtain ⟨r21,h22,h⟩:=h;refine ra 5 (p1 (zc8 h22)) L fun a s L=>?_;refine cn L h (fun h=>?_) fun h=>?_
   ·refine wp_exit ?_;show K19 a s.w;refine H19 _ _ ?_;obtain ⟨h23,h⟩:=h;refine rg (sA 3 L fun a s L=>?_);refine en' ?_;exact hKL17 a s ⟨rows12,(c14+1),og13,L.kk,h⟩
   ·refine wp_skip (H20 _ _ ?_);refine rA 2 L fun a s L=>?_;refine wp_seq_k fun K24 H24=>wp_block ?_;have J26:∀(last25:Int) (a:Act) (s:St),Has N0 51 s0 a s [(1,(Pd.ptr En.cls a_)),(3,(Pd.row En.str s0.w.heap.size 9 og13 rows12)),(4,(Pi c14)),(5,(Pi last25))]→((za.j3 (za.l1 a_ (za.j1 r_) k16) rows12 c14) last25)→K24 a s.w:=by
     intro last25 a s L h;unfold za.j3 at h;show K24 a s.w;refine H24 _ _ ?_;obtain ⟨r27,h28,h⟩:=h;refine ra 3 (p1 (zeb h28)) L fun a s L=>?_;refine wp_seq_k fun K29 H29=>rA 3 L fun a s L=>?_;have J31:∀(s30:Str) (a:Act) (s:St),Has N0 51 s0 a s [(1,(Pd.ptr En.cls a_)),(3,(Pd.row En.str s0.w.heap.size 9 og13 rows12)),(5,(Pi last25)),(6,(Pd.rep En.str s30))]→((za.j2 (za.l1 a_ (za.j1 r_) k16) rows12 last25) s30)→K29 a s.w:=by
      intro s30 a s L h;unfold za.j2 at h;show K29 a s.w;refine H29 _ _ ?_;obtain ⟨h32,h⟩:=h;refine rs (sA 3 L fun a s L=>?_);refine zd7 45 L op op Ud.h Tq.h h32 J J J J ka fun a s og33 hg_ L=>?_;refine sA 1 L fun a s L=>?_;refine es (rg ?_);refine sA 2 L fun a s L=>?_;refine en' (H19 _ _ ?_);obtain ⟨h34,h⟩:=h;refine rg (sA 3 L fun a s L=>?_);refine en' ?_;exact hKL17 a s ⟨(rows12++[s30]),(last25+1),og33,L.kk,h⟩
     refine cn L h (fun h=>?_) fun h=>?_
     ·obtain ⟨r35,h36,h37,h38,h⟩:=h;refine rg (sl 3 (p1 (zeb h36)) L fun a s L=>?_);refine sv (zbh (o_s (by decide)) op h37 J J) L fun a s L=>?_;refine sA 2 L fun a s L=>?_;refine en' ?_;exact J31 (r27++(([45]:Str)++r35)) a s (L.kk) h
     ·refine wp_skip ?_;exact J31 r27 a s (L.kk) h
    obtain ⟨k40,h⟩:=h;refine lpn (fun k41 a s=>∃(last39:Int),Has N0 51 s0 a s [(1,(Pd.ptr En.cls a_)),(3,(Pd.row En.str s0.w.heap.size 9 og13 rows12)),(4,(Pi c14)),(5,(Pi last39))]∧za.l2 a_ (za.j3 (za.l1 a_ (za.j1 r_) k16) rows12 c14) k41 last39) k40 ⟨c14,L.kk,h⟩ ?_;rintro k41 a s ⟨last39,L,h⟩ KL42 hKL42;unfold za.l2 at h;refine wp_seq_k fun K43 H43=>?_;obtain ⟨h44,h45,r46,h47,h⟩:=h;refine ra 10 (pp (fun hc_=>(zc8 (h47 hc_))) trivial) L fun a s L=>?_;refine cn L h (fun h=>?_) fun h=>?_
    ·refine wp_skip (H43 _ _ ?_);refine wp_block ?_;obtain ⟨h48,h⟩:=h;refine rg (sA 3 L fun a s L=>?_);refine en' ?_;exact hKL42 a s ⟨(last39+1),L.kk,h⟩
    ·refine wp_exit ?_;exact J26 last39 a s (L.kk) h
  ·refine wp_exit ?_;exact J7 rows12 og13 a s (L.kk) h
theorem zet {cap0_:SNode} {r_:(Str × Int)} (h:zck cap0_ r_):Fn Tryd.prog 36 [(Pd.ptr En.SNode cap0_)] (Rq2 (Pd.rep En.str r_.1) (Pi r_.2)):=by
 unfold zck at h;refine zbe Tryd.func36 J Tryd.ntmps36 (by rfl) (by simp) fun s0 a L=>?_;refine rs (sv (zu (o_s (by decide)) J J) L fun a s L=>?_);refine sA 1 L fun a s L=>?_;refine es ?_;obtain ⟨r1,h2,h⟩:=h;refine ra 5 (p1 (zbm h2)) L fun a s L=>?_;subst h;exact wp_ret (ret2 J L J J)
theorem zes {cap0_:SNode} {r_:(Str × Int)} (h:zcj cap0_ r_):Fn Tryd.prog 37 [(Pd.ptr En.SNode cap0_)] (Rq2 (Pd.rep En.str r_.1) (Pi r_.2)):=by
 unfold zcj at h;refine zbe Tryd.func37 J Tryd.ntmps37 (by rfl) (by simp) fun s0 a L=>?_;refine rs (sv (zu (o_s (by decide)) J J) L fun a s L=>?_);refine sA 1 L fun a s L=>?_;refine es ?_;obtain ⟨h1,h2,h⟩:=h;refine rs (sA 2 L fun a s L=>?_);refine sv (zbh (o_s (by decide)) op h1 J J) L fun a s L=>?_;refine sv (zbh op (o_s (by decide)) h2 J J) L fun a s L=>?_;refine sA 2 L fun a s L=>?_;refine es ?_;subst h;exact wp_ret (ret2 J L J J)
theorem zer {cap0_:(Int × Str × Str × Int→Prop)} {r_:(Str × Int)} (h:zci cap0_ r_):Fn Tryd.prog 38 [(Pd.ptr EnF64 cap0_)] (Rq2 (Pd.rep En.str r_.1) (Pi r_.2)):=by
 unfold zci at h;refine zbe Tryd.func38 J Tryd.ntmps38 (by rfl) (by simp) fun s0 a L=>?_;refine rs (sv (zu (o_s (by decide)) J J) L fun a s L=>?_);refine sA 1 L fun a s L=>?_;refine es ?_;obtain ⟨r1,h2,h⟩:=h;refine rs (sA 1 L fun a s L=>?_);refine sv (zc2 (q:=(1,([]:Str),r1.1,r1.2)) op h2 (xs:=[.const (.int .i64 1),.const (.string ⟨#[]⟩)]) (.cons op (.cons (o_s (by decide)) .nil)) (fun _ _ _ h_=>zd5 h_) J J) L fun a s L=>?_;refine sA 4 L fun a s L=>?_;refine es ?_;subst h;exact wp_ret (ret2 J L J J)
theorem zeq {cap0_:(Int × Str × Str × Int→Prop)} {r_:(Str × Int)} (h:zch cap0_ r_):Fn Tryd.prog 39 [(Pd.ptr EnF64 cap0_)] (Rq2 (Pd.rep En.str r_.1) (Pi r_.2)):=by
 unfold zch at h;refine zbe Tryd.func39 J Tryd.ntmps39 (by rfl) (by simp) fun s0 a L=>?_;refine rs (sv (zu (o_s (by decide)) J J) L fun a s L=>?_);refine sA 1 L fun a s L=>?_;refine es ?_;obtain ⟨r1,h2,h⟩:=h;refine rs (sA 1 L fun a s L=>?_);refine sv (zc2 (q:=(0,([124]:Str),r1.1,r1.2)) op h2 (xs:=[.const (.int .i64 0),.const (.string ⟨#[124]⟩)]) (.cons op (.cons (o_s (by decide)) .nil)) (fun _ _ _ h_=>zd5 h_) J J) L fun a s L=>?_;refine sA 4 L fun a s L=>?_;refine es ?_;subst h;exact wp_ret (ret2 J L J J)
theorem zep {cap0_:(Int × Str × Str × Str × Int→Prop)} {r_:(Str × Int)} (h:zcg cap0_ r_):Fn Tryd.prog 40 [(Pd.ptr EnF63 cap0_)] (Rq2 (Pd.rep En.str r_.1) (Pi r_.2)):=by
 unfold zcg at h;refine zbe Tryd.func40 J Tryd.ntmps40 (by rfl) (by simp) fun s0 a L=>?_;refine rs (sv (zu (o_s (by decide)) J J) L fun a s L=>?_);refine sA 1 L fun a s L=>?_;refine es ?_;obtain ⟨r1,h2,h⟩:=h;refine rs (sA 1 L fun a s L=>?_);refine sv (zc2 (q:=(2,([]:Str),([42]:Str),r1.1,r1.2)) op h2 (xs:=[.const (.int .i64 2),.const (.string ⟨#[]⟩),.const (.string ⟨#[42]⟩)]) (.cons op (.cons (o_s (by decide)) (.cons (o_s (by decide)) .nil))) (fun _ _ _ h_=>zd5 h_) J J) L fun a s L=>?_;refine sA 4 L fun a s L=>?_;refine es ?_;subst h;exact wp_ret (ret2 J L J J)
theorem zeg {cap0_:(Int × Str × Str × Str × Int→Prop)} {cap1_:SNode} {r_:(Str × Int)} (h:zb9 cap0_ cap1_ r_):Fn Tryd.prog 41 [(Pd.ptr EnF63 cap0_),(Pd.ptr En.SNode cap1_)] (Rq2 (Pd.rep En.str r_.1) (Pi r_.2)):=by
 unfold zb9 at h;refine zbe Tryd.func41 J Tryd.ntmps41 (by rfl) (by simp) fun s0 a L=>?_;refine rs (sv (zu (o_s (by decide)) J J) L fun a s L=>?_);refine sA 1 L fun a s L=>?_;refine es ?_;obtain ⟨r1,h2,h3,h4,r5,h6,h7,h8,r9,h10,h⟩:=h;refine wp_seq (rda zdi 14 [(Pd.rep EnF63 cap0_),(Pd.ptr (En.int .i64) cap1_.2.2.2.1),(Pi cap1_.2.2.2.1),(Pd.rep En.str r1),(Pd.rep En.str (([123]:Str)++r1)),(Pd.rep En.str ((([123]:Str)++r1)++([44]:Str))),(Pd.ptr (En.int .i64) cap1_.2.2.2.2.1),(Pi cap1_.2.2.2.2.1),(Pd.rep En.str r5),(Pd.rep En.str (((([123]:Str)++r1)++([44]:Str))++r5)),(Pd.rep En.str ((((([123]:Str)++r1)++([44]:Str))++r5)++([125]:Str))),(Pd.tup2 (Pd.rep En.str r9.1) (Pi r9.2)),(Pd.rep En.str r9.1),(Pi r9.2)] L (by kernel_rfl) J J ?_ ?_)
 ·refine z7.cons (zce ty63 (O 0 J) J J) ?_;refine z7.cons (t_fa (off:=3) (O 1 J) Tryd.underlying43 J (zl (zl (zl (zb4 (zbd _ _)) J) J) J) J ty3 J J) ?_;refine z7.cons (zce ty3 (O 5 J) J J) ?_;refine z7.cons (zfc (zc4 h2) (xs:=[.tmp 6]) (.cons (O 6 J) .nil) J J) ?_;refine z7.cons (zbh (o_s (by decide)) (O 7 J) h3 J J) ?_;refine z7.cons (zbh (O 8 J) (o_s (by decide)) h4 J J) ?_;refine z7.cons (t_fa (off:=4) (O 1 J) Tryd.underlying43 J (zl (zl (zl (zl (zb4 (zbd _ _)) J) J) J) J) J ty3 J J) ?_;refine z7.cons (zce ty3 (O 10 J) J J) ?_;refine z7.cons (zfc (zc4 h6) (xs:=[.tmp 11]) (.cons (O 11 J) .nil) J J) ?_;refine z7.cons (zbh (O 9 J) (O 12 J) h7 J J) ?_;refine z7.cons (zbh (O 13 J) (o_s (by decide)) h8 J J) ?_;refine z7.cons (zc2 (q:=(2,([]:Str),(((([123]:Str)++r1)++([44]:Str))++r5)++([125]:Str),r9.1,r9.2)) (O 4 J) h10 (xs:=[.const (.int .i64 2),.const (.string ⟨#[]⟩),.tmp 14]) (.cons oI (.cons (o_s (by decide)) (.cons (O 14 J) .nil))) (fun _ _ _ h_=>zd5 h_) J J) ?_;refine z7.cons (t_ext0 (O 15 J) J J) ?_;refine z7.cons (t_ext1 (O 15 J) J J) ?_;exact z7.nil
 intro a s _ L;replace L:=L.kk (L':=[(2,(Pd.rep En.str ([]:Str))),(3,(Pi 0)),(16,(Pd.rep En.str r9.1)),(17,(Pi r9.2))]);refine dp ?_;refine sA 2 L fun a s L=>?_;refine es ?_;subst h;exact wp_ret (ret2 J L J J)
theorem zef {cap0_:(Str × Str × Int→Prop)} {r_:(Str × Int)} (h:zb8 cap0_ r_):Fn Tryd.prog 43 [(Pd.ptr EnF65 cap0_)] (Rq2 (Pd.rep En.str r_.1) (Pi r_.2)):=by
 unfold zb8 at h;refine zbe Tryd.func43 J Tryd.ntmps43 (by rfl) (by simp) fun s0 a L=>?_;refine rs (sv (zu (o_s (by decide)) J J) L fun a s L=>?_);refine sA 1 L fun a s L=>?_;refine es ?_;obtain ⟨r1,h2,h⟩:=h;refine rs (sA 1 L fun a s L=>?_);refine sv (zc2 (q:=(([98,40]:Str),r1.1,r1.2)) op h2 (xs:=[.const (.string ⟨#[98,40]⟩)]) (.cons (o_s (by decide)) .nil) (fun _ _ _ h_=>zd5 h_) J J) L fun a s L=>?_;refine sA 4 L fun a s L=>?_;refine es ?_;subst h;exact wp_ret (ret2 J L J J)
theorem zee {cap0_:(Str × Str × Int→Prop)} {r_:(Str × Int)} (h:zb7 cap0_ r_):Fn Tryd.prog 44 [(Pd.ptr EnF65 cap0_)] (Rq2 (Pd.rep En.str r_.1) (Pi r_.2)):=by
 unfold zb7 at h;refine zbe Tryd.func44 J Tryd.ntmps44 (by rfl) (by simp) fun s0 a L=>?_;refine rs (sv (zu (o_s (by decide)) J J) L fun a s L=>?_);refine sA 1 L fun a s L=>?_;refine es ?_;obtain ⟨r1,h2,h⟩:=h;refine rs (sA 1 L fun a s L=>?_);refine sv (zc2 (q:=(([119,40]:Str),r1.1,r1.2)) op h2 (xs:=[.const (.string ⟨#[119,40]⟩)]) (.cons (o_s (by decide)) .nil) (fun _ _ _ h_=>zd5 h_) J J) L fun a s L=>?_;refine sA 4 L fun a s L=>?_;refine es ?_;subst h;exact wp_ret (ret2 J L J J)
theorem ze.n_ok (k_:Nat):∀{d_:SDesc} {i_:Int} {level_:Int} {r_:(Str × Int)} (h:ze.n k_ d_ i_ level_ r_),Fn Tryd.prog 21 [(Pd.rep En.SDesc d_),(Pi i_),(Pi level_)] (Rq2 (Pd.rep En.str r_.1) (Pi r_.2)):=by
 induction k_ with
 | zero=>intro d_ i_ level_ r_ h;exact h.elim
 | succ k_ ih_=>
 intro d_ i_ level_ r_ h;unfold ze.n at h;refine zbe Tryd.func21 J Tryd.ntmps21 (by rfl) (by simp) fun s0 a L=>?_;refine rs (sA 1 L fun a s L=>?_);refine sv (zu (o_s (by decide)) J J) L fun a s L=>?_;refine sA 1 L fun a s L=>?_;refine es ?_;obtain ⟨e1,h2,h⟩:=h;refine rs (sl 5 (p1 h2) L fun a s L=>?_);refine zw En.SNode (z:=(0,0,0,0,0,(0#256),([]:Str))) 8 L tyz43 J J J J fun a s g3 hg_ L=>?_;refine sB 8 L fun s L=>?_;refine es (rs ?_);refine sv (zce (⟨⟨_,_,J,J,J,J,by decide⟩,_,J,J⟩:Ty Tryd.prog 62 (En.fmap (En.int .i64) kvI64 En.fid)) (o_gm (g:=0) (l:=gfm0) (by simp [gmap])) J J) L fun a s L=>?_;refine sA 2 L fun a s L=>?_;refine sv (t_mgetlev op op Ud.h (zcb Ud.h) (⟨_,[.int .i64 0],J,by rfl,fun _ _=>J⟩:TyV Tryd.prog 3 En.fid none) (by decide) (fun | some _=>J | none=>J) J J) L fun a s L=>?_;refine sA 5 L fun a s L=>?_;refine es (wp_seq_k fun K4 H4=>?_);refine rA 2 L fun a s L=>?_;have J6:∀(own5:Int) (a:Act) (s:St),Has N0 66 s0 a s [(1,(Pi i_)),(2,(Pi level_)),(3,(Pd.ptr En.SDesc d_)),(8,(Pd.box En.SNode s0.w.heap.size g3 e1)),(9,(Pi own5))]→((ze.j1 (ze.n k_) d_ i_ level_ r_ e1) own5)→K4 a s.w:=by
  intro own5 a s L h;unfold ze.j1 at h;show K4 a s.w;refine H4 _ _ (wp_seq_k fun K7 H7=>?_);refine rA 3 L fun a s L=>?_;refine cn L h (fun h=>?_) fun h=>?_
  ·obtain ⟨r8,h9,h⟩:=h;refine ra 9 (p1 ((ih_ h9).tup)) L fun a s L=>?_;obtain ⟨h10,h11,h12,h⟩:=h;refine rs (sA 1 L fun a s L=>?_);refine sv (zbh (o_s (by decide)) op h10 J J) L fun a s L=>?_;refine sv (zbh op (o_s (by decide)) h11 J J) L fun a s L=>?_;refine sA 4 L fun a s L=>?_;refine es ?_;subst h;exact wp_ret (ret2 J L J J)
  ·refine wp_skip (H7 _ _ ?_);refine fbc 8 L fun s L=>?_;refine rs (sv (t_q (Pd.rep EnF63 (fun q_=>print_text_1.b (ze.n k_) q_.1 q_.2.1 q_.2.2.1 d_ e1 (q_.2.2.2.1,q_.2.2.2.2))) (zca (cs:=[.tmp 3,.tmp 8]) (.cons op (.cons op .nil)) (zbw Tryd.func32 J (by rfl)) (zbf zbu (zbf zbu zcc)) (fun q_ h_=>print_text_1.b_ok ih_ h_) J J)) L fun a s L=>?_);refine zw EnF63 (z:=(fun _=>False)) 13 L tyz63 J J J J fun a s g13 hg_ L=>?_;refine sB 13 L fun s L=>?_;refine es (rs ?_);refine sv (t_q (Pd.rep EnF64 (fun q_=>print_text_2.b (ze.n k_) q_.1 q_.2.1 d_ e1 (q_.2.2.1,q_.2.2.2))) (zca (cs:=[.tmp 3,.tmp 8]) (.cons op (.cons op .nil)) (zbw Tryd.func33 J (by rfl)) (zbf zbu (zbf zbu zcc)) (fun q_ h_=>print_text_2.b_ok ih_ h_) J J)) L fun a s L=>?_;have lt_d15:=L.blt 13 rfl;refine zw EnF64 (z:=(fun _=>False)) 14 L tyz64 J J J J fun a s g14 hg_ L=>?_;have d15:=Dis.newg hg_ lt_d15;refine sB 14 L fun s L=>?_;refine es (fbc 13 L fun s L=>?_);refine rs (sv (t_q (Pd.rep EnF65 (fun q_=>zbg q_.1 (fun q_=>print_text_1.b (ze.n k_) q_.1 q_.2.1 q_.2.2.1 d_ e1 (q_.2.2.2.1,q_.2.2.2.2)) (q_.2.1,q_.2.2))) (zca (cs:=[.tmp 13]) (.cons op .nil) (zbw Tryd.func34 J (by rfl)) (zbf zbu zcc) (fun q_ h_=>zev h_) J J)) L fun a s L=>?_);have lt_d17:=L.blt 14 rfl;refine zw EnF65 (z:=(fun _=>False)) 15 L tyz65 J J J J fun a s g16 hg_ L=>?_;have d17:=Dis.newg hg_ lt_d17;refine sB 15 L fun s L=>?_;refine es (fbc 14 L fun s L=>?_);refine fbc 15 L fun s L=>?_;refine rs (st_mkmap 49 (En.int .i64) kvI64 EnF66 L J J J J fun a s g18 hg_ L=>?_)
   refine zb5 L op op (o_q (Pd.rep EnF66 (fun q_=>zcl (q_.1,q_.2))) (o_fun (zbw Tryd.func35 J (by rfl)) (fun q_ h_=>zeu h_))) Ud.h (zcb Ud.h) (.inr J) J J kw fun s L=>?_;refine sv (t_q (Pd.rep EnF66 (fun q_=>zck e1 (q_.1,q_.2))) (zca (cs:=[.tmp 8]) (.cons op .nil) (zbw Tryd.func36 J (by rfl)) (zbf zbu zcc) (fun q_ h_=>zet h_) J J)) L fun a s L=>?_;refine zb5 L op op op Ud.h (zcb Ud.h) (.inr J) J J kw fun s L=>?_;refine sv (t_q (Pd.rep EnF66 (fun q_=>zcj e1 (q_.1,q_.2))) (zca (cs:=[.tmp 8]) (.cons op .nil) (zbw Tryd.func37 J (by rfl)) (zbf zbu zcc) (fun q_ h_=>zes h_) J J)) L fun a s L=>?_;refine zb5 L op op op Ud.h (zcb Ud.h) (.inr J) J J kw fun s L=>?_;refine sv (t_q (Pd.rep EnF66 (fun q_=>zci (fun q_=>print_text_2.b (ze.n k_) q_.1 q_.2.1 d_ e1 (q_.2.2.1,q_.2.2.2)) (q_.1,q_.2))) (zca (cs:=[.tmp 14]) (.cons op .nil) (zbw Tryd.func38 J (by rfl)) (zbf zbu zcc) (fun q_ h_=>zer h_) J J)) L fun a s L=>?_;refine zb5 L op op op Ud.h (zcb Ud.h) (.inr J) J J kw fun s L=>?_;refine sv (t_q (Pd.rep EnF66 (fun q_=>zch (fun q_=>print_text_2.b (ze.n k_) q_.1 q_.2.1 d_ e1 (q_.2.2.1,q_.2.2.2)) (q_.1,q_.2))) (zca (cs:=[.tmp 14]) (.cons op .nil) (zbw Tryd.func39 J (by rfl)) (zbf zbu zcc) (fun q_ h_=>zeq h_) J J)) L fun a s L=>?_;refine zb5 L op op op Ud.h (zcb Ud.h) (.inr J) J J kw fun s L=>?_;refine sv (t_q (Pd.rep EnF66 (fun q_=>zcg (fun q_=>print_text_1.b (ze.n k_) q_.1 q_.2.1 q_.2.2.1 d_ e1 (q_.2.2.2.1,q_.2.2.2.2)) (q_.1,q_.2))) (zca (cs:=[.tmp 13]) (.cons op .nil) (zbw Tryd.func40 J (by rfl)) (zbf zbu zcc) (fun q_ h_=>zep h_) J J)) L fun a s L=>?_
   refine zb5 L op op op Ud.h (zcb Ud.h) (.inr J) J J kw fun s L=>?_;refine sv (t_q (Pd.rep EnF66 (fun q_=>zb9 (fun q_=>print_text_1.b (ze.n k_) q_.1 q_.2.1 q_.2.2.1 d_ e1 (q_.2.2.2.1,q_.2.2.2.2)) e1 (q_.1,q_.2))) (zca (cs:=[.tmp 13,.tmp 8]) (.cons op (.cons op .nil)) (zbw Tryd.func41 J (by rfl)) (zbf zbu (zbf zbu zcc)) (fun q_ h_=>zeg h_) J J)) L fun a s L=>?_;refine zb5 L op op op Ud.h (zcb Ud.h) (.inr J) J J kw fun s L=>?_;refine sv (t_q (Pd.rep EnF66 (fun q_=>zb8 (fun q_=>zbg q_.1 (fun q_=>print_text_1.b (ze.n k_) q_.1 q_.2.1 q_.2.2.1 d_ e1 (q_.2.2.2.1,q_.2.2.2.2)) (q_.2.1,q_.2.2)) (q_.1,q_.2))) (zca (cs:=[.tmp 15]) (.cons op .nil) (zbw Tryd.func43 J (by rfl)) (zbf zbu zcc) (fun q_ h_=>zef h_) J J)) L fun a s L=>?_;refine zb5 L op op op Ud.h (zcb Ud.h) (.inr J) J J kw fun s L=>?_;refine sv (t_q (Pd.rep EnF66 (fun q_=>zb7 (fun q_=>zbg q_.1 (fun q_=>print_text_1.b (ze.n k_) q_.1 q_.2.1 q_.2.2.1 d_ e1 (q_.2.2.2.1,q_.2.2.2.2)) (q_.2.1,q_.2.2)) (q_.1,q_.2))) (zca (cs:=[.tmp 15]) (.cons op .nil) (zbw Tryd.func44 J (by rfl)) (zbf zbu zcc) (fun q_ h_=>zee h_) J J)) L fun a s L=>?_;refine zb5 L op op op Ud.h (zcb Ud.h) (.inr J) J J kw fun s L=>?_;refine sA 2 L fun a s L=>?_;refine es ?_;obtain ⟨r19,h20,h⟩:=h;refine rs (sA 3 L fun a s L=>?_);refine sv (t_mget op op Ud.h (zcb Ud.h) tyv66 J J) L fun a s L=>?_;refine sv (zc2 (q:=(r19.1,r19.2)) op h20 opz (fun _ _ _ h_=>zd5 h_) J J) L fun a s L=>?_;refine sA 4 L fun a s L=>?_;refine es ?_;subst h;exact wp_ret (ret2 J L J J)
 refine cn L h (fun h=>?_) fun h=>?_
 ·refine rg ?_;refine sA 1 L fun a s L=>?_;refine en' ?_;exact J6 3 a s (L.kk) h
 ·refine wp_skip ?_;exact J6 (lvI (zcn gfm0 e1.1 none)) a s (L.kk) h
theorem zdr {d_:SDesc} {i_:Int} {level_:Int} {r_:(Str × Int)} (h:ze d_ i_ level_ r_):Fn Tryd.prog 21 [(Pd.rep En.SDesc d_),(Pi i_),(Pi level_)] (Rq2 (Pd.rep En.str r_.1) (Pi r_.2)):=by
 obtain ⟨k_,h⟩:=h;exact ze.n_ok k_ h
theorem zdt {d_:SDesc} {r_:Str} (h:zbz d_ r_):Fn Tryd.prog 9 [(Pd.rep En.SDesc d_)] (Rq (Pd.rep En.str r_)):=by
 unfold zbz at h;refine zbe Tryd.func9 J Tryd.ntmps9 (by rfl) (by simp) fun s0 a L=>?_;refine rs (sA 1 L fun a s L=>?_);refine sv (zu (o_s (by decide)) J J) L fun a s L=>?_;refine es ?_;obtain ⟨h1,r2,h3,h⟩:=h;refine ra 11 (p1 ((zdr h3).tup)) L fun a s L=>?_;refine rA 2 L fun a s L=>?_;subst h;exact wp_ret (zeh J L J)
theorem zcu {d_:SDesc} {r_:Int} (h:zbi d_ r_):Fn Tryd.prog 11 [(Pd.rep En.SDesc d_)] (Rq (Pi r_)):=by
 unfold zbi at h;refine zbe Tryd.func11 J Tryd.ntmps11 (by rfl) (by simp) fun s0 a L=>?_;refine rA 2 L fun a s L=>?_;obtain ⟨h1,r2,h3,h⟩:=h;refine ra 11 (p1 ((zdr h3).tup)) L fun a s L=>?_;refine rA 2 L fun a s L=>?_;subst h;exact wp_ret (zeh J L J)
theorem ze8  {r_:Bool} (h:zcx  r_):Fn Tryd.prog 6 [] (Rq (Pd.rep En.bool r_)):=by
 unfold zcx at h;refine zbe Tryd.func6 J Tryd.ntmps6 (by rfl) (by simp) fun s0 a L=>?_;refine rA 1 L fun a s L=>?_;obtain ⟨r1,h2,h⟩:=h;refine rs (sl 1 (p1 (zb2 h2)) L fun a s L=>?_);refine sv (zc3 (x:=(2,0,0,0,0,r1,([]:Str))) (ps:=[(0,.const (.int .i64 2)),(5,.tmp 5)]) tyz43 J stt43 (.cons (i:=0) op J (zbb (zq _ _ _)) (.cons (i:=5) op J (zk (zk (zk (zk (zk (zbb (zq _ _ _)) J) J) J) J) J) .nil)) J J) L fun a s L=>?_;refine sA 1 L fun a s L=>?_;refine sv (zc3 (x:=[(2,0,0,0,0,r1,([]:Str))]) (ps:=[(0,.tmp 7)]) zfk J stt24 (.cons (i:=0) op J (zfl (zq _ _ _)) .nil) J J) L fun a s L=>?_;refine zw En.SDesc (z:=[]) 1 L zfk J J J J fun a s g3 hg_ L=>?_;refine sB 1 L fun s L=>?_;refine es ?_;obtain ⟨r4,h5,h⟩:=h;refine rs (sl 3 (p1 (zfn h5)) L fun a s L=>?_);have lt_d7:=L.blt 1 rfl;refine zw En.SDesc (z:=[]) 2 L zfk J J J J fun a s g6 hg_ L=>?_;have d7:=Dis.newg hg_ lt_d7;refine sB 2 L fun s L=>?_;refine es ?_;obtain ⟨r8,h9,h⟩:=h;refine rs (sl 2 (p1 (zdl h9)) L fun a s L=>?_);have lt_d12:=L.blt 2 rfl;have lt_d11:=L.blt 1 rfl;refine zw En.SDesc (z:=[]) 3 L zfk J J J J fun a s g10 hg_ L=>?_;have d11:=Dis.newg hg_ lt_d11;have d12:=Dis.newg hg_ lt_d12;refine sB 3 L fun s L=>?_;refine es ?_;obtain ⟨r13,h14,h⟩:=h;refine rs (sl 2 (p1 (zdl h14)) L fun a s L=>?_);have lt_d17:=L.blt 3 rfl;have lt_d16:=L.blt 1 rfl;refine zw En.SDesc (z:=[]) 4 L zfk J J J J fun a s g15 hg_ L=>?_;have d16:=Dis.newg hg_ lt_d16;have d17:=Dis.newg hg_ lt_d17;replace L:=L.dr (some g6);refine sB 4 L fun s L=>?_;refine es ?_
 obtain ⟨r18,h19,r20,h21,b22,h23,r24,h25,b26,h27,r28,h29,r30,h31,r32,h33,b34,h35,r36,h37,r38,h39,b40,h41,r42,h43,h⟩:=h;refine rs (sl 2 (p1 (zdt h19)) L fun a s L=>?_);refine sv (t_eqv zd3 op (o_s (by decide)) J J) L fun a s L=>?_;refine sl 8 (pp (fun hc_=>(zcu (h21 hc_))) (pp h23 (pp (fun hc_=>(zdt (h25 hc_))) trivial))) L fun a s L=>?_;refine sv (h27 ▸ (zdj J J J (fun hc_=>t_eqv zd3 (opc hc_) (o_s (by decide)) J J))) L fun a s L=>?_;refine sl 9 (pp (fun hc_=>(zcu (h29 hc_))) (pp (fun hc_=>(zb2 (h31 hc_))) (pp (fun hc_=>(zbm (h33 hc_))) trivial))) L fun a s L=>?_;refine sv (zdj J J J (fun hc_=>t_eqv zd3 (opc hc_) (o_s (by decide)) J J)) L fun a s L=>?_;refine sl 2 (p1 h35) L fun a s L=>?_;refine sv (zdj J J J (fun hc_=>t_bcls (x:=(0#256)) Ud.h (by rfl) ze6 (fun _=>by kernel_rfl) J J)) L fun a s L=>?_;refine sl 1 (pp (fun hc_=>(zbm (h37 hc_))) trivial) L fun a s L=>?_;refine sv (zdj J J J (fun hc_=>t_eqv zd3 (opc hc_) (o_s (by decide)) J J)) L fun a s L=>?_;refine sA 2 L fun a s L=>?_;refine sv (zdj J J J (fun hc_=>t_bcls (x:=(Cl.ofWords 5 0 0 0)) Ud.h (by rfl) ze6 (fun _=>by kernel_rfl) J J)) L fun a s L=>?_;refine sl 1 (pp (fun hc_=>(zbm (h39 hc_))) trivial) L fun a s L=>?_;refine sv (zdj J J J (fun hc_=>t_eqv zd3 (opc hc_) (o_s (by decide)) J J)) L fun a s L=>?_;refine sl 7 (pp h41 (pp (fun hc_=>(zcu (h43 hc_))) trivial)) L fun a s L=>?_;refine es ?_;subst h;exact wp_ret (zeh J L J)
theorem law06_PrintClass_ok {a_:Cl} {r_:Bool} (h:zf a_ r_):Fn Tryd.prog 4 [(Pd.rep En.cls a_)] (Rq (Pd.rep En.bool r_)):=by
 unfold zf at h;refine zbe Tryd.func4 J Tryd.ntmps4 (by rfl) (by simp) fun s0 a L=>?_;refine rA 2 L fun a s L=>?_;refine wp_seq_k fun K1 H1=>?_;obtain ⟨r2,h3,h⟩:=h;refine ra 2 (p1 (ze8 h3)) L fun a s L=>?_;refine cn L h (fun h=>?_) fun h=>?_
 ·refine rA 1 L fun a s L=>?_;subst h;exact wp_ret (zeh J L J)
 ·refine wp_skip (H1 _ _ ?_);obtain ⟨r4,h5,h⟩:=h;refine ra 3 (p1 (zbm h5)) L fun a s L=>?_;obtain ⟨r6,h7,h⟩:=h;refine rs (sl 3 (p1 ((zfp h7).tup3)) L fun a s L=>?_);refine sv (t_ext3_0 op J J) L fun a s L=>?_;refine sv (t_ext3_1 op J J) L fun a s L=>?_;refine sv (t_ext3_2 op J J) L fun a s L=>?_;refine sA 3 L fun a s L=>?_;refine es (wp_seq_k fun K8 H8=>?_);obtain ⟨e9,h10,b11,h12,e13,h14,h⟩:=h;refine wp_seq (rda zdi 22 [(Pi r6.2.1),(Pd.rep En.bool (r6.2.1 != 0)),(Pd.rep En.bool (r6.2.1 != 0)),(Pd.when (((r6.2.1 != 0))=false) (Pd.rep (En.slice En.SToken) r6.1)),(Pd.when (((r6.2.1 != 0))=false) (Pi (r6.1.length:Int))),(Pd.when (((r6.2.1 != 0))=false) (Pd.rep En.bool ((r6.1.length:Int) != 2))),(Pd.rep En.bool ((r6.2.1 != 0)||((r6.1.length:Int) != 2))),(Pd.rep En.bool ((r6.2.1 != 0)||((r6.1.length:Int) != 2))),(Pd.when ((((r6.2.1 != 0)||((r6.1.length:Int) != 2)))=false) (Pd.rep (En.slice En.SToken) r6.1)),(Pd.when ((((r6.2.1 != 0)||((r6.1.length:Int) != 2)))=false) (Pd.ptr En.SToken e9)),(Pd.when ((((r6.2.1 != 0)||((r6.1.length:Int) != 2)))=false) (Pd.ptr (En.int .i64) e9.1)),(Pd.when ((((r6.2.1 != 0)||((r6.1.length:Int) != 2)))=false) (Pi e9.1)),(Pd.when ((((r6.2.1 != 0)||((r6.1.length:Int) != 2)))=false) (Pd.rep En.bool (e9.1 != 1))),(Pd.rep En.bool b11),(Pd.rep En.bool b11),(Pd.when ((b11)=false) (Pd.rep (En.slice En.SToken) r6.1)),(Pd.when ((b11)=false) (Pd.ptr En.SToken e13)),(Pd.when ((b11)=false) (Pd.ptr En.cls e13.2.2.1)),(Pd.when ((b11)=false) (Pd.rep En.cls e13.2.2.1)),(Pd.when ((b11)=false) (Pd.rep En.cls a_)),(Pd.when ((b11)=false) (Pd.rep En.bool (e13.2.2.1 != a_))),(Pd.rep En.bool (b11||(e13.2.2.1 != a_)))] L (by kernel_rfl) J J ?_ ?_)
  ·refine z7.cons (zbl (O 5 J) J J) ?_;refine z7.cons (t_nei (O 19 J) oI J J) ?_;refine z7.cons (zbl (O 20 J) J J) ?_;refine z7.cons (zdj J J J (fun hc_=>zbl (O 4 J) J J)) ?_;refine z7.cons (zdj J J J (fun hc_=>t_len (o_w hc_ 22 J) Tryd.underlying34 J J)) ?_;refine z7.cons (zdj J J J (fun hc_=>t_nei (o_w hc_ 23 J) oI J J)) ?_;refine z7.cons (t_or (O 21 J) (fun hc2_=>(o_w hc2_ 24 J)) J J) ?_;refine z7.cons (zbl (O 25 J) J J) ?_;refine z7.cons (zdj J J J (fun hc_=>zbl (O 4 J) J J)) ?_;refine z7.cons (zdj J J J (fun hc_=>t_idx (o_w hc_ 27 J) oI (h10 hc_) Tryd.underlying34 ty38 J J)) ?_;refine z7.cons (zdj J J J (fun hc_=>t_fa (off:=0) (o_w hc_ 28 J) Tryd.underlying38 J (zb4 (zbd _ _)) J ty3 J J)) ?_;refine z7.cons (zdj J J J (fun hc_=>zce ty3 (o_w hc_ 29 J) J J)) ?_;refine z7.cons (zdj J J J (fun hc_=>t_nei (o_w hc_ 30 J) oI J J)) ?_;refine z7.cons (h12 ▸ (t_or (O 26 J) (fun hc2_=>(o_w hc2_ 31 J)) J J)) ?_;refine z7.cons (zbl (O 32 J) J J) ?_;refine z7.cons (zdj J J J (fun hc_=>zbl (O 4 J) J J)) ?_;refine z7.cons (zdj J J J (fun hc_=>t_idx (o_w hc_ 34 J) oI (h14 hc_) Tryd.underlying34 ty38 J J)) ?_;refine z7.cons (zdj J J J (fun hc_=>t_fa (off:=2) (o_w hc_ 35 J) Tryd.underlying38 J (zl (zl (zb4 (zbd _ _)) J) J) J ty27 J J)) ?_;refine z7.cons (zdj J J J (fun hc_=>zce ty27 (o_w hc_ 36 J) J J)) ?_;refine z7.cons (zdj J J J (fun hc_=>zce ty27 (O 1 J) J J)) ?_;refine z7.cons (zdj J J J (fun hc_=>t_nev eq27 (o_w hc_ 37 J) (o_w hc_ 38 J) J J)) ?_;refine z7.cons (t_or (O 33 J) (fun hc2_=>(o_w hc2_ 39 J)) J J) ?_
   exact z7.nil
  intro a s _ L;replace L:=L.kk (L':=[(1,(Pd.ptr En.cls a_)),(3,(Pd.rep En.str r4)),(40,(Pd.rep En.bool (b11||(e13.2.2.1 != a_))))]);refine dp ?_;refine es (cn L h (fun h=>?_) fun h=>?_)
  ·refine rA 1 L fun a s L=>?_;subst h;exact wp_ret (zeh J L J)
  ·refine wp_skip (H8 _ _ ?_);refine rA 1 L fun a s L=>?_;refine wp_seq_k fun K15 H15=>rA 1 L fun a s L=>?_;refine wp_block ?_;have J17:∀(n16:Int) (a:Act) (s:St),Has N0 64 s0 a s [(1,(Pd.ptr En.cls a_)),(3,(Pd.rep En.str r4)),(7,(Pi n16))]→((zf.j1 a_ r_ r4) n16)→K15 a s.w:=by
    intro n16 a s L h;unfold zf.j1 at h;show K15 a s.w;refine H15 _ _ ?_;obtain ⟨r18,h19,b20,h21,h⟩:=h;refine wp_seq (rda zdi 13 [(Pd.rep En.str r4),(Pi (r4.length:Int)),(Pi n16),(Pi (max n16 2)),(Pd.rep En.bool (decide ((r4.length:Int)≤(max n16 2)))),(Pd.rep En.bool (decide ((r4.length:Int)≤(max n16 2)))),(Pd.when ((decide ((r4.length:Int)≤(max n16 2)))=true) (Pd.rep En.str r4)),(Pd.when ((decide ((r4.length:Int)≤(max n16 2)))=true) (Pd.rep En.bool (r4==([46]:Str)))),(Pd.when ((decide ((r4.length:Int)≤(max n16 2)))=true) (Pd.rep En.cls a_)),(Pd.when ((decide ((r4.length:Int)≤(max n16 2)))=true) (Pd.rep En.cls r18)),(Pd.when ((decide ((r4.length:Int)≤(max n16 2)))=true) (Pd.rep En.bool (a_==r18))),(Pd.when ((decide ((r4.length:Int)≤(max n16 2)))=true) (Pd.rep En.bool ((r4==([46]:Str))==(a_==r18)))),(Pd.rep En.bool b20)] L (by kernel_rfl) J J ?_ ?_)
    ·refine z7.cons (zbl (O 3 J) J J) ?_;refine z7.cons (t_slen (O 51 J) Tryd.underlying9 J J) ?_;refine z7.cons (zbl (O 7 J) J J) ?_;refine z7.cons (t_max (O 53 J) oI J J) ?_;refine z7.cons (t_leq (O 52 J) (O 54 J) J J) ?_;refine z7.cons (zbl (O 55 J) J J) ?_;refine z7.cons (zdj J J J (fun hc_=>zbl (O 3 J) J J)) ?_;refine z7.cons (zdj J J J (fun hc_=>t_eqv zd3 (o_w hc_ 57 J) (o_s (by decide)) J J)) ?_;refine z7.cons (zdj J J J (fun hc_=>zce ty27 (O 1 J) J J)) ?_;refine z7.cons (zdj J J J (fun hc_=>zfc (zb2 (h19 hc_)) (xs:=[.const (.int .u8 0),.const (.int .u8 255)]) (.cons (o_i (k:=.u8) (by decide)) (.cons (o_i (k:=.u8) (by decide)) .nil)) J J)) ?_;refine z7.cons (zdj J J J (fun hc_=>t_eqv eq27 (o_w hc_ 59 J) (o_w hc_ 60 J) J J)) ?_;refine z7.cons (zdj J J J (fun hc_=>t_eqb (o_w hc_ 58 J) (o_w hc_ 61 J) Tryd.underlying4 J J)) ?_;refine z7.cons (h21 ▸ (t_and (O 56 J) (fun hc2_=>(o_w hc2_ 62 J)) J J)) ?_;exact z7.nil
    intro a s _ L;replace L:=L.kk (L':=[(63,(Pd.rep En.bool b20))]);refine dp ?_;refine sA 1 L fun a s L=>?_;refine es ?_;subst h;exact wp_ret (zeh J L J)
   obtain ⟨k24,h⟩:=h;refine lpn (fun k25 a s=>∃(n22:Int) (c23:Int),Has N0 64 s0 a s [(1,(Pd.ptr En.cls a_)),(3,(Pd.rep En.str r4)),(7,(Pi n22)),(8,(Pi c23))]∧zf.l1 a_ (zf.j1 a_ r_ r4) k25 n22 c23) k24 ⟨1,0,L.kk,h⟩ ?_;rintro k25 a s ⟨n22,c23,L,h⟩ KL26 hKL26;unfold zf.l1 at h;refine wp_seq_k fun K27 H27=>rA 2 L fun a s L=>?_;refine cn L h (fun h=>?_) fun h=>?_
   ·refine wp_skip (H27 _ _ ?_);refine wp_seq_k fun K28 H28=>wp_block ?_;obtain ⟨r29,h30,h⟩:=h;refine ra 4 (p1 (zd9 h30)) L fun a s L=>?_;refine cn L h (fun h=>?_) fun h=>?_
    ·obtain ⟨h31,h⟩:=h;refine rg (sA 3 L fun a s L=>?_);refine en' (H28 _ _ ?_);obtain ⟨h32,h⟩:=h;refine rg (sA 3 L fun a s L=>?_);refine en' ?_;exact hKL26 a s ⟨(n22+3),(c23+1),L.kk,h⟩
    ·refine wp_skip (H28 _ _ ?_);obtain ⟨h33,h⟩:=h;refine rg (sA 3 L fun a s L=>?_);refine en' ?_;exact hKL26 a s ⟨n22,(c23+1),L.kk,h⟩
   ·refine wp_exit ?_;exact J17 n22 a s (L.kk) h
theorem dt {p:Prop} [Decidable p] (h:decide p=true):p:=of_decide_eq_true h
theorem df {p:Prop} [Decidable p] (h:decide p=false):¬ p:=of_decide_eq_false h
theorem upto {σ:Type} {P:Nat→σ→Int→Prop} (n:Nat) (I:Nat→σ→Prop)
  (hs:∀i s,i<n→I i s→(∀k,P (k+1) s (i:Int))∨∃s',I (i+1) s'∧∀k,P k s' ((i:Int)+1)→P (k+1) s (i:Int))
  (hx:∀s,I n s→∀k,P (k+1) s (n:Int)) (s:σ) (h:I 0 s):∃k,P k s 0:=by
 have:∀m i s,i+m=n→I i s→∃k,P k s (i:Int):=by
  intro m
  induction m with
  | zero=>intro i s hi hI;have:i=n:=by omega
          subst this;exact ⟨1,hx s hI 0⟩
  | succ m ih=>
   intro i s hi hI;rcases hs i s (by omega) hI with h | ⟨s',h1,h2⟩
   ·exact ⟨1,h 0⟩
   ·obtain ⟨k,hk⟩:=ih (i+1) s' (by omega) h1;exact ⟨k+1,h2 k (by simpa using hk)⟩
 simpa using this n 0 s (by omega) h
theorem run {σ:Type} {P:Nat→σ→Prop} (I:σ→Prop) (μ:σ→Nat) (h:∀s,I s→(∀k,P (k+1) s)∨∃s',I s'∧μ s' < μ s∧∀k,P k s'→P (k+1) s) (s:σ) (hI:I s):∃k,P k s:=by
 have:∀m s,μ s<m→I s→∃k,P k s:=by
  intro m
  induction m with
  | zero=>intro s hs;omega
  | succ m ih=>
   intro s hs hI;rcases h s hI with h1 | ⟨s',h1,h2,h3⟩
   ·exact ⟨1,h1 0⟩
   ·obtain ⟨k,hk⟩:=ih s' (by omega) h1;exact ⟨k+1,h3 k hk⟩
 exact this (μ s+1) s (by omega) hI
theorem zh {x:Int} (h1:-9223372036854775808≤x) (h2:x≤9223372036854775807):InR .i64 x:=inR_i64.2 ⟨h1,h2⟩
theorem zc9 {α:Type} {xs:List α} {i:Nat}:at? xs (i:Int)=xs[i]?:=by
 unfold at?;rw [if_pos (by omega)];simp
theorem has_or {a b:Cl} {m:Nat}:(a ||| b).has m=(a.has m||b.has m):=BitVec.getLsbD_or
theorem has_w {a:Cl} {n:Nat} (h:n<256):a.has n=(a.word (n / 64)).testBit (n % 64):=by
 rw [Cl.word_bit];simp [Nat.mod_lt,Nat.div_add_mod]
theorem setw_word {a:Cl} {i:Nat} {v:Int} (hv:v.toNat<2 ^ 64) (j:Nat) (hj:j<4):(a.setw (i:Int) v).word j=if j=i then v.toNat else a.word j:=by
 unfold Cl.setw;have hw:∀k,a.word k<2 ^ 64:=a.word_lt;have hb:∀(c:Prop) [Decidable c] (k:Nat),(if c then v.toNat else a.word k)<2 ^ 64:=fun c _ k=>by split <;> simp_all
 obtain ⟨h0,h1,h2,h3⟩:=Cl.ofWords_word (hb ((i:Int)=0) 0) (hb ((i:Int)=1) 1) (hb ((i:Int)=2) 2) (hb ((i:Int)=3) 3)
 match j,hj with
 | 0,_=>rw [h0];split <;> split <;> first | rfl | omega
 | 1,_=>rw [h1];split <;> split <;> first | rfl | omega
 | 2,_=>rw [h2];split <;> split <;> first | rfl | omega
 | 3,_=>rw [h3];split <;> split <;> first | rfl | omega
theorem shr_bit {w k:Nat} (hk:k<64):(andI (shrI (w:Int) (k:Int)) 1==1)=w.testBit k:=by
 unfold andI shrI;rw [show min ((k:Int)).toNat 64=k by simp;omega];have h:((w:Int) / 2 ^ k).toNat=w / 2 ^ k:=by
  rw [show ((2:Int) ^ k)=((2 ^ k:Nat):Int) by simp,← Int.natCast_ediv];exact Int.toNat_natCast _
 rw [h];simp only [Int.toNat_one,Nat.and_one_is_mod,Nat.testBit_eq_decide_div_mod_eq];have:=Nat.mod_two_eq_zero_or_one (w / 2 ^ k);rcases this with h | h <;> rw [h] <;> rfl
def Cl.row (f t:Int):Cl:=Cl.of fun n=>decide (f≤(n:Int))&&decide ((n:Int)≤t)
theorem has_row {f t:Int} {n:Nat} (h:n<256):(Cl.row f t).has n=(decide (f≤(n:Int))&&decide ((n:Int)≤t)):=Cl.of_has _ h
def Cl.count (a:Cl):Nat:=(List.range 256).countP a.has
def Cl.list (a:Cl):List Bool:=(List.range 256).map a.has
theorem u8_of {c:Int} (h:InR .u8 c):∃n:Nat,n<256∧c=n:=by
 rw [zed] at h;exact ⟨c.toNat,by omega,by omega⟩
theorem list_get {a:Cl} {n:Nat} (h:n<256):a.list[n]?=some (a.has n):=by simp [Cl.list,h]
theorem list_len {a:Cl}:a.list.length=256:=by simp [Cl.list]
def Cl.ofL (l:List Bool):Cl:=Cl.of fun n=>l.getD n false
theorem has_ofL {l:List Bool} {n:Nat} (h:n<256):(Cl.ofL l).has n=l.getD n false:=Cl.of_has _ h
theorem at_nn {α:Type} {l:List α} {i:Int} {x:α} (h:at? l i=some x):∃k:Nat,i=(k:Int)∧l[k]?=some x:=by
 unfold at? at h;split at h
 ·exact ⟨i.toNat,by omega,h⟩
 ·cases h
theorem zc1 {α:Type} {d:List α} {i:Int} {n:α} (hn:at? d i=some n):0≤i∧i<(d.length:Int):=by
 obtain ⟨j,rfl,hj⟩:=at_nn hn;have:=(List.getElem?_eq_some_iff.1 hj).1;omega
def sumT (l:List SNode):Nat:=(l.map fun n=>n.2.2.2.2.2.2.length).sum
inductive Tr (l:List SNode):Int→Int→Prop
 | leaf {i:Int} {e:SNode} (he:at? l i=some e) (hk:e.1=1∨e.1=2∨e.1=3) (hx:e.1=3→e.2.2.2.2.2.2≠[]∧∀b∈e.2.2.2.2.2.2,b≠34) (h0:e.2.1=0∧e.2.2.1=0):Tr l i i
 | one {f i:Int} {e:SNode} (he:at? l i=some e) (hk:e.1=6∨e.1=7∨e.1=8∨e.1=9) (ha:e.2.1=i-1) (hb:e.2.2.1=0) (hr:e.1=7→0≤e.2.2.2.1∧e.2.2.2.1≤e.2.2.2.2.1∧e.2.2.2.2.1≤255) (h:Tr l f (i-1)):Tr l f i
 | two {f p i:Int} {e:SNode} (he:at? l i=some e) (hk:e.1=4∨e.1=5) (ha:e.2.1=p-1) (hb:e.2.2.1=i-1) (h1:Tr l p (i-1)) (h2:Tr l f (p-1)):Tr l f i
theorem Tr.le {l:List SNode} {f i:Int} (h:Tr l f i):0≤f∧f≤i:=by
 induction h with
 | leaf he _ _ _=>exact ⟨(zc1 he).1,Int.le_refl _⟩
 | one _ _ _ _ _ _ ih=>omega
 | two _ _ _ _ _ _ i1 i2=>omega
theorem Tr.lt {l:List SNode} {f i:Int} (h:Tr l f i):i<(l.length:Int):=by
 cases h with
 | leaf he _ _ _=>exact (zc1 he).2
 | one he _ _ _ _ _=>exact (zc1 he).2
 | two he _ _ _ _ _=>exact (zc1 he).2
theorem Tr.sub {l:List SNode} {f i:Int} (h:Tr l f i):∀k,f≤k→k≤i→∃g,Tr l g k∧f≤g:=by
 induction h with
 | leaf he hk hx h0=>
  rename_i i e
  intro k h1 h2;obtain rfl:k=i:=by omega
  exact ⟨k,.leaf he hk hx h0,Int.le_refl _⟩
 | one he hk ha hb hr h ih=>
  rename_i f i e
  intro k h1 h2
  by_cases hki:k=i
  ·subst hki;exact ⟨f,.one he hk ha hb hr h,Int.le_refl _⟩
  ·exact ih k h1 (by omega)
 | two he hk ha hb h1 h2 i1 i2=>
  rename_i f p i e
  intro k k1 k2;have l1:=h1.le;have l2:=h2.le
  by_cases hki:k=i
  ·subst hki;exact ⟨f,.two he hk ha hb h1 h2,Int.le_refl _⟩
  ·by_cases hkp:p≤k
   ·obtain ⟨g,g1,g2⟩:=i1 k hkp (by omega);exact ⟨g,g1,by omega⟩
   ·exact i2 k k1 (by omega)
theorem Tr.at {d:List SNode} (h:Tr d 0 ((d.length:Int)-1)) {i:Int} {n:SNode} (hn:at? d i=some n):∃g,Tr d g i:=by
 have hb:=zc1 hn;obtain ⟨g,hg,_⟩:=h.sub i hb.1 (by omega);exact ⟨g,hg⟩
def movN (c:Int) (n:SNode):SNode:=(n.1,if 4≤n.1 then n.2.1+c else n.2.1,if n.1=4∨n.1=5 then n.2.2.1+c else n.2.2.1,n.2.2.2.1,n.2.2.2.2.1,n.2.2.2.2.2.1,n.2.2.2.2.2.2)
def zff (c:Int) (l:List SNode):List SNode:=l.map (movN c)
theorem zcm (c:Int) (l:List SNode):(zff c l).length=l.length:=List.length_map ..
theorem moved_in {l:List SNode} {c:Int} (hl:l.length≤1000) (hr:∀n∈l,InR .i64 (n.2.1+c)∧InR .i64 (n.2.2.1+c)):zd l c (zff c l):=by
 refine upto (P:=fun k (o:List SNode) v=>zd.l1 l c _ k o v) l.length (fun i o=>o=zff c (l.take i)) ?_ ?_ [] (by simp [zff])
 ·rintro i o hi rfl;have hat:at? l (i:Int)=some l[i]:=by rw [zc9];simp [hi]
  obtain ⟨r1,r2⟩:=hr _ (List.getElem_mem hi);have e:zff c (l.take (i+1))=zff c (l.take i)++[movN c l[i]]:=by
   unfold zff;rw [List.take_succ_eq_append_getElem hi,List.map_append];rfl
  have hll:(zff c (l.take i)).length=i:=by rw [zcm];simp;omega
  refine .inr ⟨_,rfl,fun k hk=>⟨fun _=>⟨l[i],hat, ?_⟩,fun h=>absurd (by omega) (df h)⟩⟩;rw [e] at hk;have last:∀w:SNode,w=movN c l[i]→zd.j2 (zd.l1 l c (zd.j1 (zff c l)) k) (zff c (l.take i)) (i:Int) w:=by
   rintro w rfl;exact ⟨by rw [hll];simp;omega,zh (by omega) (by omega),hk⟩
  generalize l[i]=n at *;obtain ⟨k0,a,b,lo,hi2,cl,tx⟩:=n;simp only at r1 r2;refine ⟨fun h4=>⟨r1,fun h5=>⟨r2,last _ ?_⟩,fun h5=>last _ ?_⟩,fun h4=>⟨fun h5=>?_,fun h5=>last _ ?_⟩⟩
  ·have:=dt h4;simp only at this;simp only [Bool.or_eq_true,beq_iff_eq] at h5;simp only [movN,if_pos this,if_pos h5]
  ·have:=dt h4;simp only at this;simp only [Bool.or_eq_false_iff,beq_eq_false_iff_ne] at h5;have h5':¬ (k0=4∨k0=5):=by omega
   simp only [movN,if_pos this,if_neg h5']
  ·exfalso;have:=df h4;simp only at this;simp only [Bool.or_eq_true,beq_iff_eq] at h5;omega
  ·have:=df h4;simp only at this;have h5':¬ (k0=4∨k0=5):=by omega
   simp only [movN,if_neg this,if_neg h5']
 ·rintro o rfl k;refine ⟨fun h=>absurd (dt h) (by omega),fun _=>?_⟩;show zff c l=zff c (l.take l.length);rw [List.take_length]
theorem movN_zero (n:SNode):movN 0 n=n:=by
 obtain ⟨k,a,b,r⟩:=n;simp [movN]
theorem movL_zero (l:List SNode):zff 0 l=l:=by
 unfold zff;rw [show movN 0=id from funext movN_zero,List.map_id]
def zew (k:Int) (a b:List SNode):List SNode:=(a++zff (a.length:Int) b)++[(k,(a.length:Int)-1,((a.length:Int)+(b.length:Int))-1,0,0,(0#256),([]:Str))]
def zfj (k:Int) (a:List SNode):List SNode:=a++[(k,(a.length:Int)-1,0,0,0,(0#256),([]:Str))]
structure Sma (d:List SNode):Prop where
 a:∀n∈d,0≤n.2.1∧n.2.1≤(d.length:Int)
 b:∀n∈d,0≤n.2.2.1∧n.2.2.1≤(d.length:Int)
theorem Tr.parts {l:List SNode} {f i:Int} (h:Tr l f i) {n:SNode} (hn:at? l i=some n):(0≤n.2.1∧n.2.1≤i)∧(0≤n.2.2.1∧n.2.2.1≤i):=by
 have hb:=zc1 hn;cases h with
 | leaf he hk hx h0=>rw [hn] at he;cases he;omega
 | one he hk ha hb hr h=>rw [hn] at he;cases he;have:=h.le;omega
 | two he hk ha hb h1 h2=>rw [hn] at he;cases he;have:=h1.le;have:=h2.le;omega
theorem mem_at {α:Type} {l:List α} {x:α} (h:x∈l):∃i:Int,at? l i=some x:=by
 obtain ⟨i,hi,e⟩:=List.mem_iff_getElem.1 h;exact ⟨(i:Int),by rw [zc9];simp [hi,e]⟩
theorem Tr.sma {d:List SNode} (h:Tr d 0 ((d.length:Int)-1)):Sma d:=by
 constructor
 all_goals
  intro n hn;obtain ⟨i,hi⟩:=mem_at hn;obtain ⟨g,hg⟩:=h.at hi;have:=hg.parts hi;have:=zc1 hi;omega
theorem zfs {d:List SNode} (h:Tr d 0 ((d.length:Int)-1)) (hl:d.length≤1000) {c:Int} (h0:0≤c) (h1:c≤1000):zd d c (zff c d):=
 moved_in hl fun n hn=>by
  have:=h.sma.a n hn;have:=h.sma.b n hn;exact ⟨zh (by omega) (by omega),zh (by omega) (by omega)⟩
theorem Pair_in {k:Int} {a b:List SNode} (ha:Tr a 0 ((a.length:Int)-1)) (hb:Tr b 0 ((b.length:Int)-1)) (la:a.length≤1000) (lb:b.length≤1000):zda k a b (zew k a b):=by
 refine ⟨_,zfs ha la (Int.le_refl 0) (by omega),_,zfs hb lb (c:=(a.length:Int)) (by omega) (by omega),by rw [zcm,zcm];omega,zh (by omega) (by omega),zh (by omega) (by omega),zh (by omega) (by omega),by rw [List.length_append,zcm,zcm];simp;omega, ?_⟩;rw [movL_zero];rfl
theorem Wrap_in {k:Int} {a:List SNode} (ha:Tr a 0 ((a.length:Int)-1)) (la:a.length≤1000):zcp k 0 0 a (zfj k a):=by
 refine ⟨_,zfs ha la (Int.le_refl 0) (by omega),zh (by omega) (by omega),by rw [zcm];simp;omega, ?_⟩;rw [movL_zero];rfl
structure Emb (l l':List SNode) (c:Int):Prop where
 nn:0≤c
 at':∀i n,at? l i=some n→at? l' (i+c)=some (movN c n)
theorem Tr.emb {l l':List SNode} {c:Int} (h:Emb l l' c) {f i:Int} (t:Tr l f i):Tr l' (f+c) (i+c):=by
 induction t with
 | leaf he hk hx h0=>
  rename_i i e
  have e1:movN c e=e:=by
   obtain ⟨k,a,b,r⟩:=e;simp only at hk;simp only [movN,if_neg (show ¬ 4≤k by omega),if_neg (show ¬ (k=4∨k=5) by omega)]
  exact .leaf (e1 ▸ h.at' _ _ he) hk hx h0
 | one he hk ha hb hr t ih=>
  rename_i f i e
  refine .one (h.at' _ _ he) hk ?_ ?_ hr (by have e:i-1+c=i+c-1:=by omega
                                             rw [← e];exact ih)
  ·simp only [movN];rw [if_pos (by omega)];omega
  ·simp only [movN];rw [if_neg (by omega)];exact hb
 | two he hk ha hb t1 t2 i1 i2=>
  rename_i f p i e
  refine .two (p:=p+c) (h.at' _ _ he) hk ?_ ?_ (by have e:i-1+c=i+c-1:=by omega
                                                   rw [← e];exact i1) (by have e:p-1+c=p+c-1:=by omega
                                                                          rw [← e];exact i2)
  ·simp only [movN];rw [if_pos (by omega)];omega
  ·simp only [movN];rw [if_pos (by omega)];omega
theorem at_left {α:Type} {a b:List α} {i:Int} {x:α} (h:at? a i=some x):at? (a++b) i=some x:=by
 obtain ⟨k,rfl,hk⟩:=at_nn h;rw [zc9,List.getElem?_append_left (List.getElem?_eq_some_iff.1 hk).1];exact hk
theorem zfu {α:Type} {a b:List α} {i:Int} {x:α} (h:at? b i=some x):at? (a++b) (i+(a.length:Int))=some x:=by
 obtain ⟨k,rfl,hk⟩:=at_nn h;have e:(k:Int)+(a.length:Int)=((k+a.length:Nat):Int):=by omega
 rw [e,zc9,List.getElem?_append_right (by omega),Nat.add_sub_cancel];exact hk
theorem at_movL {c:Int} {l:List SNode} {i:Int} {n:SNode} (h:at? l i=some n):at? (zff c l) i=some (movN c n):=by
 obtain ⟨k,rfl,hk⟩:=at_nn h;rw [zc9];unfold zff;rw [List.getElem?_map,hk];rfl
theorem emb_left {a:List SNode} (r:List SNode):Emb a (a++r) 0:=⟨Int.le_refl _,fun i n h=>by rw [movN_zero,Int.add_zero];exact at_left h⟩
theorem emb_mid {a b r:List SNode}:Emb b ((a++zff (a.length:Int) b)++r) (a.length:Int):=⟨by omega,fun i n h=>at_left (zfu (at_movL h))⟩
theorem pair_len (k:Int) (a b:List SNode):(zew k a b).length=a.length+b.length+1:=by simp [zew,zcm];omega
theorem wrap_len (k:Int) (a:List SNode):(zfj k a).length=a.length+1:=by simp [zfj]
theorem pair_root (k:Int) (a b:List SNode):at? (zew k a b) ((a.length:Int)+(b.length:Int))=some (k,(a.length:Int)-1,((a.length:Int)+(b.length:Int))-1,0,0,(0#256),([]:Str)):=by
 have:=zfu (a:=a++zff (a.length:Int) b) (b:=[(k,(a.length:Int)-1,((a.length:Int)+(b.length:Int))-1,0,0,(0#256),([]:Str))]) (i:=0) rfl;rw [List.length_append,zcm] at this;have e:(0:Int)+((a.length+b.length:Nat):Int)=(a.length:Int)+(b.length:Int):=by omega
 rw [e] at this;exact this
theorem wrap_root (k:Int) (a:List SNode):at? (zfj k a) (a.length:Int)=some (k,(a.length:Int)-1,0,0,0,(0#256),([]:Str)):=by
 have:=zfu (a:=a) (b:=[(k,(a.length:Int)-1,0,0,0,(0#256),([]:Str))]) (i:=0) rfl;rw [Int.zero_add] at this;exact this
theorem pair_embs {k:Int} {a b:List SNode}:Emb a (zew k a b) 0∧Emb b (zew k a b) (a.length:Int):=⟨by unfold zew;rw [List.append_assoc];exact emb_left _,emb_mid⟩
theorem pair_tr {k:Int} {a b:List SNode} (ha:Tr a 0 ((a.length:Int)-1)) (hb:Tr b 0 ((b.length:Int)-1)) (hk:k=4∨k=5):Tr (zew k a b) 0 (((zew k a b).length:Int)-1):=by
 obtain ⟨ea,eb⟩:=pair_embs (k:=k) (a:=a) (b:=b);have ta:=ha.emb ea;have tb:=hb.emb eb;have e:(((zew k a b).length:Int)-1)=(a.length:Int)+(b.length:Int):=by rw [pair_len];omega
 rw [e];refine .two (p:=(a.length:Int)) (pair_root k a b) hk rfl rfl ?_ ?_
 ·have e1:(b.length:Int)-1+(a.length:Int)=(a.length:Int)+(b.length:Int)-1:=by omega
  rw [e1,Int.zero_add] at tb;exact tb
 ·rw [Int.add_zero,Int.add_zero] at ta;exact ta
theorem wrap_tr {k:Int} {a:List SNode} (ha:Tr a 0 ((a.length:Int)-1)) (hk:k=6∨k=8∨k=9):Tr (zfj k a) 0 (((zfj k a).length:Int)-1):=by
 have ta:=ha.emb (emb_left (a:=a) [(k,(a.length:Int)-1,0,0,0,(0#256),([]:Str))]);have e:(((zfj k a).length:Int)-1)=(a.length:Int):=by rw [wrap_len];omega
 rw [e];refine .one (wrap_root k a) (by simp only;omega) rfl rfl (fun h=>by simp only at h;omega) ?_;rw [Int.add_zero,Int.add_zero] at ta;exact ta
theorem leaf_tr {n:SNode} (hk:n.1=1∨n.1=2) (h0:n.2.1=0∧n.2.2.1=0):Tr [n] 0 ((([n]:List SNode).length:Int)-1):=.leaf (e:=n) rfl (by omega) (fun h=>by omega) h0
abbrev Txt (d:List SNode):Prop:=∀n∈d,n.2.2.2.2.2.2.length≤140737488351232
theorem class_Has_in {a:Cl} {n:Nat} (hn:n<256):zcd a (n:Int) (a.has n):=by
 refine ⟨⟨by omega,by omega⟩,_,rfl, ?_⟩;rw [show ((n:Int) / 64)=((n / 64:Nat):Int) by omega,show ((n:Int) % 64)=((n % 64:Nat):Int) by omega];show _=(andI (shrI (((a.word ((n / 64:Nat):Int).toNat):Nat):Int) _) 1==1);rw [Int.toNat_natCast,shr_bit (Nat.mod_lt _ (by omega)),has_w hn]
theorem zbv {a:Cl} {i:Nat} (hi:i<256):zcd a ((i:Int) % 256) (a.has i):=by
 rw [show ((i:Int) % 256)=(i:Int) by omega];exact class_Has_in hi
theorem zfa {a:Cl}:zn a (a.count:Int):=by
 refine upto (P:=fun k (s:Int) v=>zn.l1 a _ k s v) 256 (fun i s=>s=(((List.range i).countP a.has:Nat):Int)) ?_ ?_ _ (by simp)
 ·rintro i s hi rfl;have hle:=List.countP_le_length (l:=List.range i) (p:=a.has);simp only [List.length_range] at hle;refine .inr ⟨_,rfl,fun k h=>⟨fun _=>⟨a.has i,zbv hi,fun hc=>?_,fun hc=>?_⟩,fun h=>absurd (by omega) (df h)⟩⟩
  ·rw [List.range_succ,List.countP_append,List.countP_singleton,hc] at h;exact ⟨zh (by omega) (by omega),zh (by omega) (by omega),by simpa using h⟩
  ·rw [List.range_succ,List.countP_append,List.countP_singleton,hc] at h;exact ⟨zh (by omega) (by omega),by simpa using h⟩
 ·rintro s rfl k;exact ⟨fun h=>absurd (dt h) (by omega),fun _=>rfl⟩
theorem word_of_bits {r:Cl} {i v:Nat} (hi:i<4) (hv:v<2 ^ 64) (h:∀j,j<64→r.has (64*i+j)=v.testBit j):r.word i=v:=by
 apply Nat.eq_of_testBit_eq;intro j;rw [Cl.word_bit]
 by_cases hj:j<64
 ·simp [hj,h j hj]
 ·have:v<2 ^ j:=Nat.lt_of_lt_of_le hv (Nat.pow_le_pow_right (by omega) (by omega));simp [hj,Nat.testBit_lt_two_pow this]
theorem ref01_Has_in {a:Cl} {n:Nat} (hn:n<256):z6 a (n:Int) (a.has n):=by
 refine ⟨by omega,⟨by omega,by omega⟩, ?_⟩;have hw:Cl.w a ((n:Int) / 64)=((a.word (n / 64):Nat):Int):=by
  rw [show ((n:Int) / 64)=((n / 64:Nat):Int) by omega];rfl
 rw [hw];refine upto (P:=fun k (s:Int) v=>z6.l1 (n:Int) _ k s v) (n % 64) (fun i s=>s=((a.word (n / 64) / 2 ^ i:Nat):Int)) ?_ ?_ _ (by simp)
 ·rintro i s hi rfl;refine .inr ⟨_,rfl,fun k h=>⟨by omega,fun _=>⟨zh (by omega) (by omega), ?_⟩,fun h=>absurd (by omega) (df h)⟩⟩;rw [Nat.pow_succ,← Nat.div_div_eq_div_mul,Int.natCast_ediv] at h;exact h
 ·rintro s rfl k;refine ⟨by omega,fun h=>absurd (dt h) (by omega),fun _=>?_⟩;show a.has n=_;rw [has_w hn,Nat.testBit_eq_decide_div_mod_eq];rcases Nat.mod_two_eq_zero_or_one (a.word (n / 64) / 2 ^ (n % 64)) with h | h
  ·rw [h,show (((a.word (n / 64) / 2 ^ (n % 64):Nat):Int) % 2)=0 by omega];rfl
  ·rw [h,show (((a.word (n / 64) / 2 ^ (n % 64):Nat):Int) % 2)=1 by omega];rfl
theorem zdq {a:Cl} {i:Nat} (hi:i<256):z6 a ((i:Int) % 256) (a.has i):=by
 rw [show ((i:Int) % 256)=(i:Int) by omega];exact ref01_Has_in hi
theorem zdo {a:Cl}:zr a a.list:=by
 refine upto (P:=fun k (s:List Bool) v=>zr.l1 a _ k s v) 256 (fun i s=>s=(List.range i).map a.has) ?_ ?_ _ (by simp)
 ·rintro i s hi rfl;refine .inr ⟨_,rfl,fun k h=>⟨fun _=>⟨a.has i,zdq hi,by simp;omega,zh (by omega) (by omega), ?_⟩,fun h=>absurd (by omega) (df h)⟩⟩;rw [List.range_succ,List.map_append] at h;exact h
 ·rintro s rfl k;exact ⟨fun h=>absurd (dt h) (by omega),fun _=>rfl⟩
theorem ref01_Of_l2 {l:List Bool} (hl:l.length=256) {w:Nat} (hw:w<4) {X:Cl→Prop} {s:Cl} (h0:s.word w=0) (hX:∀t:Cl,(∀j,j<4→t.word j=if j=w then zbj (fun j=>l.getD (64*w+j) false) 64 else s.word j)→X t):
  ∃k,zi.l2 l (w:Int) X k s 1 0:=by
 refine upto (P:=fun k (s:Cl × Int) v=>zi.l2 l (w:Int) X k s.1 s.2 v) 64
  (fun i t=>(∀j,j<4→t.1.word j=if j=w then zbj (fun j=>l.getD (64*w+j) false) i else s.word j)∧t.2=((2 ^ i % 2 ^ 64:Nat):Int)) ?_ ?_ (s,1) ?_
 ·rintro i ⟨t,b⟩ hi ⟨h1,h2⟩;simp only at h1 h2;subst h2;have hb:=ze4 (fun j=>l.getD (64*w+j) false) (i+1);have hp:2 ^ (i+1)≤2 ^ 64:=Nat.pow_le_pow_right (by omega) (by omega);have hp2:2 ^ i<2 ^ 64:=Nat.pow_lt_pow_right (by omega) hi;have hbit:IntKind.wrap .u64 (((2 ^ i % 2 ^ 64:Nat):Int)*2)=((2 ^ (i+1) % 2 ^ 64:Nat):Int):=by
   rw [wrap_u64,Nat.mod_eq_of_lt hp2,Nat.pow_succ];omega
  have hat:at? l (64*(w:Int)+(i:Int))=some (l.getD (64*w+i) false):=by
   rw [show (64*(w:Int)+(i:Int))=((64*w+i:Nat):Int) by omega,zc9,List.getElem?_eq_getElem (by omega)];simp [List.getD,List.getElem?_eq_getElem (show 64*w+i<l.length by omega)]
  cases he:l.getD (64*w+i) false
  ·refine .inr ⟨(t,((2 ^ (i+1) % 2 ^ 64:Nat):Int)),⟨fun j hj=>?_,rfl⟩,fun k h=>⟨fun _=>⟨zh (by omega) (by omega),zh (by omega) (by omega),_,hat,fun hc=>(by rw [he] at hc;cases hc),fun _=>⟨zh (by omega) (by omega), ?_⟩⟩,fun h=>absurd (by omega) (df h)⟩⟩
   ·simp only;rw [h1 j hj];split
    ·simp only [zbj,he,cond_false]
    ·rfl
   ·rw [hbit];exact h
  ·refine .inr ⟨(t.setw (w:Int) ((zbj (fun j=>l.getD (64*w+j) false) (i+1):Nat):Int),((2 ^ (i+1) % 2 ^ 64:Nat):Int)),⟨fun j hj=>?_,rfl⟩,fun k h=>⟨fun _=>⟨zh (by omega) (by omega),zh (by omega) (by omega),_,hat,fun _=>⟨⟨by omega,by omega⟩,⟨by omega,by omega⟩,zh (by omega) (by omega), ?_⟩,fun hc=>(by rw [he] at hc;cases hc)⟩,fun h=>absurd (by omega) (df h)⟩⟩
   ·simp only;rw [setw_word (by rw [Int.toNat_natCast];omega) j hj,Int.toNat_natCast];split
    ·rfl
    ·rename_i e;rw [h1 j hj,if_neg e]
   ·have hww:(Cl.w t (w:Int))=((zbj (fun j=>l.getD (64*w+j) false) i:Nat):Int):=by
     show ((t.word ((w:Int).toNat):Nat):Int)=_;rw [Int.toNat_natCast,h1 w hw,if_pos rfl]
    have hsum:IntKind.wrap .u64 (Cl.w t (w:Int)+((2 ^ i % 2 ^ 64:Nat):Int))=((zbj (fun j=>l.getD (64*w+j) false) (i+1):Nat):Int):=by
     have e2:zbj (fun j=>l.getD (64*w+j) false) (i+1)=2 ^ i+zbj (fun j=>l.getD (64*w+j) false) i:=by simp only [zbj,he,cond_true]
     rw [hww,wrap_u64,Nat.mod_eq_of_lt hp2];omega
    rw [hbit,hsum];exact h
 ·rintro ⟨t,b⟩ ⟨h1,_⟩ k;exact ⟨fun h=>absurd (dt h) (by omega),fun _=>hX t h1⟩
 ·refine ⟨fun j hj=>?_,by rfl⟩;split
  ·rename_i e;subst e;simpa [zbj] using h0
  ·rfl
theorem ofL_word {l:List Bool} {w:Nat} (hw:w<4):(Cl.ofL l).word w=zbj (fun j=>l.getD (64*w+j) false) 64:=by
 refine word_of_bits hw (ze4 _ 64) fun j hj=>?_;rw [has_ofL (by omega),zfg];simp [hj]
theorem zeo {l:List Bool} (hl:l.length=256):zi l (Cl.ofL l):=by
 refine upto (P:=fun k (s:Cl) v=>zi.l1 l _ k s v) 4 (fun i s=>∀j,j<4→s.word j=if j<i then (Cl.ofL l).word j else 0) ?_ ?_ _ ?_
 ·intro i s hi h;refine .inr ⟨Cl.ofWords (if 0<i+1 then (Cl.ofL l).word 0 else 0) (if 1<i+1 then (Cl.ofL l).word 1 else 0) (if 2<i+1 then (Cl.ofL l).word 2 else 0) (if 3<i+1 then (Cl.ofL l).word 3 else 0), ?_,fun k hk=>⟨fun _=>?_,fun h=>absurd (by omega) (df h)⟩⟩
  ·have hb:∀(c:Prop) [Decidable c] (k:Nat),(if c then (Cl.ofL l).word k else 0)<2 ^ 64:=fun c _ k=>by
    split
    ·exact Cl.word_lt _ _
    ·omega
   obtain ⟨e0,e1,e2,e3⟩:=Cl.ofWords_word (hb (0<i+1) 0) (hb (1<i+1) 1) (hb (2<i+1) 2) (hb (3<i+1) 3);intro j hj
   match j,hj with
   | 0,_=>exact e0
   | 1,_=>exact e1
   | 2,_=>exact e2
   | 3,_=>exact e3
  ·refine ref01_Of_l2 hl hi (by rw [h i hi,if_neg (by omega)]) fun t ht=>?_;refine ⟨zh (by omega) (by omega), ?_⟩;have hb:∀(c:Prop) [Decidable c] (k:Nat),(if c then (Cl.ofL l).word k else 0)<2 ^ 64:=fun c _ k=>by
    split
    ·exact Cl.word_lt _ _
    ·omega
   obtain ⟨e0,e1,e2,e3⟩:=Cl.ofWords_word (hb (0<i+1) 0) (hb (1<i+1) 1) (hb (2<i+1) 2) (hb (3<i+1) 3);have key:∀j,j<4→t.word j=if j<i+1 then (Cl.ofL l).word j else 0:=fun j hj=>by
    rw [ht j hj]
    by_cases e:j=i
    ·subst e;rw [if_pos rfl,if_pos (by omega),ofL_word hj]
    ·rw [if_neg e,h j hj]
     by_cases e2:j<i
     ·rw [if_pos e2,if_pos (by omega)]
     ·rw [if_neg e2,if_neg (by omega)]
   have:t=_:=Cl.ext_words (x:=t) (y:=Cl.ofWords (if 0<i+1 then (Cl.ofL l).word 0 else 0) (if 1<i+1 then (Cl.ofL l).word 1 else 0) (if 2<i+1 then (Cl.ofL l).word 2 else 0) (if 3<i+1 then (Cl.ofL l).word 3 else 0)) fun j hj=>by
    rw [key j hj]
    match j,hj with
    | 0,_=>exact e0.symm
    | 1,_=>exact e1.symm
    | 2,_=>exact e2.symm
    | 3,_=>exact e3.symm
   rw [this];exact hk
 ·intro s h k;refine ⟨fun h=>absurd (dt h) (by omega),fun _=>?_⟩;show Cl.ofL l=s;exact Cl.ext_words fun j hj=>by rw [h j hj,if_pos hj]
 ·intro j hj;simp [Cl.word]
theorem ofL_set {l:List Bool} {f:Nat→Bool} (h:∀n,n<256→l[n]?=some (f n)):Cl.ofL l=Cl.of f:=by
 apply Cl.ext;intro c hc;rw [has_ofL hc,Cl.of_has _ hc];simp [List.getD,h c hc]
theorem zb3 {f t:Int} (hf:InR .u8 f) (ht:InR .u8 t):zp f t (Cl.row f t):=by
 obtain ⟨f,hf1,rfl⟩:=u8_of hf;obtain ⟨t,ht1,rfl⟩:=u8_of ht;refine run (P:=fun k (s:List Bool × Int)=>zp.l1 (t:Int) _ k s.1 s.2)
  (fun s=>s.1.length=256∧∃i:Nat,s.2=i∧f≤i∧(i≤t+1∨i=f)∧∀n,n<256→s.1[n]?=some (decide (f≤n)&&decide (n<i))) (fun s=>257-s.2.toNat) ?_ (List.replicate 256 false,(f:Int)) ?_
 ·rintro ⟨l,i'⟩ ⟨hl,i,hi,h1,h2,h3⟩;simp only at hl hi h3;subst hi
  by_cases hc:i≤t
  ·refine .inr ⟨(l.set i true,((i+1:Nat):Int)),⟨by simpa using hl,i+1,rfl,by omega,by omega,fun n hn=>?_⟩, ?_,fun k h=>⟨fun _=>⟨l[i]'(by omega),by rw [zc9];exact List.getElem?_eq_getElem (by show i<l.length;omega),zh (by simp only;omega) (by simp only;omega), ?_⟩,fun h=>absurd (by show (i:Int)≤(t:Int);omega) (df h)⟩⟩
   ·simp only [List.getElem?_set];split
    ·rename_i e;subst e;simp [show i<l.length by omega,h1]
    ·rename_i e
     rw [h3 n hn];congr 2;apply decide_eq_decide.2;omega
   ·simp only [Int.toNat_natCast];omega
   ·simpa using h
  ·refine .inl fun k=>⟨fun h=>absurd (dt h) (by simp only;omega),fun _=>⟨Cl.ofL l,zeo hl, ?_⟩⟩;rw [ofL_set h3];apply Cl.ext;intro c hc2;rw [has_row hc2,Cl.of_has _ hc2]
   by_cases e:f≤c
   ·have e3:(decide (c<i):Bool)=decide (c≤t):=decide_eq_decide.2 (by omega);rw [e3]
    congr 1
    ·apply decide_eq_decide.2;omega
    ·apply decide_eq_decide.2;omega
   ·rw [decide_eq_false (show ¬ (f:Int)≤(c:Int) by omega),decide_eq_false e];simp
 ·refine ⟨List.length_replicate,f,rfl,Nat.le_refl _,by omega,fun n hn=>?_⟩;show (List.replicate 256 false)[n]?=_;rw [List.getElem?_replicate,if_pos hn]
  by_cases e:f≤n
  ·simp [show ¬ n<f by omega]
  ·simp [e]
theorem list_up {P:Nat→List Bool→Int→Prop} {a:Cl} (g:Nat→Bool)
  (hs:∀k (i:Nat) (l:List Bool),i<256→l.length=256→at? l (i:Int)=some (a.has i)→P k (l.set ((i:Int)).toNat (g i)) ((i:Int)+1)→P (k+1) l (i:Int))
  (hx:∀k (l:List Bool),l.length=256→Cl.ofL l=Cl.of g→P (k+1) l 256):∃k,P k a.list 0:=by
 refine upto (P:=P) 256 (fun i l=>l.length=256∧∀n,n<256→l[n]?=some (if n<i then g n else a.has n)) ?_ ?_ a.list ⟨list_len,fun n hn=>by simpa using list_get hn⟩
 ·rintro i l hi ⟨hl,h⟩;refine .inr ⟨l.set ((i:Int)).toNat (g i),⟨by simpa using hl,fun n hn=>?_⟩,fun k hk=>hs k i l hi hl (by rw [zc9,h i hi];simp) hk⟩;rw [Int.toNat_natCast,List.getElem?_set];split
  ·rename_i e;subst e;simp [hl,hi]
  ·rename_i e
   rw [h n hn]
   congr 1
   by_cases e2:n<i
   ·rw [if_pos e2,if_pos (by omega)]
   ·rw [if_neg e2,if_neg (by omega)]
 ·rintro l ⟨hl,h⟩ k;exact hx k l hl (ofL_set fun n hn=>by rw [h n hn,if_pos hn])
theorem zdp {a b:Cl}:zz a b (a ||| b):=by
 refine ⟨a.list,zdo,b.list,zdo, ?_⟩;refine list_up (P:=fun k l v=>zz.l1 b.list _ k l v) (fun n=>a.has n||b.has n) (fun k i l hi hl he h=>?_) (fun k l hl he=>?_)
 ·exact ⟨fun _=>⟨_,he,_,fun _=>by rw [zc9];exact list_get hi,_,he,zh (by omega) (by omega),h⟩,fun h=>absurd (by omega) (df h)⟩
 ·refine ⟨fun h=>absurd (dt h) (by omega),fun _=>⟨_,zeo hl, ?_⟩⟩;rw [he];apply Cl.ext;intro c hc;rw [has_or,Cl.of_has _ hc]
def hx16:Str:=[48,49,50,51,52,53,54,55,56,57,97,98,99,100,101,102]
def zcy (c:Nat):Str:=[hx16.getD (c / 16) 0,hx16.getD (c % 16) 0]
theorem hx_part:∀n:Fin 16,(hx16.take ((n.val:Int)+1).toNat).drop (n.val:Int).toNat=[hx16.getD n.val 0]:=by decide +kernel
theorem zec {c:Nat} (h:c<256):zcr (c:Int) (zcy c):=by
 have e1:(c:Int) / 16=((c / 16:Nat):Int):=by omega
 have e2:(c:Int) % 16=((c % 16:Nat):Int):=by omega
 have k1:=hx_part ⟨c / 16,by omega⟩;have k2:=hx_part ⟨c % 16,by omega⟩;have l16:hx16.length=16:=rfl;unfold zcr;rw [e1,e2];have hxe:([48,49,50,51,52,53,54,55,56,57,97,98,99,100,101,102]:Str)=hx16:=rfl;rw [hxe,l16];simp only at k1 k2;rw [k1,k2];exact ⟨by omega,by omega,zh (by omega) (by omega),⟨by omega,by omega,by omega⟩,by omega,by omega,zh (by omega) (by omega),⟨by omega,by omega,by omega⟩,by simp,rfl⟩
theorem zbo (c:Nat):(zcy c).length=2:=rfl
def bgC (P:Nat→Bool) (c:Nat):Bool:=((c:Int)==0)||!(P (c-1))
def enC (P:Nat→Bool) (c:Nat):Bool:=((c:Int)==255)||!(P (c+1))
def s1C (P:Nat→Bool) (c:Nat) (s:Str):Str:=if (bgC P c&&(s != [60]))=true then s++[44] else s
def s2C (P:Nat→Bool) (c:Nat) (s:Str):Str:=if bgC P c=true then s1C P c s++zcy c else s1C P c s
def s3C (P:Nat→Bool) (c:Nat) (s:Str):Str:=if (enC P c&&!(bgC P c))=true then (s2C P c s++[45])++zcy c else s2C P c s
def zdd (P:Nat→Bool):Nat→Str
 | 0=>[60]
 | c+1=>if P c=true then s3C P c (zdd P c) else zdd P c
theorem s3C_len (P:Nat→Bool) (c:Nat) (s:Str):(s3C P c s).length≤s.length+3:=by
 unfold s3C s2C s1C;cases bgC P c <;> cases enC P c <;> cases hs:(s != [60]) <;> simp [zbo]
theorem zdk (P:Nat→Bool):∀c,(zdd P c).length≤1+3*c
 | 0=>by simp [zdd]
 | c+1=>by
  have h1:=zdk P c;have h2:=s3C_len P c (zdd P c);unfold zdd;split
  ·omega
  ·omega
def ze5 (a:Cl):Str:=if a=Cl.row 0 255 then [46] else zdd a.has 256++[62]
theorem clsT_len (a:Cl):(ze5 a).length≤1000:=by
 have:=zdk a.has 256;unfold ze5;split
 ·simp
 ·rw [List.length_append,List.length_singleton];omega
theorem row_in {a:Cl}:zp 0 255 (Cl.row 0 255):=zb3 (zed.2 (by decide)) (zed.2 (by decide))
def jn (rows:List Str):Str:=Lib.join rows [44]
theorem ze0 (x:Str) (r:List Str):jn (x::r)=x++Lib.joinTail [44] r:=Lib.join_cons x r [44]
theorem jn_snoc {rows:List Str} (h:rows≠[]) (x:Str):jn (rows++[x])=(jn rows++[44])++x:=by
 cases rows with
 | nil=>exact absurd rfl h
 | cons y r=>
  rw [List.cons_append,ze0,ze0];simp [Lib.joinTail,List.append_assoc]
theorem jn_one (x:Str):jn [x]=x:=Lib.join_one x [44]
theorem jn_ne {rows:List Str} (h:rows≠[]) (hx:∀x∈rows,x≠[]):jn rows≠[]:=by
 cases rows with
 | nil=>exact absurd rfl h
 | cons y r=>
  rw [ze0];have:=hx y (by simp);intro e;exact this (List.append_eq_nil_iff.1 e).1
def zd8 (c l:Nat):Str:=if c<l then zcy c++([45]++zcy l) else zcy c
theorem refS_run {P:Nat→Bool} {c l:Nat} (hl:l<256) (hP:∀j,c≤j→j≤l→P j=true) (hb:bgC P c=true) (he:enC P l=true):∀m,c+m≤l→zdd P (c+m+1)=s1C P c (zdd P c)++(if m=0∨c+m<l then zcy c else zd8 c l):=by
 intro m
 induction m with
 | zero=>
  intro h;rw [if_pos (.inl rfl),Nat.add_zero];rw [zdd,if_pos (hP c (Nat.le_refl _) (by omega))];unfold s3C;rw [if_neg (by rw [hb];simp)];unfold s2C;rw [if_pos hb]
 | succ m ih=>
  intro h;have ih:=ih (by omega);have hbg:bgC P (c+(m+1))=false:=by
   unfold bgC;rw [show c+(m+1)-1=c+m by omega,hP (c+m) (by omega) (by omega)];simp;omega
  have ecm:c+m+1=c+(m+1):=by omega
  rw [zdd,if_pos (hP _ (by omega) h)];have e2:s2C P (c+(m+1)) (zdd P (c+(m+1)))=zdd P (c+(m+1)):=by
   unfold s2C s1C;rw [if_neg (by rw [hbg];simp),if_neg (by rw [hbg];simp)]
  have hpre:zdd P (c+(m+1))=s1C P c (zdd P c)++zcy c:=by
   rw [← ecm,ih]
   by_cases hm:m=0
   ·rw [if_pos (.inl hm)]
   ·rw [if_pos (.inr (by omega))]
  unfold s3C;rw [e2,hbg,hpre]
  by_cases hlast:c+(m+1)<l
  ·have hen:enC P (c+(m+1))=false:=by
    unfold enC;rw [hP (c+(m+1)+1) (by omega) (by omega)];simp;omega
   rw [hen,if_neg (by simp),if_pos (.inr hlast)]
  ·obtain rfl:l=c+(m+1):=by omega
   rw [he,if_pos (show (true&&!false)=true from rfl),if_neg (by omega)];unfold zd8;rw [if_pos (by omega)];simp [List.append_assoc]
theorem run_end (P:Nat→Bool):∀(m c:Nat),c+m=255→P c=true→∃l,c≤l∧l<256∧(∀j,c≤j→j≤l→P j=true)∧enC P l=true
 | 0,c,h,hP=>⟨c,Nat.le_refl _,by omega,fun j h1 h2=>by rw [show j=c by omega];exact hP,by unfold enC;rw [show c=255 by omega];rfl⟩
 | m+1,c,h,hP=>by
  cases hn:P (c+1)
  ·exact ⟨c,Nat.le_refl _,by omega,fun j h1 h2=>by rw [show j=c by omega];exact hP,by unfold enC;rw [hn];simp⟩
  ·obtain ⟨l,l1,l2,l3,l4⟩:=run_end P m (c+1) (by omega) hn;refine ⟨l,by omega,l2,fun j h1 h2=>?_,l4⟩
   by_cases e:j=c
   ·rw [e];exact hP
   ·exact l3 j (by omega) h2
theorem count_all {a:Cl}:a.count=256↔a=Cl.row 0 255:=by
 constructor
 ·intro h;have h:(List.range 256).countP a.has=(List.range 256).length:=by rw [List.length_range];exact h
  rw [List.countP_eq_length] at h;refine Cl.ext fun c hc=>?_;rw [h c (List.mem_range.2 hc),Cl.row,Cl.of_has _ hc];simp;omega
 ·rintro rfl;decide +kernel
theorem zbn {a:Cl}:za a (ze5 a):=by
 refine ⟨_,zfa,fun h=>?_,fun h=>?_⟩
 ·have h:(a.count:Int)=256:=by simpa using h
  unfold ze5;rw [if_pos (count_all.1 (by omega))]
 ·have h:(a.count:Int)≠256:=by simpa using h
  have hne:a≠Cl.row 0 255:=fun e=>h (by have:=count_all.2 e;omega);have:=run (P:=fun k (s:List Str × Int)=>za.l1 a (za.j1 (ze5 a)) k s.1 s.2) (fun s=>∃n:Nat,s.2=(n:Int)∧n≤256∧zdd a.has n=[60]++jn s.1∧(n<256→a.has n=true→bgC a.has n=true)∧(∀x∈s.1,x≠[])∧s.1.length≤n) (fun s=>256-s.2.toNat) ?_ ([],0) ⟨0,rfl,by omega,rfl,fun _ _=>rfl,by simp,by simp⟩
  ·exact this
  ·rintro ⟨rows,c⟩ ⟨n,h1,h2,h3,h4,h5,h6⟩;simp only at h1 h3 h5 h6;subst h1
   by_cases hn:n<256
   ·cases hP:a.has n
    ·refine .inr ⟨(rows,(n:Int)+1),⟨n+1,by simp,by omega, ?_,fun h k=>?_,h5,by simp only;omega⟩,by simp only;omega,fun k hk=>⟨fun _=>⟨_,zbv hn,fun _=>⟨zh (by omega) (by omega),hk⟩,(fun h=>by rw [hP] at h;cases h)⟩,fun h=>absurd (by omega) (df h)⟩⟩
     ·rw [zdd,if_neg (by rw [hP];simp)];exact h3
     ·unfold bgC;rw [Nat.add_sub_cancel,hP];simp
    ·obtain ⟨l,l1,l2,l3,l4⟩:=run_end a.has (255-n) n (by omega) hP;have hb:=h4 hn hP;have hr:=refS_run l2 l3 hb l4 (l-n) (by omega);rw [show n+(l-n)+1=l+1 by omega] at hr;have hrT:(if l-n=0∨n+(l-n)<l then zcy n else zd8 n l)=zd8 n l:=by
      by_cases e:l-n=0
      ·rw [if_pos (.inl e)];unfold zd8;rw [if_neg (by omega)]
      ·rw [if_neg (by omega)]
     rw [hrT] at hr;have hnew:zdd a.has (l+1)=[60]++jn (rows++[zd8 n l]):=by
      rw [hr,h3];unfold s1C;rw [hb]
      by_cases hrw:rows=[]
      ·subst hrw;rw [List.nil_append,jn_one,if_neg (by simp [jn,Lib.join_nil])];simp [jn,Lib.join_nil]
      ·have:=jn_ne hrw h5;rw [jn_snoc hrw,if_pos (by simpa using this)];simp [List.append_assoc]
     have hrn:zd8 n l≠[]:=by unfold zd8;split <;> simp [zcy]
     have hlen:=zdk a.has (l+1);refine .inr ⟨(rows++[zd8 n l],((l+1:Nat):Int)),⟨l+1,rfl,by omega,hnew,fun h k=>?_,fun x hx=>?_,by simp;omega⟩,by simp only;omega,fun k hk=>⟨fun _=>⟨_,zbv hn,(fun h=>by rw [hP] at h;cases h),fun _=>?_⟩,fun h=>absurd (by omega) (df h)⟩⟩
     ·exfalso;unfold enC at l4;rw [k] at l4;have:(l:Int)=255:=by simpa using l4
      omega
     ·rcases List.mem_append.1 hx with hx | hx
      ·exact h5 x hx
      ·rw [List.mem_singleton.1 hx];exact hrn
     ·-- the run's end
      simp only at hk;have hk2:za.j2 (za.l1 a (za.j1 (ze5 a)) k) rows (l:Int) (zd8 n l):=⟨by simp;omega,zh (by omega) (by omega),hk⟩;have hX:za.j3 (za.l1 a (za.j1 (ze5 a)) k) rows (n:Int) (l:Int):=by
       refine ⟨_,zec hn,fun hlt=>⟨_,zec l2,by simp [zbo],by simp [zbo], ?_⟩,fun hlt=>?_⟩
       ·have hlt:=dt hlt;unfold zd8 at hk2;rw [if_pos (by omega)] at hk2;exact hk2
       ·have hlt:=df hlt;unfold zd8 at hk2;rw [if_neg (by omega)] at hk2;exact hk2
      refine run (P:=fun k' (j:Int)=>za.l2 a (za.j3 (za.l1 a (za.j1 (ze5 a)) k) rows (n:Int)) k' j) (fun j=>∃i:Nat,j=(i:Int)∧n≤i∧i≤l) (fun j=>256-j.toNat) ?_ (n:Int) ⟨n,rfl,Nat.le_refl _,l1⟩;rintro j ⟨i,rfl,i1,i2⟩
      by_cases hil:i=l
      ·subst hil;refine .inl fun k'=>⟨zh (by omega) (by omega),fun _=>zh (by omega) (by omega),a.has (i+1),fun hd=>?_,fun hd=>?_,fun _=>hX⟩
       ·have hd:=dt hd;exact zbv (a:=a) (i:=i+1) (by omega)
       ·exfalso;rw [Bool.and_eq_true] at hd;have hd1:=dt hd.1;unfold enC at l4;rw [hd.2] at l4;have:(i:Int)=255:=by simpa using l4
        omega
      ·refine .inr ⟨((i+1:Nat):Int),⟨i+1,rfl,by omega,by omega⟩,by simp only [Int.toNat_natCast];omega,fun k' hk'=>⟨zh (by omega) (by omega),fun _=>zh (by omega) (by omega),a.has (i+1),fun hd=>zbv (a:=a) (i:=i+1) (by omega),fun _=>⟨zh (by omega) (by omega),hk'⟩,fun hd=>?_⟩⟩;exfalso;rw [l3 (i+1) (by omega) (by omega),Bool.and_true] at hd;exact absurd (by omega) (df hd)
   ·obtain rfl:n=256:=by omega
    have hlen:=zdk a.has 256;rw [h3] at hlen;have hjl:(jn rows).length≤1000:=by simp at hlen;omega
    refine .inl fun k=>⟨fun h=>absurd (dt h) (by omega),fun _=>⟨jn rows,⟨⟨by show rows.length≤_;omega,by show (jn rows).length≤_;omega⟩,rfl⟩,by simp;omega,by simp;omega, ?_⟩⟩;unfold ze5;rw [if_neg hne,h3]
def lvl (k:Int):Int:=if k=5 then 0 else if k=4 then 1 else if k=6∨k=7 then 2 else 3
def kd (d:List SNode) (i:Int):Int:=match at? d i with
 | some n=>n.1
 | none=>0
def brk (own lv:Int) (r:Str × Int):Str × Int:=if own<lv then (([40]++r.1)++[41],r.2+1) else r
def txN:Nat→List SNode→Int→Str × Int
 | 0,_,_=>([],0)
 | f+1,d,i=>
  let sub:=fun (j lv:Int)=>brk (lvl (kd d j)) lv (txN f d j)
  match at? d i with
  | none=>([],0)
  | some n=>
   if n.1=1 then ([40,41],1)
   else if n.1=2 then (ze5 n.2.2.2.2.2.1,0)
   else if n.1=3 then (([34]++n.2.2.2.2.2.2)++[34],0)
   else if n.1=4 then ((sub n.2.1 1).1++(sub n.2.2.1 2).1,max (sub n.2.1 1).2 (sub n.2.2.1 2).2)
   else if n.1=5 then (((sub n.2.1 0).1++[124])++(sub n.2.2.1 1).1,max (sub n.2.1 0).2 (sub n.2.2.1 1).2)
   else if n.1=6 then ((sub n.2.1 2).1++[42],(sub n.2.1 2).2)
   else if n.1=7 then ((sub n.2.1 2).1++(((([123]++Lib.itoa n.2.2.2.1)++[44])++Lib.itoa n.2.2.2.2.1)++[125]),(sub n.2.1 2).2)
   else if n.1=8 then (([98,40]++(sub n.2.1 0).1)++[41],(sub n.2.1 0).2+1)
   else (([119,40]++(sub n.2.1 0).1)++[41],(sub n.2.1 0).2+1)
def sbN (f:Nat) (d:List SNode) (i lv:Int):Str × Int:=brk (lvl (kd d i)) lv (txN f d i)
theorem kd_at {d:List SNode} {i:Int} {n:SNode} (h:at? d i=some n):kd d i=n.1:=by unfold kd;rw [h]
section
variable {d : List SNode} {i : Int} {n : SNode} (h : at? d i = some n) (f : Nat)
include h
theorem tx1 (k:n.1=1):txN (f+1) d i=([40,41],1):=by unfold txN;rw [h];simp [k]
theorem tx2 (k:n.1=2):txN (f+1) d i=(ze5 n.2.2.2.2.2.1,0):=by unfold txN;rw [h];simp [k]
theorem tx3 (k:n.1=3):txN (f+1) d i=(([34]++n.2.2.2.2.2.2)++[34],0):=by unfold txN;rw [h];simp [k]
theorem tx4 (k:n.1=4):txN (f+1) d i=((sbN f d n.2.1 1).1++(sbN f d n.2.2.1 2).1,max (sbN f d n.2.1 1).2 (sbN f d n.2.2.1 2).2):=by unfold txN;rw [h];simp [k,sbN]
theorem tx5 (k:n.1=5):txN (f+1) d i=(((sbN f d n.2.1 0).1++[124])++(sbN f d n.2.2.1 1).1,max (sbN f d n.2.1 0).2 (sbN f d n.2.2.1 1).2):=by unfold txN;rw [h];simp [k,sbN]
theorem tx6 (k:n.1=6):txN (f+1) d i=((sbN f d n.2.1 2).1++[42],(sbN f d n.2.1 2).2):=by unfold txN;rw [h];simp [k,sbN]
theorem tx7 (k:n.1=7):txN (f+1) d i=((sbN f d n.2.1 2).1++(((([123]++Lib.itoa n.2.2.2.1)++[44])++Lib.itoa n.2.2.2.2.1)++[125]),(sbN f d n.2.1 2).2):=by unfold txN;rw [h];simp [k,sbN]
theorem tx8 (k:n.1=8):txN (f+1) d i=(([98,40]++(sbN f d n.2.1 0).1)++[41],(sbN f d n.2.1 0).2+1):=by unfold txN;rw [h];simp [k,sbN]
theorem tx9 (k:n.1=9):txN (f+1) d i=(([119,40]++(sbN f d n.2.1 0).1)++[41],(sbN f d n.2.1 0).2+1):=by unfold txN;rw [h];simp [k,sbN]
end
theorem zei {x:Int} (h0:0≤x) (h1:x≤255):(Lib.itoa x).length≤21:=Lib.itoa_length_le x (by omega) (by omega)
structure Lim (r:Str × Int) (m:Int):Prop where
 len:(r.1.length:Int)≤140737488354000*m
 lo:0≤r.2
 hi:r.2≤4*m
theorem brk_lim {own lv m:Int} {r:Str × Int} (h1:(r.1.length:Int)+2≤140737488354000*m) (h2:0≤r.2) (h3:r.2+1≤4*m):Lim (brk own lv r) m:=by
 unfold brk;split
 ·refine ⟨?_,by simp only;omega,by simp only;omega⟩;simp only [List.length_append,List.length_singleton];omega
 ·exact ⟨by omega,h2,by omega⟩
theorem tx_lim {d:List SNode} (ht:Txt d):∀(m:Nat) {f i:Int},Tr d f i→(txN m d i).1.length+2≤(140737488354000*(i-f+1))∧0≤(txN m d i).2∧(txN m d i).2+1≤4*(i-f+1)
 | 0,f,i,h=>by have:=h.le;simp only [txN,List.length_nil];omega
 | m+1,f,i,h=>by
  have ih:=fun {f i:Int} (h:Tr d f i)=>tx_lim ht m h;have sub:∀{f i:Int} (h:Tr d f i) (lv:Int),Lim (sbN m d i lv) (i-f+1):=fun {f i} h lv=>brk_lim (own:=lvl (kd d i)) (lv:=lv) (ih h).1 (ih h).2.1 (ih h).2.2;cases h with
  | leaf he hk hx h0=>
   rename_i n
   have hm:=ht n (by obtain ⟨k,_,hk⟩:=at_nn he;exact List.mem_of_getElem? hk);have hc:=clsT_len n.2.2.2.2.2.1;rcases hk with k | k | k
   ·rw [tx1 he m k];simp
   ·rw [tx2 he m k];simp only;omega
   ·rw [tx3 he m k];simp only [List.length_append,List.length_singleton];omega
  | one he hk ha hb hr h1=>
   rename_i n
   have hle:=h1.le;have s0:=sub h1 0;have s2:=sub h1 2;rw [← ha] at s0 s2;have a1:=s0.len;have a2:=s0.lo;have a3:=s0.hi;have b1:=s2.len;have b2:=s2.lo;have b3:=s2.hi;rcases hk with k | k | k | k
   ·rw [tx6 he m k];simp only [List.length_append,List.length_singleton];omega
   ·obtain ⟨r1,r2,r3⟩:=hr k;have e1:=zei r1 (by omega);have e2:=zei (show 0≤n.2.2.2.2.1 by omega) r3;rw [tx7 he m k];simp only [List.length_append,List.length_singleton];omega
   ·rw [tx8 he m k];simp only [List.length_append,List.length_cons,List.length_nil];omega
   ·rw [tx9 he m k];simp only [List.length_append,List.length_cons,List.length_nil];omega
  | two he hk ha hb h1 h2=>
   rename_i p n
   have l1:=h1.le;have l2:=h2.le;rcases hk with k | k
   ·have sA:=sub h2 1;have sB:=sub h1 2;rw [← ha] at sA;rw [← hb] at sB;have a1:=sA.len;have a2:=sA.lo;have a3:=sA.hi;have b1:=sB.len;have b2:=sB.lo;have b3:=sB.hi;rw [tx4 he m k];simp only [List.length_append];omega
   ·have sA:=sub h2 0;have sB:=sub h1 1;rw [← ha] at sA;rw [← hb] at sB;have a1:=sA.len;have a2:=sA.lo;have a3:=sA.hi;have b1:=sB.len;have b2:=sB.lo;have b3:=sB.hi;rw [tx5 he m k];simp only [List.length_append,List.length_singleton];omega
theorem sb_lim {d:List SNode} (ht:Txt d) (m:Nat) {f i:Int} (h:Tr d f i) (lv:Int):Lim (sbN m d i lv) (i-f+1):=
 let ⟨a,b,c⟩:=tx_lim ht m h
 brk_lim a b c
end Go.Proofs.YtamjkbneebghmaaDoor.V
namespace Go.Proofs.YtamjkbneebghmaaDoor.V
open Go
set_option linter.unusedVariables false
theorem zc5 {x:Int} (h0:0≤x) (h1:x≤255):zcf x (Lib.itoa x):=⟨zh (by omega) (by omega),rfl⟩
theorem own_in {k:Int} (h1:1≤k) (h9:k≤9):(zey gfm0 k=false→lvl k=3)∧(zey gfm0 k=true→lvI (zcn gfm0 k none)=lvl k):=by
 have:k=1∨k=2∨k=3∨k=4∨k=5∨k=6∨k=7∨k=8∨k=9:=by omega
 rcases this with rfl | rfl | rfl | rfl | rfl | rfl | rfl | rfl | rfl <;> decide
section
variable {α : Type} (F1 F2 F3 F4 F5 F6 F7 F8 F9 z : α)
theorem mp9:z1 (z1 (z1 (z1 (z1 (z1 (z1 (z1 (z1 ([]:List (Int × α)) 1 F1) 2 F2) 3 F3) 4 F4) 5 F5) 6 F6) 7 F7) 8 F8) 9 F9=[(1,F1),(2,F2),(3,F3),(4,F4),(5,F5),(6,F6),(7,F7),(8,F8),(9,F9)]:=by simp [z1,zey]
theorem mp_1:zcn (z1 (z1 (z1 (z1 (z1 (z1 (z1 (z1 (z1 ([]:List (Int × α)) 1 F1) 2 F2) 3 F3) 4 F4) 5 F5) 6 F6) 7 F7) 8 F8) 9 F9) 1 z=F1:=by rw [mp9];simp [zcn]
theorem mp_2:zcn (z1 (z1 (z1 (z1 (z1 (z1 (z1 (z1 (z1 ([]:List (Int × α)) 1 F1) 2 F2) 3 F3) 4 F4) 5 F5) 6 F6) 7 F7) 8 F8) 9 F9) 2 z=F2:=by rw [mp9];simp [zcn]
theorem mp_3:zcn (z1 (z1 (z1 (z1 (z1 (z1 (z1 (z1 (z1 ([]:List (Int × α)) 1 F1) 2 F2) 3 F3) 4 F4) 5 F5) 6 F6) 7 F7) 8 F8) 9 F9) 3 z=F3:=by rw [mp9];simp [zcn]
theorem mp_4:zcn (z1 (z1 (z1 (z1 (z1 (z1 (z1 (z1 (z1 ([]:List (Int × α)) 1 F1) 2 F2) 3 F3) 4 F4) 5 F5) 6 F6) 7 F7) 8 F8) 9 F9) 4 z=F4:=by rw [mp9];simp [zcn]
theorem mp_5:zcn (z1 (z1 (z1 (z1 (z1 (z1 (z1 (z1 (z1 ([]:List (Int × α)) 1 F1) 2 F2) 3 F3) 4 F4) 5 F5) 6 F6) 7 F7) 8 F8) 9 F9) 5 z=F5:=by rw [mp9];simp [zcn]
theorem mp_6:zcn (z1 (z1 (z1 (z1 (z1 (z1 (z1 (z1 (z1 ([]:List (Int × α)) 1 F1) 2 F2) 3 F3) 4 F4) 5 F5) 6 F6) 7 F7) 8 F8) 9 F9) 6 z=F6:=by rw [mp9];simp [zcn]
theorem mp_7:zcn (z1 (z1 (z1 (z1 (z1 (z1 (z1 (z1 (z1 ([]:List (Int × α)) 1 F1) 2 F2) 3 F3) 4 F4) 5 F5) 6 F6) 7 F7) 8 F8) 9 F9) 7 z=F7:=by rw [mp9];simp [zcn]
theorem mp_8:zcn (z1 (z1 (z1 (z1 (z1 (z1 (z1 (z1 (z1 ([]:List (Int × α)) 1 F1) 2 F2) 3 F3) 4 F4) 5 F5) 6 F6) 7 F7) 8 F8) 9 F9) 8 z=F8:=by rw [mp9];simp [zcn]
theorem mp_9:zcn (z1 (z1 (z1 (z1 (z1 (z1 (z1 (z1 (z1 ([]:List (Int × α)) 1 F1) 2 F2) 3 F3) 4 F4) 5 F5) 6 F6) 7 F7) 8 F8) 9 F9) 9 z=F9:=by rw [mp9];simp [zcn]
end
structure SbT (n_:SDesc→Int→Int→(Str × Int)→Prop) (d:List SNode) (f:Nat) (j:Int):Prop where
 run:∀lv,n_ d j lv (sbN f d j lv)
 lim:∀lv,Lim (sbN f d j lv) 1000
theorem one_in {n_:SDesc→Int→Int→(Str × Int)→Prop} {d:List SNode} {n:SNode} {f:Nat} (s:SbT n_ d f n.2.1) (lv:Int) {front back:Str} (h1:front.length≤1000) (h2:back.length≤1000):print_text_1.b n_ lv front back d n ((front++(sbN f d n.2.1 lv).1)++back,(sbN f d n.2.1 lv).2):=by
 have:=(s.lim lv).len;exact ⟨_,s.run lv,by omega,by rw [List.length_append];omega,rfl⟩
theorem two_in {n_:SDesc→Int→Int→(Str × Int)→Prop} {d:List SNode} {n:SNode} {f:Nat} (s:SbT n_ d f n.2.1) (t:SbT n_ d f n.2.2.1) {lv:Int} (hlv:0≤lv∧lv≤9) {bt:Str} (h1:bt.length≤1000):print_text_2.b n_ lv bt d n (((sbN f d n.2.1 lv).1++bt)++(sbN f d n.2.2.1 (lv+1)).1,max (sbN f d n.2.1 lv).2 (sbN f d n.2.2.1 (lv+1)).2):=by
 have a:=(s.lim lv).len;have b:=(t.lim (lv+1)).len;exact ⟨_,s.run lv,zh (by omega) (by omega),_,t.run (lv+1),by omega,by rw [List.length_append];omega,rfl⟩
def Kn (d:List SNode) (i:Int):Prop:=∃n,at? d i=some n∧1≤n.1∧n.1≤9
theorem Tr.kn {d:List SNode} {f i:Int} (h:Tr d f i):Kn d i:=by
 cases h with
 | leaf he hk _ _=>exact ⟨_,he,by omega,by omega⟩
 | one he hk _ _ _ _=>exact ⟨_,he,by omega,by omega⟩
 | two he hk _ _ _ _=>exact ⟨_,he,by omega,by omega⟩
theorem sb_of {d:List SNode} (ht:Txt d) (hl:d.length≤1000) (m:Nat) {f i:Int} (h:Tr d f i) (lv:Int):Lim (sbN m d i lv) 1000:=by
 have:=sb_lim ht m h lv;have h1:=h.le;have h2:=h.lt;exact ⟨by have:=this.len;omega,this.lo,by have:=this.hi;omega⟩
theorem text_own {n_:SDesc→Int→Int→(Str × Int)→Prop} {d:List SNode} (ht:Txt d) {f:Nat} {g i:Int} (h:Tr d g i) (hs:∀{g' j:Int},Tr d g' j→j<i→SbT n_ d f j) {lv:Int} (hlv:lv≤lvl (kd d i)) {r:Str × Int} (hr0:txN (f+1) d i=r):
  ∃n,at? d i=some n∧ze.j1 n_ d i lv r n (lvl n.1):=by
 cases h with
 | leaf he hk hx h0=>
  rename_i n
  rw [kd_at he] at hlv;have hno:¬ lvl n.1<lv:=by omega
  have hm:=ht n (by obtain ⟨k,_,hk⟩:=at_nn he;exact List.mem_of_getElem? hk);rcases hk with k | k | k
  ·refine ⟨n,he,fun h=>absurd (dt h) hno,fun _=>⟨r, ?_,rfl⟩⟩;rw [← hr0,k,mp_1];exact (tx1 he f k)
  ·refine ⟨n,he,fun h=>absurd (dt h) hno,fun _=>⟨r, ?_,rfl⟩⟩;rw [← hr0,k,mp_2];exact ⟨_,zbn,by rw [tx2 he f k]⟩
  ·refine ⟨n,he,fun h=>absurd (dt h) hno,fun _=>⟨r, ?_,rfl⟩⟩;rw [← hr0,k,mp_3];exact ⟨by simp;omega,by simp;omega,by rw [tx3 he f k]⟩
 | one he hk ha hb hr h1=>
  rename_i n
  rw [kd_at he] at hlv;have s:SbT n_ d f n.2.1:=by rw [ha];exact hs h1 (by omega)
  have hno:¬ lvl n.1<lv:=by omega
  rcases hk with k | k | k | k
  ·refine ⟨n,he,fun h=>absurd (dt h) hno,fun _=>⟨r, ?_,rfl⟩⟩;rw [← hr0,k,mp_6];exact ⟨(([]++(sbN f d n.2.1 2).1)++[42],(sbN f d n.2.1 2).2),one_in s 2 (front:=[]) (back:=[42]) (by simp) (by simp),by rw [tx6 he f k];simp⟩
  ·refine ⟨n,he,fun h=>absurd (dt h) hno,fun _=>⟨r, ?_,rfl⟩⟩;rw [← hr0,k,mp_7];obtain ⟨r1,r2,r3⟩:=hr k;have e1:=zei r1 (show n.2.2.2.1≤255 by omega);have e2:=zei (show 0≤n.2.2.2.2.1 by omega) r3;exact ⟨_,zc5 r1 (by omega),by simp;omega,by simp;omega,_,zc5 (by omega) r3,by simp;omega,by simp;omega,(([]++(sbN f d n.2.1 2).1)++(((([123]++Lib.itoa n.2.2.2.1)++[44])++Lib.itoa n.2.2.2.2.1)++[125]),(sbN f d n.2.1 2).2),one_in s 2 (front:=[]) (back:=((([123]++Lib.itoa n.2.2.2.1)++[44])++Lib.itoa n.2.2.2.2.1)++[125]) (by simp) (by simp;omega),by rw [tx7 he f k];simp⟩
  ·refine ⟨n,he,fun h=>absurd (dt h) hno,fun _=>⟨r, ?_,rfl⟩⟩;rw [← hr0,k,mp_8];have:=(s.lim 0).hi;have:=(s.lim 0).lo;exact ⟨(([98,40]++(sbN f d n.2.1 0).1)++[41],(sbN f d n.2.1 0).2+1),⟨(([98,40]++(sbN f d n.2.1 0).1)++[41],(sbN f d n.2.1 0).2),one_in s 0 (front:=[98,40]) (back:=[41]) (by simp) (by simp),zh (by omega) (by omega),rfl⟩,by rw [tx8 he f k]⟩
  ·refine ⟨n,he,fun h=>absurd (dt h) hno,fun _=>⟨r, ?_,rfl⟩⟩;rw [← hr0,k,mp_9];have:=(s.lim 0).hi;have:=(s.lim 0).lo;exact ⟨(([119,40]++(sbN f d n.2.1 0).1)++[41],(sbN f d n.2.1 0).2+1),⟨(([119,40]++(sbN f d n.2.1 0).1)++[41],(sbN f d n.2.1 0).2),one_in s 0 (front:=[119,40]) (back:=[41]) (by simp) (by simp),zh (by omega) (by omega),rfl⟩,by rw [tx9 he f k]⟩
 | two he hk ha hb h1 h2=>
  rename_i p n
  rw [kd_at he] at hlv;have l1:=h1.le;have s:SbT n_ d f n.2.1:=by rw [ha];exact hs h2 (by omega)
  have t:SbT n_ d f n.2.2.1:=by rw [hb];exact hs h1 (by omega)
  have hno:¬ lvl n.1<lv:=by omega
  rcases hk with k | k
  ·refine ⟨n,he,fun h=>absurd (dt h) hno,fun _=>⟨r, ?_,rfl⟩⟩;rw [← hr0,k,mp_4];exact ⟨(((sbN f d n.2.1 1).1++[])++(sbN f d n.2.2.1 2).1,max (sbN f d n.2.1 1).2 (sbN f d n.2.2.1 2).2),two_in s t (lv:=1) (by omega) (bt:=[]) (by simp),by rw [tx4 he f k];simp⟩
  ·refine ⟨n,he,fun h=>absurd (dt h) hno,fun _=>⟨r, ?_,rfl⟩⟩;rw [← hr0,k,mp_5];exact ⟨(((sbN f d n.2.1 0).1++[124])++(sbN f d n.2.2.1 1).1,max (sbN f d n.2.1 0).2 (sbN f d n.2.2.1 1).2),two_in s t (lv:=0) (by omega) (bt:=[124]) (by simp),by rw [tx5 he f k]⟩
theorem own_step {n_:SDesc→Int→Int→(Str × Int)→Prop} {d:List SNode} {i lv:Int} {r:Str × Int} {n:SNode} (h1:1≤n.1) (h9:n.1≤9) (h:ze.j1 n_ d i lv r n (lvl n.1)):
  (((!(zey gfm0 n.1)))=true→(ze.j1 n_ d i lv r n) 3)∧(((!(zey gfm0 n.1)))=false→(ze.j1 n_ d i lv r n) (lvI (zcn gfm0 n.1 none))):=by
 obtain ⟨o1,o2⟩:=own_in h1 h9;refine ⟨fun hm=>?_,fun hm=>?_⟩
 ·rw [← o1 (by simpa using hm)];exact h
 ·rw [o2 (by simpa using hm)];exact h
theorem print_in {d:List SNode} (ht:Txt d) (hl:d.length≤1000):∀(f:Nat) {g i:Int},Tr d g i→i<(f:Int)→(∀k lv,2*f≤k+1→lv≤lvl (kd d i)→ze.n k d i lv (txN f d i))∧∀k lv,2*f≤k→ze.n k d i lv (sbN f d i lv)
 | 0,g,i,h,hi=>by have:=h.le;omega
 | f+1,g,i,h,hi=>by
  have ih:=fun {g i:Int} (h:Tr d g i) (hi:i<(f:Int))=>print_in ht hl f h hi;have A:∀k lv,2*(f+1)≤k+1→lv≤lvl (kd d i)→ze.n k d i lv (txN (f+1) d i):=fun k lv hk hlv=>by
   obtain ⟨k,rfl⟩:∃m,k=m+1:=⟨k-1,by omega⟩;obtain ⟨n,hn,hj⟩:=text_own (n_:=ze.n k) ht (f:=f) h (fun h' hj=>⟨fun lv=>(ih h' (by omega)).2 k lv (by omega),sb_of ht hl f h'⟩) hlv rfl;obtain ⟨m,hm,k1,k9⟩:=h.kn;rw [hn] at hm;cases hm;exact ⟨n,hn,own_step k1 k9 hj⟩
  refine ⟨A,fun k lv hk=>?_⟩
  by_cases hlv:lvl (kd d i)<lv
  ·obtain ⟨k,rfl⟩:∃m,k=m+1:=⟨k-1,by omega⟩;obtain ⟨n,hn,k1,k9⟩:=h.kn;have hL:=tx_lim ht (f+1) h;have h1:=h.le;have h2:=h.lt;refine ⟨n,hn,own_step k1 k9 ⟨fun _=>⟨txN (f+1) d i, ?_,by simp;omega,by simp;omega,zh (by omega) (by omega), ?_⟩,fun hd=>?_⟩⟩
   ·have:=A k (lvl (kd d i)) (by omega) (Int.le_refl _)
    rwa [kd_at hn] at this
   ·unfold sbN brk;rw [if_pos hlv]
   ·rw [kd_at hn] at hlv;exact absurd hlv (df hd)
  ·have:=A k lv (by omega) (by omega);unfold sbN brk;rw [if_neg hlv];exact this
def txD (d:List SNode):Str × Int:=txN d.length d ((d.length:Int)-1)
theorem lvl_pos (k:Int):0≤lvl k:=by
 unfold lvl;split
 ·omega
 ·split
  ·omega
  ·split <;> omega
theorem zds {d:List SNode} (h:Tr d 0 ((d.length:Int)-1)) (hl:d.length≤1000) (ht:Txt d):ze d ((d.length:Int)-1) 0 (txD d):=by
 have:=h.le;exact ⟨2*d.length,(print_in ht hl d.length h (by omega)).1 _ 0 (by omega) (lvl_pos _)⟩
theorem zdu {d:List SNode} (h:Tr d 0 ((d.length:Int)-1)) (hl:d.length≤1000) (ht:Txt d):zbz d (txD d).1:=⟨zh (by omega) (by omega),_,zds h hl ht,rfl⟩
theorem zcv {d:List SNode} (h:Tr d 0 ((d.length:Int)-1)) (hl:d.length≤1000) (ht:Txt d):zbi d (txD d).2:=⟨zh (by omega) (by omega),_,zds h hl ht,rfl⟩
end Go.Proofs.YtamjkbneebghmaaDoor.V
namespace Go.Proofs.YtamjkbneebghmaaDoor.V
open Go
set_option linter.unusedVariables false
def oDot:List SNode:=[(2,0,0,0,0,Cl.row 0 255,([]:Str))]
def oOr:List SNode:=zew 5 oDot oDot
def oS:List SNode:=zfj 6 oOr
def oW:List SNode:=zfj 8 oS
theorem zex:Tr oDot 0 ((oDot.length:Int)-1):=leaf_tr (.inr rfl) ⟨rfl,rfl⟩
theorem oOr_tr:Tr oOr 0 ((oOr.length:Int)-1):=pair_tr zex zex (.inr rfl)
theorem oS_tr:Tr oS 0 ((oS.length:Int)-1):=wrap_tr oOr_tr (.inl rfl)
theorem oW_tr:Tr oW 0 ((oW.length:Int)-1):=wrap_tr oS_tr (.inr (.inl rfl))
theorem no_txt {d:List SNode} (h:∀n∈d,n.2.2.2.2.2.2=[]):Txt d:=fun n hn=>by rw [h n hn];simp
theorem awake06:zcx true:=by
 have u8:∀c:Int,0≤c∧c≤255→InR .u8 c:=fun c h=>zed.2 h;have tS:Txt oS:=no_txt (by decide +kernel);have tW:Txt oW:=no_txt (by decide +kernel);have tD:Txt oDot:=no_txt (by decide +kernel);have w1:zbz oS [40,46,124,46,41,42]:=by
  have:=zdu oS_tr (by decide +kernel) tS
  rwa [show (txD oS).1=[40,46,124,46,41,42] by decide +kernel] at this
 have w2:zbi oS 1:=by
  have:=zcv oS_tr (by decide +kernel) tS
  rwa [show (txD oS).2=1 by decide +kernel] at this
 have w3:zbz oW [98,40,40,46,124,46,41,42,41]:=by
  have:=zdu oW_tr (by decide +kernel) tW
  rwa [show (txD oW).1=[98,40,40,46,124,46,41,42,41] by decide +kernel] at this
 have w4:zbi oW 2:=by
  have:=zcv oW_tr (by decide +kernel) tW
  rwa [show (txD oW).2=2 by decide +kernel] at this
 have w5:za (Cl.row 97 98) [60,54,49,45,54,50,62]:=by
  have:=zbn (a:=Cl.row 97 98)
  rwa [show ze5 (Cl.row 97 98)=[60,54,49,45,54,50,62] by decide +kernel] at this
 have w6:za (0#256) [60,62]:=by
  have:=zbn (a:=0#256)
  rwa [show ze5 (0#256)=[60,62] by decide +kernel] at this
 have w7:za (Cl.ofWords 5 0 0 0) [60,48,48,44,48,50,62]:=by
  have:=zbn (a:=Cl.ofWords 5 0 0 0)
  rwa [show ze5 (Cl.ofWords 5 0 0 0)=[60,48,48,44,48,50,62] by decide +kernel] at this
 have w8:zbi oDot 0:=by
  have:=zcv zex (by decide +kernel) tD
  rwa [show (txD oDot).2=0 by decide +kernel] at this
 refine ⟨Cl.row 0 255,zb3 (u8 0 (by decide)) (u8 255 (by decide)),oOr,Pair_in zex zex (by decide) (by decide),oS,Wrap_in oOr_tr (by decide +kernel),oW,Wrap_in oS_tr (by decide +kernel),_,w1,_,fun _=>w2,_,rfl,_,fun _=>w3,_,rfl,_,fun _=>w4,_,fun _=>zb3 (u8 97 (by decide)) (u8 98 (by decide)),_,fun _=>w5,_,rfl,_,fun _=>w6,_,fun _=>w7,_,rfl,_,fun _=>w8, ?_⟩;decide
theorem nq {a b:Int} {p:Prop} (h:a≠b) (e:(a==b)=true):p:=absurd (eq_of_beq e) h
def Pln (c:UInt8):Prop:=c≠34∧c≠40∧c≠41
theorem nat_ne {c k:UInt8} (h:c≠k):((c.toNat:Int)==(k.toNat:Int))=false:=by
 rw [beq_eq_false_iff_ne];intro e;exact h (UInt8.toNat.inj (by omega))
instance (c : UInt8) : Decidable (Pln c):=by unfold Pln; infer_instance
def rT (r:Nat × Nat):Str:=zd8 r.1 r.2
def RnOk (R:List (Nat × Nat)):Prop:=∀r∈R,r.1≤r.2∧r.2<256
theorem rT_ne (r:Nat × Nat):rT r≠[]:=by
 unfold rT zd8;split <;> simp [zcy]
theorem runs_ex (P:Nat→Bool):∀(m n:Nat) (R:List (Nat × Nat)),n+m=256→RnOk R→zdd P n=[60]++jn (R.map rT)→(∀j,j<n→(P j=true↔∃r∈R,r.1≤j∧j≤r.2))→(∀r∈R,r.2<n)→(n<256→P n=true→bgC P n=true) →
  ∃R,RnOk R∧zdd P 256=[60]++jn (R.map rT)∧∀j,j<256→(P j=true↔∃r∈R,r.1≤j∧j≤r.2):=by
 intro m
 induction m using Nat.strongRecOn with
 | ind m ih=>
  intro n R hm ok h1 h2 hn h3
  by_cases h256:n=256
  ·subst h256;exact ⟨R,ok,h1,h2⟩
  ·cases hP:P n
   ·refine ih (m-1) (by omega) (n+1) R (by omega) ok (by rw [zdd,if_neg (by rw [hP];simp)];exact h1) (fun j hj=>?_) (fun r hr=>by have:=hn r hr;omega) (fun _ _=>by unfold bgC;rw [Nat.add_sub_cancel,hP];simp)
    by_cases e:j=n
    ·subst e;rw [hP];refine ⟨fun h=>by (cases h),fun ⟨r,hr,_,h⟩=>?_⟩;have:=hn r hr;omega
    ·exact h2 j (by omega)
   ·obtain ⟨l,l1,l2,l3,l4⟩:=run_end P (255-n) n (by omega) hP;have hb:=h3 (by omega) hP;have hr:=refS_run l2 l3 hb l4 (l-n) (by omega);rw [show n+(l-n)+1=l+1 by omega] at hr;have hrT:(if l-n=0∨n+(l-n)<l then zcy n else zd8 n l)=zd8 n l:=by
     by_cases e:l-n=0
     ·rw [if_pos (.inl e)];unfold zd8;rw [if_neg (by omega)]
     ·rw [if_neg (by omega)]
    rw [hrT] at hr;have hnew:zdd P (l+1)=[60]++jn ((R++[(n,l)]).map rT):=by
     rw [hr,h1,List.map_append];unfold s1C;rw [hb];show (if (true&&([60]++jn (R.map rT) != [60]))=true then _ else _)++zd8 n l=[60]++jn (R.map rT++[zd8 n l])
     by_cases hrw:R=[]
     ·subst hrw;rw [List.map_nil,List.nil_append,jn_one,if_neg (by simp [jn,Lib.join_nil])];simp [jn,Lib.join_nil]
     ·have hne:R.map rT≠[]:=fun e=>hrw (List.map_eq_nil_iff.1 e);have:=jn_ne hne fun x hx=>by
       obtain ⟨r,_,rfl⟩:=List.mem_map.1 hx;exact rT_ne r
      rw [jn_snoc hne,if_pos (by simpa using this)];simp [List.append_assoc]
    refine ih (255-l) (by omega) (l+1) (R++[(n,l)]) (by omega) (fun r hr=>?_) hnew (fun j hj=>?_) (fun r hr=>?_) (fun h k=>?_)
    ·rcases List.mem_append.1 hr with hr | hr
     ·exact ok r hr
     ·rw [List.mem_singleton.1 hr];exact ⟨l1,l2⟩
    ·by_cases e:j<n
     ·rw [h2 j e];refine ⟨fun ⟨r,hr,q⟩=>⟨r,by simp [hr],q⟩,fun ⟨r,hr,q1,q2⟩=>?_⟩;rcases List.mem_append.1 hr with hr | hr
      ·exact ⟨r,hr,q1,q2⟩
      ·rw [List.mem_singleton.1 hr] at q1;simp only at q1;omega
     ·exact ⟨fun _=>⟨(n,l),by simp,by simp only;omega,by simp only;omega⟩,fun _=>l3 j (by omega) (by omega)⟩
    ·rcases List.mem_append.1 hr with hr | hr
     ·have:=hn r hr;omega
     ·rw [List.mem_singleton.1 hr];simp
    ·exfalso;unfold enC at l4;rw [k] at l4;have:(l:Int)=255:=by simpa using l4
     omega
theorem cls_runs (a:Cl):∃R,RnOk R∧zdd a.has 256=[60]++jn (R.map rT)∧∀j,j<256→(a.has j=true↔∃r∈R,r.1≤j∧j≤r.2):=
 runs_ex a.has 256 0 [] rfl (fun r hr=>by cases hr) rfl (fun j hj=>by omega) (fun r hr=>by cases hr) (fun _ _=>rfl)
theorem dg_lo:∀n:Fin 10,((hx16.getD n.val 0).toNat:Int)=48+(n.val:Int):=by decide +kernel
theorem dg_hi:∀n:Fin 16,10≤n.val→((hx16.getD n.val 0).toNat:Int)=87+(n.val:Int):=by decide +kernel
theorem digit_in {n:Nat} (h:n<16):zbr ((hx16.getD n 0).toNat:Int) (n:Int):=by
 by_cases h10:n<10
 ·have e:=dg_lo ⟨n,h10⟩;simp only at e;rw [e];refine ⟨fun _=>⟨zh (by omega) (by omega),by omega⟩,fun hc=>?_⟩;simp at hc;omega
 ·have e:=dg_hi ⟨n,h⟩ (by simp only;omega);simp only at e;rw [e];refine ⟨fun hc=>?_,fun _=>⟨fun _=>⟨zh (by omega) (by omega),by omega⟩,fun hc=>?_⟩⟩
  ·simp at hc;omega
  ·simp at hc;omega
theorem zc0 (pre:Str) (x:UInt8) (post:Str) {i:Int} (hi:i=(pre.length:Int)):zbk (pre++x::post) i=some (x.toNat:Int):=by
 subst hi;unfold zbk;rw [zc9,List.getElem?_append_right (Nat.le_refl _),Nat.sub_self];rfl
theorem zd0 {pre post:Str} {c:Nat} (hc:c<256) (hl:(pre++(zcy c++post)).length≤100000) {i:Int} (hi:i=(pre.length:Int)):zcq (pre++(zcy c++post)) i (c:Int):=by
 subst hi;have hs:pre++(zcy c++post)=pre++hx16.getD (c / 16) 0::(hx16.getD (c % 16) 0::post):=rfl;have hs2:pre++(zcy c++post)=(pre++[hx16.getD (c / 16) 0])++hx16.getD (c % 16) 0::post:=by rw [hs];simp
 have b1:zbk (pre++(zcy c++post)) (pre.length:Int)=some ((hx16.getD (c / 16) 0).toNat:Int):=by rw [hs];exact zc0 _ _ _ rfl
 have b2:zbk (pre++(zcy c++post)) ((pre.length:Int)+1)=some ((hx16.getD (c % 16) 0).toNat:Int):=by rw [hs2];exact zc0 _ _ _ (by simp)
 have d1:=digit_in (n:=c / 16) (by omega);have d2:=digit_in (n:=c % 16) (by omega);have hlen:((pre++(zcy c++post)).length:Int)=(pre.length:Int)+2+(post.length:Int):=by simp [zbo];omega
 have f1:decide (((pre++(zcy c++post)).length:Int)≤(pre.length:Int)+1)=false:=decide_eq_false (by omega);have f2:decide (((c / 16:Nat):Int)<0)=false:=decide_eq_false (by omega);have f3:decide (((c % 16:Nat):Int)<0)=false:=decide_eq_false (by omega);have i1:InR .i64 ((pre.length:Int)+1):=zh (by omega) (by omega);generalize pre++(zcy c++post)=s at *;refine ⟨i1,_,fun _=>b1,_,fun _=>d1,_,rfl,fun _=>i1,_,fun _=>b2,_,fun _=>d2,fun h=>?_,fun _=>⟨_,b1,_,d1,zh (by omega) (by omega),i1,_,b2,_,d2,zh (by omega) (by omega),by omega⟩⟩;rw [f1,f2,f3] at h;cases h
def zd1 (a:Cl):List (Nat × Nat)→Cl
 | []=>a
 | r::R=>zd1 (a ||| Cl.row r.1 r.2) R
theorem zez:∀(R:List (Nat × Nat)) (a:Cl) {j:Nat},j<256→((zd1 a R).has j=true↔a.has j=true∨∃r∈R,r.1≤j∧j≤r.2)
 | [],a,j,hj=>by simp [zd1]
 | r::R,a,j,hj=>by
  rw [zd1,zez R _ hj];have e:(a ||| Cl.row (r.1:Int) (r.2:Int)).has j=(a.has j||(Cl.row (r.1:Int) (r.2:Int)).has j):=BitVec.getLsbD_or ..;have e2:(Cl.row (r.1:Int) (r.2:Int)).has j=(decide ((r.1:Int)≤(j:Int))&&decide ((j:Int)≤(r.2:Int))):=Cl.of_has _ hj;rw [e,e2];simp only [Bool.or_eq_true,Bool.and_eq_true,decide_eq_true_eq,List.mem_cons];constructor
  ·rintro ((h | ⟨h1,h2⟩) | ⟨q,hq,h⟩)
   ·exact .inl h
   ·exact .inr ⟨r,.inl rfl,by omega,by omega⟩
   ·exact .inr ⟨q,.inr hq,h⟩
  ·rintro (h | ⟨q,rfl | hq,h1,h2⟩)
   ·exact .inl (.inl h)
   ·exact .inl (.inr ⟨by omega,by omega⟩)
   ·exact .inr ⟨q,hq,h1,h2⟩
theorem jn_cons2 (x y:Str) (r:List Str):jn (x::y::r)=x++(44::jn (y::r)):=by
 rw [ze0,ze0];simp [Lib.joinTail]
theorem bytes_from {s:Str} {res:Cl} (hl:s.length≤100000):∀(R:List (Nat × Nat)) (r:Nat × Nat) (pre:Str) (a0 v:Cl),RnOk (r::R)→s=pre++jn ((r::R).map rT)→zd1 a0 (r::R)=res→∃k,zb.l1 s (res,true) (zb.j1 (res,true) false) k v (pre.length:Int) a0:=by
 intro R
 induction R with
 | nil=>?_
 | cons r2 R ih=>?_
 all_goals
  intro r pre a0 v ok hs hr;obtain ⟨c,l⟩:=r;obtain ⟨hcl,hl2⟩:=ok (c,l) (by simp);simp only at hcl hl2
 ·-- the last one
  have hs1:s=pre++(rT (c,l)++[]):=by rw [hs,List.map_cons,List.map_nil,jn_one,List.append_nil]
  refine ⟨2, ?_⟩;have fin:∀i:Int,i=(s.length:Int)→zb.l1 s (res,true) (zb.j1 (res,true) false) 1 v i (a0 ||| Cl.row c l):=fun i hi=>⟨fun h=>absurd (dt h) (by omega),fun _=>⟨(fun h=>by cases h),fun _=>by rw [← hr];rfl⟩⟩;have tail:∀(i to:Int),i=(s.length:Int)→to=(l:Int)→zb.j2 (zb.l1 s (res,true) (zb.j1 (res,true) false) 1) s (res,true) v a0 (c:Int) i to:=fun i to hi hto=>by
   subst hto;refine ⟨fun h=>?_,fun _=>⟨_, ?_,_,zdp,fun h=>absurd (dt h) (by omega),fun _=>fin i hi⟩⟩
   ·simp at h;omega
   ·rw [show (c:Int) % 256=(c:Int) by omega,show (l:Int) % 256=(l:Int) by omega];exact zb3 (zed.2 (by omega)) (zed.2 (by omega))
  by_cases hlt:c<l
  ·have hs2:s=pre++(zcy c++(45::(zcy l++[]))):=by rw [hs1];unfold rT zd8;rw [if_pos hlt];simp
   have hs3:s=(pre++zcy c)++45::(zcy l++[]):=by rw [hs2];simp
   have hs4:s=((pre++zcy c)++[45])++(zcy l++[]):=by rw [hs3];simp
   have hlen:(s.length:Int)=(pre.length:Int)+5:=by rw [hs2];simp [zbo]
   refine ⟨fun _=>⟨(c:Int), ?_,zh (by omega) (by omega),45,fun _=>?_,_,rfl,fun _=>⟨zh (by omega) (by omega),(l:Int), ?_,zh (by omega) (by omega),tail _ _ (by omega) rfl⟩,fun h=>?_⟩,fun h=>absurd (by omega) (df h)⟩
   ·rw [hs2];exact zd0 (by omega) (by rw [← hs2];exact hl) rfl
   ·rw [hs3];exact zc0 _ _ _ (by simp [zbo])
   ·rw [hs4];exact zd0 (by omega) (by rw [← hs4];exact hl) (by simp [zbo];omega)
   ·rw [decide_eq_true (by omega)] at h;cases h
  ·have hs2:s=pre++(zcy c++[]):=by rw [hs1];unfold rT zd8;rw [if_neg hlt]
   have hlen:(s.length:Int)=(pre.length:Int)+2:=by rw [hs2];simp [zbo]
   refine ⟨fun _=>⟨(c:Int), ?_,zh (by omega) (by omega),0,fun h=>absurd (dt h) (by omega),_,rfl,fun h=>?_,fun _=>tail _ _ (by omega) (by omega)⟩,fun h=>absurd (by omega) (df h)⟩
   ·rw [hs2];exact zd0 (by omega) (by rw [← hs2];exact hl) rfl
   ·rw [decide_eq_false (by omega)] at h;cases h
 ·-- one with others behind
  have hs1:s=pre++(rT (c,l)++(44::jn ((r2::R).map rT))):=by rw [hs,List.map_cons,List.map_cons,jn_cons2]
  obtain ⟨k,hk⟩:=ih r2 (pre++(rT (c,l)++[44])) (a0 ||| Cl.row c l) v (fun q hq=>ok q (by simp at hq ⊢;exact .inr hq)) (by rw [hs1];simp) (by rw [← hr];rfl);refine ⟨k+1, ?_⟩;have hne:jn ((r2::R).map rT)≠[]:=jn_ne (by simp) fun x hx=>by
   obtain ⟨q,_,rfl⟩:=List.mem_map.1 hx;exact rT_ne q
  have hnl:=List.length_pos_iff.2 hne;have hlen0:(s.length:Int)=(pre.length:Int)+((rT (c,l)).length:Int)+1+((jn ((r2::R).map rT)).length:Int):=by rw [hs1];simp;omega
  have b44:zbk s ((pre.length:Int)+((rT (c,l)).length:Int))=some 44:=by
   rw [show s=(pre++rT (c,l))++44::jn ((r2::R).map rT) by rw [hs1];simp];exact zc0 _ _ _ (by simp)
  have epre:(((pre++(rT (c,l)++[44])).length:Nat):Int)=(pre.length:Int)+((rT (c,l)).length:Int)+1:=by simp;omega
  rw [epre] at hk;have tail:∀(i to:Int),i=(pre.length:Int)+((rT (c,l)).length:Int)→to=(l:Int)→zb.j2 (zb.l1 s (res,true) (zb.j1 (res,true) false) k) s (res,true) v a0 (c:Int) i to:=fun i to hi hto=>by
   subst hto;subst hi;refine ⟨fun h=>?_,fun _=>⟨_, ?_,_,zdp,fun _=>⟨44,b44,fun _=>zh (by omega) (by omega),fun h=>?_,fun _=>⟨zh (by omega) (by omega),hk⟩⟩,fun h=>absurd (by omega) (df h)⟩⟩
   ·simp at h;omega
   ·rw [show (c:Int) % 256=(c:Int) by omega,show (l:Int) % 256=(l:Int) by omega];exact zb3 (zed.2 (by omega)) (zed.2 (by omega))
   ·exfalso;simp at h;omega
  by_cases hlt:c<l
  ·have hrl:(rT (c,l)).length=5:=by unfold rT zd8;rw [if_pos hlt];rfl
   have hs2:s=pre++(zcy c++(45::(zcy l++(44::jn ((r2::R).map rT))))):=by rw [hs1];unfold rT zd8;rw [if_pos hlt];simp
   have hs3:s=(pre++zcy c)++45::(zcy l++(44::jn ((r2::R).map rT))):=by rw [hs2];simp
   have hs4:s=((pre++zcy c)++[45])++(zcy l++(44::jn ((r2::R).map rT))):=by rw [hs3];simp
   refine ⟨fun _=>⟨(c:Int), ?_,zh (by omega) (by omega),45,fun _=>?_,_,rfl,fun _=>⟨zh (by omega) (by omega),(l:Int), ?_,zh (by omega) (by omega),tail _ _ (by omega) rfl⟩,fun h=>?_⟩,fun h=>absurd (by omega) (df h)⟩
   ·rw [hs2];exact zd0 (by omega) (by rw [← hs2];exact hl) rfl
   ·rw [hs3];exact zc0 _ _ _ (by simp [zbo])
   ·rw [hs4];exact zd0 (by omega) (by rw [← hs4];exact hl) (by simp [zbo];omega)
   ·rw [decide_eq_true (by omega)] at h;cases h
  ·have hrl:(rT (c,l)).length=2:=by unfold rT zd8;rw [if_neg hlt];rfl
   have hs2:s=pre++(zcy c++(44::jn ((r2::R).map rT))):=by rw [hs1];unfold rT zd8;rw [if_neg hlt]
   refine ⟨fun _=>⟨(c:Int), ?_,zh (by omega) (by omega),44,fun _=>?_,_,rfl,fun h=>?_,fun _=>tail _ _ (by omega) (by omega)⟩,fun h=>absurd (by omega) (df h)⟩
   ·rw [hs2];exact zd0 (by omega) (by rw [← hs2];exact hl) rfl
   ·rw [show s=(pre++zcy c)++44::jn ((r2::R).map rT) by rw [hs2];simp];exact zc0 _ _ _ (by simp [zbo])
   ·rw [show ((44:Int)==45)=false from rfl,Bool.and_false] at h;cases h
theorem jn_all {p:UInt8→Prop} (h44:p 44):∀{rows:List Str},(∀x∈rows,∀c∈x,p c)→∀c∈jn rows,p c
 | [],_,c,hc=>by simp [jn,Lib.join_nil] at hc
 | [x],h,c,hc=>by rw [jn_one] at hc;exact h x (by simp) c hc
 | x::y::r,h,c,hc=>by
  rw [jn_cons2] at hc;rcases List.mem_append.1 hc with hc | hc
  ·exact h x (by simp) c hc
  ·rcases List.mem_cons.1 hc with rfl | hc
   ·exact h44
   ·exact jn_all h44 (fun z hz=>h z (by simp at hz ⊢;exact .inr hz)) c hc
def Inn (c:UInt8):Prop:=c≠62∧c≠94
instance (c : UInt8) : Decidable (Inn c):=by unfold Inn; infer_instance
theorem hx_inn:∀n:Fin 16,Inn (hx16.getD n.val 0):=by decide +kernel
theorem rT_inn {r:Nat × Nat} (h1:r.1≤r.2) (h2:r.2<256):∀c∈rT r,Inn c:=fun c hc=>by
 have hh:∀{n:Nat},n<256→∀c∈zcy n,Inn c:=fun {n} hn c hc=>by
  unfold zcy at hc;simp only [List.mem_cons,List.not_mem_nil,or_false] at hc;rcases hc with rfl | rfl
  ·exact hx_inn ⟨n / 16,by omega⟩
  ·exact hx_inn ⟨n % 16,by omega⟩
 unfold rT zd8 at hc;split at hc
 ·rcases List.mem_append.1 hc with hc | hc
  ·exact hh (by omega) c hc
  ·rcases List.mem_append.1 hc with hc | hc
   ·rw [List.mem_singleton.1 hc];decide
   ·exact hh h2 c hc
 ·exact hh (by omega) c hc
theorem short_in {c:Int} (h:c≠40∧c≠41∧c≠124∧c≠42∧c≠98∧c≠119):zj c 0:=by
 obtain ⟨h1,h2,h3,h4,h5,h6⟩:=h;have st:∀{k:Nat} {i b:Int},decide (i<(([40,41,124,42,98,119]:Str).length:Int))=true→zbk ([40,41,124,42,98,119]:Str) i=some b→b≠c→-10≤i∧i≤10→zj.l1 c 0 (zj.j1 0) k (i+1)→zj.l1 c 0 (zj.j1 0) (k+1) i:=fun hd hb hne hi hk=>
  ⟨_,rfl,fun _=>⟨_,hb,fun e=>nq hne e,fun _=>⟨zh (by omega) (by omega),hk⟩⟩,fun h=>by rw [hd] at h;cases h⟩
 exact ⟨7,st rfl rfl (Ne.symm h1) (by decide) (st rfl rfl (Ne.symm h2) (by decide) (st rfl rfl (Ne.symm h3) (by decide) (st rfl rfl (Ne.symm h4) (by decide) (st rfl rfl (Ne.symm h5) (by decide) (st rfl rfl (Ne.symm h6) (by decide) ⟨_,rfl,(fun h=>by cases h),fun _=>rfl⟩)))))⟩
theorem end_in {w:Str} (hw:∀c∈w,Inn c) (hl:w.length≤100000):zy ([60]++w++[62]) 0 62 ((w.length:Int)+1):=by
 refine ⟨zh (by omega) (by omega), ?_⟩;refine run (P:=fun k (j:Int)=>zy.l1 ([60]++w++[62]) 62 ((w.length:Int)+1) (zy.j1 ((w.length:Int)+1)) k j) (fun j=>∃i:Nat,j=(i:Int)+1∧i≤w.length) (fun j=>w.length+2-j.toNat) ?_ (0+1) ⟨0,by simp,by omega⟩;rintro j ⟨i,rfl,hi⟩;have hlen:(([60]++w++[62]:Str).length:Int)=(w.length:Int)+2:=by simp;omega
 by_cases e:i=w.length
 ·subst e;refine .inl fun k=>⟨fun _=>⟨62, ?_,fun _=>rfl,fun h=>by cases h⟩,fun h=>absurd (by omega) (df h)⟩;exact zc0 ([60]++w) 62 [] (by simp)
 ·have hlt:i<w.length:=by omega
  have hb:zbk ([60]++w++[62]) ((i:Int)+1)=some ((w[i].toNat:Nat):Int):=by
   unfold zbk;rw [show (i:Int)+1=((i+1:Nat):Int) by omega,zc9];rw [List.getElem?_append_left (by simp;omega),List.getElem?_append_right (by simp)];simp [hlt]
  refine .inr ⟨(i:Int)+1+1,⟨i+1,by omega,by omega⟩,by omega,fun k hk=>⟨fun _=>⟨_,hb,fun h=>?_,fun _=>⟨zh (by omega) (by omega),hk⟩⟩,fun h=>absurd (by omega) (df h)⟩⟩;have h62:=nat_ne (hw _ (List.getElem_mem hlt)).1;rw [show ((62:Int))=(((62:UInt8).toNat:Nat):Int) from rfl] at h;rw [h62] at h;cases h
theorem row_all (a:Cl):zp 0 255 (Cl.row 0 255):=row_in (a:=a)
theorem Read_in (a:Cl):zt (ze5 a) ([(1,0,a,([]:Str),0,0),(10,((ze5 a).length:Int),(0#256),([]:Str),0,0)],0,0):=by
 have key:∀s:Str,1≤s.length→s.length≤10000→(∃c,zbk s 0=some c∧c≠32)→zdn s 0 ((1,0,a,([]:Str),0,0),(s.length:Int),0)→zt s ([(1,0,a,([]:Str),0,0),(10,(s.length:Int),(0#256),([]:Str),0,0)],0,0):=by
  rintro s h0 h1 ⟨c,hc,h32⟩ ho;exact ⟨2,fun _=>⟨c,hc,fun e=>nq h32 e,fun _=>⟨_,ho,(fun h=>by cases h),fun _=>⟨by simp,fun h=>absurd (dt h) (by simp),fun _=>⟨by simp,rfl⟩⟩⟩⟩,fun h=>absurd (by omega) (df h)⟩
 unfold ze5;split
 ·rename_i h
  subst h;exact key [46] (by simp) (by simp) ⟨46,rfl,by decide⟩ ⟨46,rfl,0,short_in (by decide),(fun h=>by cases h),fun _=>⟨46,rfl,fun _=>⟨_,row_all 0,zh (by decide) (by decide),rfl⟩,fun h=>by cases h⟩⟩
 ·rename_i hne
  obtain ⟨R,ok,h1,h2⟩:=cls_runs a;have hlen:=zdk a.has 256;rw [h1] at hlen ⊢;have hw:∀c∈jn (R.map rT),Inn c:=jn_all (by decide) fun x hx=>by
   obtain ⟨r,hr,rfl⟩:=List.mem_map.1 hx;obtain ⟨q1,q2⟩:=ok r hr;exact rT_inn q1 q2
  have hja:zd1 (0#256) R=a:=Cl.ext fun j hj=>by
   rw [Bool.eq_iff_iff,zez R _ hj,h2 j hj];have:Cl.has (0#256) j=false:=by simp [Cl.has]
   rw [this];simp
  have hjl:(jn (R.map rT)).length≤1000:=by simp at hlen;omega
  have hby:zb (jn (R.map rT)) (a,true):=by
   cases hR:R with
   | nil=>
    subst hR;exact ⟨0,(fun h=>by cases h),(fun h=>by cases h),fun _=>⟨1,(fun h=>by cases h),fun _=>⟨(fun h=>by cases h),fun _=>by rw [← hja];rfl⟩⟩⟩
   | cons r R'=>
    rw [hR] at ok hw hja hjl;have hne2:jn ((r::R').map rT)≠[]:=jn_ne (by simp) fun x hx=>by
     obtain ⟨q,_,rfl⟩:=List.mem_map.1 hx;exact rT_ne q
    obtain ⟨k,hk⟩:=bytes_from (s:=jn ((r::R').map rT)) (res:=a) (by omega) R' r [] (0#256) (0#256) ok rfl hja;cases hj:jn ((r::R').map rT) with
    | nil=>exact absurd hj hne2
    | cons x xs=>
     rw [hj] at hk hw;refine ⟨(x.toNat:Int),fun _=>rfl,fun h=>?_,fun _=>⟨k,hk⟩⟩;exfalso;have h94:=nat_ne (hw x (by simp)).2;rw [Bool.and_eq_true] at h;have h2:=h.2;rw [show ((94:Int))=(((94:UInt8).toNat:Nat):Int) from rfl,h94] at h2;cases h2
  generalize jn (R.map rT)=w at *;have el:(([60]++w++[62]:Str).length:Int)=(w.length:Int)+2:=by simp;omega
  refine key ([60]++w++[62]) (by simp) (by simp;omega) ⟨60,rfl,by decide⟩ ⟨60,rfl,0,short_in (by decide),(fun h=>by cases h),fun _=>⟨60,rfl,(fun h=>by cases h),fun _=>⟨fun _=>⟨_,end_in hw (by omega),fun h=>absurd (dt h) (by omega),fun _=>⟨zh (by decide) (by decide),⟨by omega,by omega,by omega⟩,(a,true), ?_,(fun h=>by cases h),fun _=>⟨zh (by omega) (by omega), ?_⟩⟩⟩,fun h=>by cases h⟩⟩⟩
  ·have e:(([60]++w++[62]:Str).take ((w.length:Int)+1:Int).toNat).drop ((0:Int)+1:Int).toNat=w:=by
    rw [show ((w.length:Int)+1).toNat=w.length+1 by omega];simp
   rw [e];exact hby
  ·rw [el,show (w.length:Int)+1+1=(w.length:Int)+2 by omega]
def cnt (P:Nat→Bool) (c:Nat):Nat:=(List.range c).countP P
theorem cnt_succ (P:Nat→Bool) (c:Nat):cnt P (c+1)=cnt P c+(if P c=true then 1 else 0):=by
 unfold cnt;rw [List.range_succ,List.countP_append];simp [List.countP_cons]
theorem refS_cnt (P:Nat→Bool):∀c,(cnt P c=0→zdd P c=[60]∧∀j,j<c→P j=false)∧(cnt P c≠0→(zdd P c).length≤3*cnt P c)
 | 0=>⟨fun _=>⟨rfl,fun j hj=>by omega⟩,fun h=>absurd rfl h⟩
 | c+1=>by
  obtain ⟨h1,h2⟩:=refS_cnt P c;rw [cnt_succ];cases hP:P c
  ·have e:zdd P (c+1)=zdd P c:=by rw [zdd,if_neg (by rw [hP];simp)]
   rw [e];simp only [Bool.false_eq_true,if_false,Nat.add_zero];refine ⟨fun h=>⟨(h1 h).1,fun j hj=>?_⟩,h2⟩
   by_cases e:j=c
   ·rw [e];exact hP
   ·exact (h1 h).2 j (by omega)
  ·have e:zdd P (c+1)=s3C P c (zdd P c):=by rw [zdd,if_pos hP]
   rw [e];simp only [if_true];refine ⟨fun h=>by omega,fun _=>?_⟩
   by_cases h0:cnt P c=0
   ·obtain ⟨k1,k2⟩:=h1 h0;have hb:bgC P c=true:=by
     unfold bgC
     by_cases c0:c=0
     ·subst c0;rfl
     ·rw [k2 (c-1) (by omega)];simp
    rw [h0,k1];unfold s3C s2C s1C;rw [hb];simp [zbo]
   ·have:=s3C_len P c (zdd P c);have:=h2 h0;omega
theorem clsT_cnt (a:Cl):((ze5 a).length:Int)≤max (1+3*(cnt a.has 256:Int)) 2:=by
 obtain ⟨h1,h2⟩:=refS_cnt a.has 256;unfold ze5;split
 ·simp only [List.length_singleton];omega
 ·rw [List.length_append,List.length_singleton]
  by_cases h0:cnt a.has 256=0
  ·rw [(h1 h0).1];simp;omega
  ·have:=h2 h0;omega
theorem clsT_dot (a:Cl):(ze5 a==([46]:Str))=(a==Cl.row 0 255):=by
 rw [Bool.eq_iff_iff,beq_iff_eq,beq_iff_eq];unfold ze5;constructor
 ·intro h;split at h
  ·assumption
  ·have:=congrArg List.getLast? h;simp at this
 ·rintro rfl;rw [if_pos rfl]
theorem law06_PrintClass_true {a:Cl}:zf a true:=by
 refine ⟨true,awake06,(fun h=>by cases h),fun _=>⟨_,zbn,_,Read_in a,(1,0,a,([]:Str),0,0),fun _=>rfl,false,rfl,(1,0,a,([]:Str),0,0),fun _=>rfl,fun h=>?_,fun _=>?_⟩⟩
 ·simp at h
 ·refine upto (P:=fun k (n:Int) v=>zf.l1 a (zf.j1 a true (ze5 a)) k n v) 256 (fun i n=>n=1+3*(cnt a.has i:Int)) ?_ ?_ 1 (by simp [cnt])
  ·rintro i n hi rfl;have hc:=cnt_succ a.has i;have hle:cnt a.has i≤i:=by unfold cnt;exact Nat.le_trans List.countP_le_length (by simp)
   refine .inr ⟨_,rfl,fun k hk=>⟨fun _=>⟨_,zdq hi,fun h=>⟨zh (by omega) (by omega),zh (by omega) (by omega), ?_⟩,fun h=>⟨zh (by omega) (by omega), ?_⟩⟩,fun h=>absurd (by omega) (df h)⟩⟩
   ·rw [hc,if_pos h,show 1+3*((cnt a.has i+1:Nat):Int)=1+3*(cnt a.has i:Int)+3 by omega] at hk;exact hk
   ·rw [hc,if_neg (by rw [h];simp)] at hk;exact hk
  ·rintro n rfl k;refine ⟨fun h=>absurd (dt h) (by omega),fun _=>⟨_,fun _=>row_all a,_,rfl, ?_⟩⟩;rw [decide_eq_true (clsT_cnt a),clsT_dot];simp
open Go.ChangeShapes Go.WideShapes Go.RowKit
structure Rd (P:Program) (t:TypeId) {α:Type} (E:En α) (G:α→Prop):Prop where
 sz:P.cellsOf t=E.sz
 rd:∀{H:Type} (enc:TypeId × Value→H) (w:World) (fuel:Nat) (cs:List Value) (x:DataW H × List MemPlace),
  DataW.trod enc P w 0 (fun _=>true) true fuel t cs=some x→(∀n∈x.1.weights P t,n≤reachBytes)→∃y,E.R w (fun b=>b<w.heap.size) cs y∧G y
 vl:∀(w:World) (v:Value),Value.okWide P w .any 0 t v→(∃y,E.R w (fun b=>b<w.heap.size) v.cells.toList y)→v=E.val v.cells.toList
theorem u64_word {n:Int} (h:InR .u64 n):∃m:Nat,m<2 ^ 64∧n=m:=by
 simp [InR,IntKind.min,IntKind.max,IntKind.signed,IntKind.bits] at h;exact ⟨n.toNat,by omega,by omega⟩
theorem Rd.cls {P:Program} {t e:TypeId} (ht:P.underlying t=some (.array 4 e)) (hc:P.cellsOf t=4) (he:P.underlying e=some (.int .u64)) (hce:P.cellsOf e=1):Rd P t En.cls (fun _=>True):=by
 refine ⟨hc, ?_, ?_⟩
 ·intro H enc w fuel cs x h _;obtain ⟨xs,m,rfl,rfl,hlen,hn,hx⟩:=DataW.trod_array ht h;rw [hc] at hlen
  match cs,hlen with
  | [u0,u1,u2,u3],_=>
   have hx':∀i (hi:i<4) u,[u0,u1,u2,u3][i]?=some u→∃q:Nat,q<2 ^ 64∧u = .int .u64 q:=by
    intro i hi u hu;have h1:=hx i hi;rw [hce,Nat.mul_one,List.getElem?_eq_getElem (by omega)] at h1;have h2:List.take 1 (List.drop i [u0,u1,u2,u3])=[u]:=by
     match i,hi with
     | 0,_ | 1,_ | 2,_ | 3,_=>simp at hu;subst hu;rfl
    rw [h2] at h1;obtain ⟨n,h3,_,h4⟩:=DataW.trod_int he h1;obtain ⟨q,hq,rfl⟩:=u64_word (n:=n) (by simpa [Lit.wf,InR] using h4);simp at h3;exact ⟨q,hq,h3⟩
   obtain ⟨q0,h0,rfl⟩:=hx' 0 (by omega) u0 rfl;obtain ⟨q1,h1,rfl⟩:=hx' 1 (by omega) u1 rfl;obtain ⟨q2,h2,rfl⟩:=hx' 2 (by omega) u2 rfl;obtain ⟨q3,h3,rfl⟩:=hx' 3 (by omega) u3 rfl;refine ⟨Cl.ofWords q0 q1 q2 q3, ?_,trivial⟩;obtain ⟨e0,e1,e2,e3⟩:=Cl.ofWords_word h0 h1 h2 h3;show _=zx _;unfold zx;rw [e0,e1,e2,e3]
 ·intro w v hv _;simp only [Value.okWide,ht] at hv;obtain ⟨cs,rfl,_⟩:=hv;simp [En.val,En.cls,Value.cells]
theorem Rd.open {P:Program} {t:TypeId} {α:Type} {E:En α} {G:α→Prop} (hr:Rd P t E G) {H:Type} {enc:TypeId × Value→H} {W:World} {v:Value} {d:DataW H} {p:List MemPlace}
  (hv:Value.okWide P W .any 0 t v) (hd:DataW.Trod enc P W 0 (fun _=>true) true t v d p) (hw:∀n∈d.weights P t,n≤reachBytes):∃y,(Pd.rep E y).p ⟨W,fun _=>False,fun _ h=>h.elim⟩ v∧G y:=by
 obtain ⟨fuel,h⟩:=hd;obtain ⟨y,hy,hg⟩:=hr.rd enc W fuel _ _ h hw;refine ⟨y,⟨v.cells.toList,hr.vl W v hv ⟨y,hy⟩, ?_⟩,hg⟩;exact E.mono (fun b hb=>⟨hb,fun h=>h⟩) hy
theorem Ex.below {s s':St} (h:Ex s s'):Below s.w.heap.size s.w s'.w:=⟨h.mv.os,h.mv.tape,h.mv.output,h.mv.size,fun k hk=>h.mv.blk k hk (fun h=>h)⟩
theorem okWide_any {P:Program} {W:World} {b:Nat} {t:TypeId} {v:Value} (h:Value.okWide P W .any b t v):Value.okWide P W .any 0 t v:=by
 unfold Value.okWide Row.okWide Cell.okWide Cell.ok World.has at *;exact h
section
variable {H : Type} {enc : TypeId × Value → H} {P : Program}
theorem stays {W W':World} (hl:laidOutB P=true) (hb:Below W.heap.size W W') {sp:Nat→Bool}:∀{ts:List TypeId} {vs:List Value} {ds:List (DataW H)} {ps:List MemPlace},
  (ts.all fun t=>P.readableRec t&&decide (t<P.types.size))=true→DataW.TrodAll enc P W 0 (fun _=>true) true ts vs ds ps→(∀p∈ps,p.block<W.heap.size)→(∀p∈ps,sp p.block=true) →
  DataW.TrodAll enc P W' 0 sp true ts vs ds ps
 | [],vs,ds,ps,_,h,_,_=>by
  obtain ⟨rfl,rfl,rfl⟩:=trodAll_nil h;exact trodAll_mk0
 | t::ts,vs,ds,ps,ha,h,hlt,hsp=>by
  obtain ⟨v,vs',d,ds',p,q,rfl,rfl,rfl,h1,h2⟩:=trodAll_cons h;simp only [List.all_cons,Bool.and_eq_true,decide_eq_true_eq] at ha;refine trodAll_cons_mk (WideElems.Trod_stays hl ha.1.1 ha.1.2 h1 (fun x hx=>hb.same (hlt x (List.mem_append_left _ hx))) fun x hx=>hsp x (List.mem_append_left _ hx)) ?_;exact stays hl hb (by simpa using ha.2) h2 (fun x hx=>hlt x (List.mem_append_right _ hx)) fun x hx=>hsp x (List.mem_append_right _ hx)
theorem post_law {f:Func} {s:ChangeSpec} {apart fresh handsOn again:Bool} {W W':World} {args:Array Value} {v:Value} {ds gs:List (DataW H)} {before:List MemPlace} {tb:TypeId}
  (hW:DataW.Whole enc P f.params.toList s.vars apart W args.toList ds gs before) (hb:Below W.heap.size W W') (hl:laidOutB P=true)
  (hrd:(f.params.toList.all fun t=>P.readableRec t&&decide (t<P.types.size))=true) (hs:s.vars=[]) (hrt:f.resultTypes = #[tb]) (hub:P.underlying tb=some .bool) (hv:v = .bool true)
  (hres:(s.fn H (ds++gs)).results=[.lit (.bool true)]) (hargs:(s.fn H (ds++gs)).args=ds) (hvars:(s.fn H (ds++gs)).vars=[]):s.post enc P f apart fresh handsOn again W args v W':=by
 subst hv;have hlt:=hW.lt;have hW':=hW;obtain ⟨p,q,hA,hV,rfl,hz,hn⟩:=hW;rw [hs] at hV;obtain ⟨rfl,rfl⟩:=trodVars_none hV;have hsub:∀x∈p,x∈p++([]:List MemPlace):=fun x hx=>by simpa using hx
 have harg:∀sp:Nat→Bool,(∀x∈p++([]:List MemPlace),sp x.block=true)→DataW.TrodAll enc P W' 0 sp true f.params.toList args.toList (s.fn H (ds++[])).args p:=fun sp hsp=>by
  rw [hargs];exact stays hl hb hrd hA (fun x hx=>hlt x (hsub x hx)) fun x hx=>hsp x (hsub x hx)
 have hvar:∀sp:Nat→Bool,DataW.TrodVars enc P W' sp s.vars (s.fn H (ds++[])).vars []:=fun sp=>by rw [hs,hvars];exact rfl
 have hr:∀(b:Nat) (sp:Nat→Bool) (hd:Bool),DataW.TrodAll enc P W' b sp hd f.resultTypes.toList ((Value.bool true).resultList f.resultTypes.size) (s.fn H (ds++[])).results []:=fun b sp hd=>by
  rw [hres,hrt];exact trodAll_cons_mk (shut_bool hub _) trodAll_mk0
 have hold:∀x∈p++([]:List MemPlace),(fun b=>decide (b<W.heap.size)) x.block=true:=fun x hx=>by simpa using hlt x hx
 refine ⟨ds,[],p++[],[],p,[],hW',hr _ _ _,harg _ hold,hvar _,World.keptBut_mono (fun x hx=>⟨hx, ?_⟩) (hb.frame (·∈p++[])),fun _=>?_⟩
 ·simpa using hx
 ·refine ⟨ok_one hrt rfl (okWide_bool_mk hub _),_,_,([]++p)++[],⟨[]++p,[],trodAll_append (harg _ (fun _ _=>rfl)) (hr _ _ _),hvar _,rfl, ?_, ?_⟩, ?_⟩
  ·intro b off hp;have hp':MemPlace.cell b off∈p++([]:List MemPlace):=by simpa using hp
   rw [hb.frozen (p:=⟨b,off,none⟩) (hlt _ hp')];exact hz b off hp'
  ·intro ha;simpa using hn ha
  ·intro x hx _;simpa using hx
end
end Go.Proofs.YtamjkbneebghmaaDoor.V
namespace Go.Proofs.YtamjkbneebghmaaDoor.V
open Go Go.ChangeShapes Go.WideShapes Go.RowKit
set_option linter.unusedVariables false
def lst:List (String × DataW Unit):=[("math/bits.deBruijn32tab",Rows.laid_math_bits_deBruijn32tab),("math/bits.deBruijn64tab",Rows.laid_math_bits_deBruijn64tab),("internal/strconv.uint64pow10",Rows.laid_internal_strconv_uint64pow10),("scantling/print.levels",Rows.laid_scantling_print_levels)]
def stepsL:List (Lit × DataW Unit):=[(.int .i64 4,.lit (.int .i64 1)),(.int .i64 5,.lit (.int .i64 0)),(.int .i64 6,.lit (.int .i64 2)),(.int .i64 7,.lit (.int .i64 2))]
theorem key_int {P:Program} {k:TypeId} (hk:P.underlying k=some (.int .i64)) {v:Value} {l:Lit} (h:keyOf P k v=some l):∃n:Int,v = .int .i64 n∧l = .int .i64 n∧InR .i64 n:=by
 rw [keyOf_int hk] at h;unfold mapKey at h;rw [hk] at h;cases v <;> simp at h;obtain ⟨⟨rfl,h2⟩,rfl⟩:=h;exact ⟨_,rfl,rfl,by simpa [Lit.wf,InR] using h2⟩
theorem one_of_int {P:Program} {t:TypeId} {v:Value} (ht:P.underlying t=some (.int .i64)) (h:v.formed P t=true):v.cells.toList=[v]:=by
 cases v <;> simp [Value.formed,ht] at h <;> rfl
def entY (e:MapEntry):Int × Option Nat:=match e.key with | .int _ n=>(n,zcn gfmS n none) | _=>(0,none)
def entL (q:Lit × DataW Unit):Int × Option Nat:=match q.1 with | .int _ n=>(n,zcn gfmS n none) | _=>(0,none)
def Steps (W:World):Prop:=∃m t fr es clock ys,W.heap[0]?=some (.cells #[.map (some m)] t fr)∧W.heap[m]?=some (.map es clock)∧Fmst es clock ys∧ys.Perm gfmS
theorem steps_of {W:World} {enc:TypeId × Value→Unit} {base:Nat} {sp:Nat→Bool} {held:Bool} {fuel:Nat} {cs:Array Value} {p:List MemPlace} (hv:W.var? Tryd.prog "scantling/print.levels"=some cs) (hd:DataW.trod enc Tryd.prog W base sp held fuel 62 cs.toList=some (.map stepsL,p)):Steps W:=by
 have hg':Tryd.prog.globalNamed "scantling/print.levels"=some 0:=by kernel_rfl
 have hkt:Tryd.prog.underlying 3=some (.int .i64):=Tryd.underlying3;have het:Tryd.prog.underlying 3=some (.int .i64):=Tryd.underlying3;rcases WideElems.open_map Tryd.underlying62 hd with ⟨_,hx⟩ | ⟨m,es,clock,n,rfl,hcs,hb,_,F,hx⟩
 ·simp at hx
 ·simp only [Prod.mk.injEq,DataW.map.injEq] at hx;have hp:stepsL.Perm (es.toList.map (WideElems.rg Tryd.prog 3 (WideElems.elemAt enc Tryd.prog W base sp held n 3))):=by
   rw [hx.1];exact sorted_perm _
  have ent:∀x∈es.toList,∃i:Int,x.key = .int .i64 i∧InR .i64 i∧entL (WideElems.rg Tryd.prog 3 (WideElems.elemAt enc Tryd.prog W base sp held n 3) x)=(i,zcn gfmS i none)∧x.val=fidV (zcn gfmS i none):=by
   intro x hx';obtain ⟨y,hy⟩:=F.reads x hx';have hrg:=WideElems.rg_of hy;have hm:y∈stepsL:=hp.mem_iff.2 (List.mem_map.2 ⟨x,hx',hrg⟩);obtain ⟨i,hk1,hk2,hk3⟩:=key_int hkt (WideElems.rd_key hy);obtain ⟨z,hz1,hz2⟩:=WideElems.rd_val hy;unfold WideElems.elemAt at hz1;split at hz1
   case isFalse=>cases hz1
   rename_i hf
   rw [one_of_int het hf] at hz1;obtain ⟨v,hv1,hv2,_⟩:=DataW.trod_int het hz1;have hv1:x.val = .int .i64 v:=by simpa using hv1
   refine ⟨i,hk1,hk3,by rw [hrg];simp only [entL,hk2], ?_⟩;rw [hv1];subst hv2;unfold stepsL at hm;simp only [List.mem_cons,List.not_mem_nil,or_false] at hm;rcases hm with rfl | rfl | rfl | rfl
   all_goals
    simp only [Lit.int.injEq,true_and] at hk2;subst hk2;simp only [DataW.lit.injEq,Lit.int.injEq,true_and] at hz2;subst hz2;rfl
  obtain ⟨o,ho,hcell⟩:∃t fr,W.heap[0]?=some (.cells #[.map (some m)] t fr):=by
   unfold World.var? at hv;rw [hg'] at hv;simp only [Option.bind_some] at hv;split at hv
   ·rename_i cs' t' fr' hc
    refine ⟨t',fr', ?_⟩;rw [hc];simp only [Option.some.injEq] at hv;rw [hv,← Array.toArray_toList (xs:=cs),hcs]
   ·cases hv
  refine ⟨m,o,ho,es,clock,es.toList.map entY,hcell,hb,⟨F.stamped,by simp,fun i e q h1 h2=>?_⟩, ?_⟩
  ·have hm:=List.mem_of_getElem? h1;obtain ⟨j,hk1,hk3,_,hval⟩:=ent e hm;rw [List.getElem?_map,h1] at h2;simp only [Option.map_some,Option.some.injEq] at h2;subst h2;have hr:=inR_i64.1 hk3;simp only [entY,hk1];exact ⟨trivial,hr,hval⟩
  ·have h3:=(hp.map entL).symm;have e1:stepsL.map entL=gfmS:=by kernel_rfl
   rw [e1,List.map_map] at h3;refine List.Perm.trans (List.Perm.of_eq (List.map_congr_left fun x hx'=>?_)) h3;obtain ⟨j,hk1,_,hL,_⟩:=ent x hx';simp only [Function.comp,entY,hk1];exact hL.symm
def Tabs (W:World):Prop:=Lib.TabIs Tryd.prog W "internal/strconv.uint64pow10" .u64 Lib.pow10Tab∧Steps W
theorem tab_of_laid {W:World} (h:laidMetH Tryd.prog lst W):Tabs W:=by
 have h':laidMet Tryd.prog lst W:=h;unfold lst at h';refine ⟨?_, ?_⟩
 ·have e:(Rows.laid_internal_strconv_uint64pow10:DataW Unit)=Lib.tabData .u64 Lib.pow10Tab:=by kernel_rfl
  have h2:=h'.tail.tail;rw [e] at h2;exact Lib.tabIs_of_head (g:=2) (t:=102) (e:=25) (n:=20) (by kernel_rfl) (by kernel_rfl) Tryd.underlying102 Tryd.underlying25 (by kernel_rfl) (by kernel_rfl) h2
 ·have e:(Rows.laid_scantling_print_levels:DataW Unit) = .map stepsL:=by kernel_rfl
  have h2:=h'.tail.tail.tail;rw [e] at h2;obtain ⟨ps,⟨g',t',cs,fuel,p,q,hg',ht',hvar,hd,_,_⟩,_⟩:=h2;have hg:Tryd.prog.globalNamed "scantling/print.levels"=some 0:=by kernel_rfl
  have hty:(Tryd.prog.globals[0]?).map (·.type)=some 62:=by kernel_rfl
  obtain rfl:=Option.some.inj (hg.symm.trans hg');obtain rfl:=Option.some.inj (hty.symm.trans ht');exact steps_of hvar hd
theorem gl_of_tab {W:World} (h:Tabs W):Gl ⟨W,fun _=>False,fun _ h=>h.elim⟩:=by
 obtain ⟨h1,h3⟩:=h;refine ⟨fun p hp=>?_,fun p hp=>?_⟩
 ·unfold gtab at hp;obtain rfl:=List.mem_singleton.1 hp;refine ⟨fun h=>h, ?_⟩;unfold Lib.TabIs World.var? at h1;have hg:Tryd.prog.globalNamed "internal/strconv.uint64pow10"=some 2:=by kernel_rfl
  rw [hg] at h1;simp only [Option.bind_some] at h1;split at h1
  ·rename_i cs t fr hc
   refine ⟨t,fr, ?_⟩;show W.heap[2]?=_;rw [hc];simp only [Option.some.injEq] at h1;rw [h1];simp [Lib.pow10Tab]
  ·cases h1
 ·unfold gmap at hp;obtain rfl:=List.mem_singleton.1 hp;obtain ⟨m,t,fr,es,clock,ys,k1,k2,k3,k4⟩:=h3;exact ⟨fun h=>h,m,t,fr,es,clock,ys,k1,fun h=>h,k2,k3,k4⟩
noncomputable def laidWorld (os:Os):World:=World.doorLaid Tryd.prog 400 os
theorem laid_met (os:Os) (args:Array Value):laidMetH Tryd.prog lst ((laidWorld os).forCall (fun _ _=>0) ⟨#[],args,[]⟩).memory:=
 laidMetH_of_parts (laidMet_of_run' 8 (by kernel_rfl) (by kernel_rfl)) (by kernel_rfl)
theorem weigh {H:Type} {P:Program} {ts:List TypeId} {ds:List (DataW H)} (h:(DataW.weightsEach P ts ds).all (·≤reachBytes)=true) (j:Nat) {t:TypeId} {d:DataW H} (ht:ts[j]?=some t) (hd:ds[j]?=some d):∀n∈d.weights P t,n≤reachBytes:=fun n hn=>by
 have:=List.all_eq_true.1 h n (DataW.weights_mem_each ht hd n hn);simpa using this
end Go.Proofs.YtamjkbneebghmaaDoor.V
