/-
  The texts that the law's proof needs, part 3.
-/
import Derived.Deep.LoopGhost
import Derived.Laws.AppendOwnNone
import Derived.Lib.Hide
import Derived.Lib.ItoaNum
import Derived.OpenShut
import Derived.Orders
import Derived.Shelf.SlSortCmp.NoneTotal
import Derived.Shelf.SlSortCmp.WholeK
import Derived.WalkKit
import Derived.Test.YtahgmdbioafmbaaGreatDoorWordBoundP2

namespace Go.Proofs.YtahgmdbioafmbaaGreatDoor.V
open Go
set_option linter.unusedVariables false
set_option maxRecDepth 100000
theorem zjp {l_:(List SNode)} {by_:Int} {r_:(List SNode)} (h:zbe l_ by_ r_):Fn Tryz.prog 84 [(Pd.rep (En.slice En.SNode) l_),(Pi by_)] (Ro En.SNode 68 r_):=by
 unfold zbe at h;refine zbx Tryz.func84 J Tryz.ntmps84 (by rfl) (by simp) fun s0 a L=>?_;refine wp_seq_k fun K1 H1=>rg (sw 4 (zb (zdg (E:=En.SNode) (N:=s0.w.heap.size) (te:=68)) J J) L fun a s L=>?_);refine en' (H1 _ _ ?_);refine wp_seq_k fun K2 H2=>rg (sw 5 (zb (zdg (E:=En.SNode) (N:=s0.w.heap.size) (te:=68)) J J) L fun a s L=>?_);refine en' (H2 _ _ ?_);refine wp_seq_k fun K3 H3=>wp_seq_k fun K4 H4=>rg (sw 6 (zb oI J J) L fun a s L=>?_);refine en' (H4 _ _ ?_);refine wp_block ?_;have J7:∀(out5:(List SNode)) (og6:Option Nat) (a:Act) (s:St),Has N0 44 s0 a s [(5,(Pd.row En.SNode s0.w.heap.size 68 og6 out5))]→((zbe.j1 r_) out5)→K3 a s.w:=by
  intro out5 og6 a s L h;unfold zbe.j1 at h;show K3 a s.w;refine H3 _ _ (wp_seq_k fun K8 H8=>?_);refine rg (sw 43 (zd (O 5 J) J J) L fun a s L=>?_);refine sw 4 (zb (O 43 J) J J) L fun a s L=>en' (H8 _ _ ?_);subst h;exact wp_ret (zjn J L J)
 obtain ⟨k12,h⟩:=h;refine lpg (fun k13 a s=>∃(out9:(List SNode)) (i11:Int) (og10:Option Nat),Has N0 44 s0 a s [(0,(Pd.rep (En.slice En.SNode) l_)),(1,(Pi by_)),(5,(Pd.row En.SNode s0.w.heap.size 68 og10 out9)),(6,(Pi i11))]∧zbe.l1 l_ by_ (zbe.j1 r_) k13 out9 i11) k12 ⟨([]:(List SNode)),0,none,L.keep (.k 0 (.k 1 (.cons (t:=5) J (fun _ _ h_=>h_) (.k 6 .nil)))),h⟩ ?_;rintro k13 a s ⟨out9,i11,og10,L,h⟩ KL14 hKL14;cases k13 with
 | zero=>exact h.elim
 | succ k13=>
 unfold zbe.l1 at h;refine wp_seq_k fun K15 H15=>wp_seq_k fun K16 H16=>rg (sw 8 (zd (O 6 J) J J) L fun a s L=>?_);refine sw 9 (zd (O 0 J) J J) L fun a s L=>sw 10 (zc8 (O 9 J) U22 J J) L fun a s L=>sw 11 (zbz (O 8 J) (O 10 J) J J) L fun a s L=>en' (H16 _ _ ?_);refine cnd L J (fun hb_=>?_) (fun hb_=>?_)
 ·replace h:=h.1 hb_;refine wp_skip ?_;show K15 a s.w;refine H15 _ _ (wp_seq_k fun K17 H17=>?_);refine wp_block (wp_seq_k fun K18 H18=>?_);obtain ⟨e19,h20,h⟩:=h;refine rg (sw 14 (zd (O 0 J) J J) L fun a s L=>?_);refine sw 15 (zd (O 6 J) J J) L fun a s L=>sw 16 (zde (O 14 J) (O 15 J) h20 U22 zfi J J) L fun a s L=>sw 17 (zt zfi (O 16 J) J J) L fun a s L=>?_;have lt_d22:=L.rlt 5 rfl;refine zbf En.SNode (z:=(0,0,0,0,0,(0#256),([]:Str))) 7 L zk2 J J J J fun a s g21 hg_ L=>?_;have d22:Dis (some g21) og10:=Dis.newg hg_ lt_d22;refine zby (L':=[(0,(Pd.rep (En.slice En.SNode) l_)),(1,(Pi by_)),(5,(Pd.row En.SNode s0.w.heap.size 68 og10 out9)),(6,(Pi i11))]) 7 L J (O 17 J) zfi J J J (.k 0 (.k 1 (.cons (t:=5) J (Dis.ow (Dis.symm d22)) (.k 6 .nil)))) fun s L=>?_;refine en' (H18 _ _ ?_);refine wp_seq_k fun K23 H23=>wp_seq_k fun K24 H24=>rg (sw 18 (zbj (off:=0) (O 7 J) U68 J (zm (zh _ _)) J ty3 J J) L fun a s L=>?_);refine sw 19 (zp ty3 (O 18 J) J J) L fun a s L=>sw 20 (zj5 (O 19 J) oI J J) L fun a s L=>en' (H24 _ _ ?_);have J26:∀(n25:SNode) (a:Act) (s:St),Has N0 44 s0 a s [(0,(Pd.rep (En.slice En.SNode) l_)),(1,(Pi by_)),(5,(Pd.row En.SNode s0.w.heap.size 68 og10 out9)),(6,(Pi i11)),(7,(Pd.box En.SNode s0.w.heap.size g21 n25))]→Dis og10 (some g21)→((zbe.j3 (zbe.l1 l_ by_ (zbe.j1 r_) k13) by_ out9 i11) n25)→K23 a s.w:=by
   intro n25 a s L d27 h;unfold zbe.j3 at h;show K23 a s.w;refine H23 _ _ (wp_seq_k fun K28 H28=>?_);refine wp_seq_k fun K29 H29=>rg (sw 26 (zbj (off:=0) (O 7 J) U68 J (zm (zh _ _)) J ty3 J J) L fun a s L=>?_);refine sw 27 (zp ty3 (O 26 J) J J) L fun a s L=>sw 28 (zbt (O 27 J) oI J J) L fun a s L=>sw 29 (zd (O 28 J) J J) L fun a s L=>sw 30 (zbg J J J (fun hc_=>zbj (off:=0) (O 7 J) U68 J (zm (zh _ _)) J ty3 J J)) L fun a s L=>sw 31 (zbg J J J (fun hc_=>zp ty3 (o_w hc_ 30 J) J J)) L fun a s L=>sw 32 (zbg J J J (fun hc_=>zbt (o_w hc_ 31 J) oI J J)) L fun a s L=>sw 33 (zox (O 29 J) (fun hc2_=>(o_w hc2_ 32 J)) J J) L fun a s L=>en' (H29 _ _ ?_);have J31:∀(n30:SNode) (a:Act) (s:St),Has N0 44 s0 a s [(0,(Pd.rep (En.slice En.SNode) l_)),(1,(Pi by_)),(5,(Pd.row En.SNode s0.w.heap.size 68 og10 out9)),(6,(Pi i11)),(7,(Pd.box En.SNode s0.w.heap.size g21 n30))]→Dis og10 (some g21)→((zbe.j2 (zbe.l1 l_ by_ (zbe.j1 r_) k13) out9 i11) n30)→K28 a s.w:=by
    intro n30 a s L d32 h;unfold zbe.j2 at h;show K28 a s.w;refine H28 _ _ ?_;obtain ⟨h33,h⟩:=h;refine rg (sw 39 (zd (O 5 J) J J) L fun a s L=>?_);refine sw 40 (zbr zfi (O 7 J) J J) L fun a s L=>sw 41 (zec (xs:=[.tmp 40]) (.cons (O 40 J) .nil) U22 zfi J J (by decide) J J) L fun a s L=>zev (L':=[(0,(Pd.rep (En.slice En.SNode) l_)),(1,(Pi by_)),(6,(Pi i11))]) 42 L (O 39 J) (O 41 J) U22 zfi h33 J J J J (.k 0 (.k 1 (.k 6 .nil))) fun a s og34 hg_ L=>?_;refine sw 5 (zb (O 42 J) J J) L fun a s L=>en' (H17 _ _ ?_);obtain ⟨h35,h⟩:=h;refine rg (sw 12 (zd (O 6 J) J J) L fun a s L=>?_);refine sw 13 (zbk (O 12 J) oI h35 J J) L fun a s L=>sw 6 (zb (O 13 J) J J) L fun a s L=>en' ?_;exact hKL14 k13 a s (Nat.lt_succ_self _) ⟨(out9++[n30]),(i11+1),og34,L.keep (.k 0 (.k 1 (.cons (t:=5) J (fun _ _ h_=>h_) (.k 6 .nil)))),h⟩
   refine cnd L J (fun hb_=>?_) (fun hb_=>?_)
   ·obtain ⟨h36,h⟩:=h.1 hb_;refine rg (sw 34 (zbj (off:=2) (O 7 J) U68 J (ze (ze (zm (zh _ _)) J) J) J ty3 J J) L fun a s L=>?_);refine sw 35 (zp ty3 (O 34 J) J J) L fun a s L=>sw 36 (zd (O 1 J) J J) L fun a s L=>sw 37 (zbk (O 35 J) (O 36 J) h36 J J) L fun a s L=>sw 38 (zbj (off:=2) (O 7 J) U68 J (ze (ze (zm (zh _ _)) J) J) J ty3 J J) L fun a s L=>zed (L':=[(0,(Pd.rep (En.slice En.SNode) l_)),(1,(Pi by_)),(5,(Pd.row En.SNode s0.w.heap.size 68 og10 out9)),(6,(Pi i11))]) 7 L J (O 38 J) (O 37 J) (zx (zx (zbi (zz _ _ _)) J) J) ty3 J J J (.k 0 (.k 1 (.cons (t:=5) J (Dis.ow d27) (.k 6 .nil)))) fun s L=>?_;refine en' ?_;exact J31 (n25.1,n25.2.1,n25.2.2.1+by_,n25.2.2.2.1,n25.2.2.2.2.1,n25.2.2.2.2.2.1,n25.2.2.2.2.2.2) a s (L.keep (.k 0 (.k 1 (.cons (t:=5) J (fun _ _ h_=>h_) (.k 6 (.cons (t:=7) J (fun _ _ h_=>h_) .nil)))))) d27 h
   ·replace h:=h.2 hb_;refine wp_skip ?_;exact J31 n25 a s (L.keep (.k 0 (.k 1 (.cons (t:=5) J (fun _ _ h_=>h_) (.k 6 (.cons (t:=7) J (fun _ _ h_=>h_) .nil)))))) d27 h
  refine cnd L J (fun hb_=>?_) (fun hb_=>?_)
  ·obtain ⟨h37,h⟩:=h.1 hb_;refine rg (sw 21 (zbj (off:=1) (O 7 J) U68 J (ze (zm (zh _ _)) J) J ty3 J J) L fun a s L=>?_);refine sw 22 (zp ty3 (O 21 J) J J) L fun a s L=>sw 23 (zd (O 1 J) J J) L fun a s L=>sw 24 (zbk (O 22 J) (O 23 J) h37 J J) L fun a s L=>sw 25 (zbj (off:=1) (O 7 J) U68 J (ze (zm (zh _ _)) J) J ty3 J J) L fun a s L=>zed (L':=[(0,(Pd.rep (En.slice En.SNode) l_)),(1,(Pi by_)),(5,(Pd.row En.SNode s0.w.heap.size 68 og10 out9)),(6,(Pi i11))]) 7 L J (O 25 J) (O 24 J) (zx (zbi (zz _ _ _)) J) ty3 J J J (.k 0 (.k 1 (.cons (t:=5) J (Dis.ow (Dis.symm d22)) (.k 6 .nil)))) fun s L=>?_;refine en' ?_;exact J26 (e19.1,e19.2.1+by_,e19.2.2.1,e19.2.2.2.1,e19.2.2.2.2.1,e19.2.2.2.2.2.1,e19.2.2.2.2.2.2) a s (L.keep (.k 0 (.k 1 (.cons (t:=5) J (fun _ _ h_=>h_) (.k 6 (.cons (t:=7) J (fun _ _ h_=>h_) .nil)))))) (Dis.symm d22) h
  ·replace h:=h.2 hb_;refine wp_skip ?_;exact J26 e19 a s (L.keep (.k 0 (.k 1 (.cons (t:=5) J (fun _ _ h_=>h_) (.k 6 (.cons (t:=7) J (fun _ _ h_=>h_) .nil)))))) (Dis.symm d22) h
 ·replace h:=h.2 hb_;refine wp_exit ?_;exact J7 out9 og10 a s (L.keep (.cons (t:=5) J (fun _ _ h_=>h_) .nil)) h
theorem ref04_Few_ok {d_:SDesc} {r_:Bool} (h:zdm d_ r_):Fn Tryz.prog 13 [(Pd.rep En.SDesc d_)] (Rq (Pd.rep En.bool r_)):=by
 unfold zdm at h;refine zbx Tryz.func13 J Tryz.ntmps13 (by rfl) (by simp) fun s0 a L=>?_;refine wp_seq_k fun K1 H1=>rg (sw 1 (zcu (O 0 J) J J) L fun a s L=>?_);refine sw 2 (zb o_b J J) L fun a s L=>en' (H1 _ _ ?_);refine wp_seq_k fun K2 H2=>rg (sw 3 (zb oI J J) L fun a s L=>?_);refine en' (H2 _ _ ?_);refine wp_seq_k fun K3 H3=>wp_seq_k fun K4 H4=>rg (sw 4 (zb oI J J) L fun a s L=>?_);refine en' (H4 _ _ ?_);refine wp_block ?_;have J6:∀(n5:Int) (a:Act) (s:St),Has N0 33 s0 a s [(1,(Pd.ptr En.SDesc d_)),(3,(Pi n5))]→((zdm.j1 d_ r_) n5)→K3 a s.w:=by
  intro n5 a s L h;unfold zdm.j1 at h;show K3 a s.w;refine H3 _ _ (wp_seq_k fun K7 H7=>?_);obtain ⟨b8,h9,h⟩:=h;refine rg (sw 25 (zc0 (off:=0) (O 1 J) U24 J (zbw (zh _ _)) J zfj J J) L fun a s L=>?_);refine sw 26 (zt zfj (O 25 J) J J) L fun a s L=>sw 27 (zc8 (O 26 J) U22 J J) L fun a s L=>sw 28 (zji (O 27 J) oI J J) L fun a s L=>sw 29 (zd (O 28 J) J J) L fun a s L=>sw 30 (zbg J J J (fun hc_=>zd (O 3 J) J J)) L fun a s L=>sw 31 (zbg J J J (fun hc_=>zji (o_w hc_ 30 J) oI J J)) L fun a s L=>sw 32 (h9 ▸ (zc1 (O 29 J) (fun hc2_=>(o_w hc2_ 31 J)) J J)) L fun a s L=>sw 2 (zb (O 32 J) J J) L fun a s L=>en' (H7 _ _ ?_);subst h;exact wp_ret (zdu J L J)
 obtain ⟨k12,h⟩:=h;refine lpg (fun k13 a s=>∃(n10:Int) (i11:Int),Has N0 33 s0 a s [(1,(Pd.ptr En.SDesc d_)),(3,(Pi n10)),(4,(Pi i11))]∧zdm.l1 d_ (zdm.j1 d_ r_) k13 n10 i11) k12 ⟨0,0,L.keep (.k 1 (.k 3 (.k 4 .nil))),h⟩ ?_;rintro k13 a s ⟨n10,i11,L,h⟩ KL14 hKL14;cases k13 with
 | zero=>exact h.elim
 | succ k13=>
 unfold zdm.l1 at h;refine wp_seq_k fun K15 H15=>wp_seq_k fun K16 H16=>?_;obtain ⟨b17,h18,h⟩:=h;refine rg (sw 5 (zd (O 4 J) J J) L fun a s L=>?_);refine sw 6 (zc0 (off:=0) (O 1 J) U24 J (zbw (zh _ _)) J zfj J J) L fun a s L=>sw 7 (zt zfj (O 6 J) J J) L fun a s L=>sw 8 (zc8 (O 7 J) U22 J J) L fun a s L=>sw 9 (zbz (O 5 J) (O 8 J) J J) L fun a s L=>sw 10 (zd (O 9 J) J J) L fun a s L=>sw 11 (zbg J J J (fun hc_=>zd (O 4 J) J J)) L fun a s L=>sw 12 (zbg J J J (fun hc_=>zbz (o_w hc_ 11 J) oI J J)) L fun a s L=>sw 13 (h18 ▸ (zc1 (O 10 J) (fun hc2_=>(o_w hc2_ 12 J)) J J)) L fun a s L=>en' (H16 _ _ ?_);refine cnd L J (fun hb_=>?_) (fun hb_=>?_)
 ·replace h:=h.1 hb_;refine wp_skip ?_;show K15 a s.w;refine H15 _ _ (wp_seq_k fun K19 H19=>?_);refine wp_block ?_;obtain ⟨e20,h21,h22,h⟩:=h;refine rg (sw 16 (zd (O 3 J) J J) L fun a s L=>?_);refine sw 17 (zc0 (off:=0) (O 1 J) U24 J (zbw (zh _ _)) J zfj J J) L fun a s L=>sw 18 (zt zfj (O 17 J) J J) L fun a s L=>sw 19 (zd (O 4 J) J J) L fun a s L=>sw 20 (zde (O 18 J) (O 19 J) h21 U22 zfi J J) L fun a s L=>sw 21 (zc0 (off:=9) (O 20 J) U68 J (ze (ze (ze (ze (ze (ze (zh _ _) J) J) J) J) J) J) J ty9 J J) L fun a s L=>sw 22 (zt ty9 (O 21 J) J J) L fun a s L=>sw 23 (zlm (O 22 J) U9 J J) L fun a s L=>sw 24 (zbk (O 16 J) (O 23 J) h22 J J) L fun a s L=>sw 3 (zb (O 24 J) J J) L fun a s L=>?_;refine en' (H19 _ _ ?_);obtain ⟨h23,h⟩:=h;refine rg (sw 14 (zd (O 4 J) J J) L fun a s L=>?_);refine sw 15 (zbk (O 14 J) oI h23 J J) L fun a s L=>sw 4 (zb (O 15 J) J J) L fun a s L=>en' ?_;exact hKL14 k13 a s (Nat.lt_succ_self _) ⟨(n10+(e20.2.2.2.2.2.2.length:Int)),(i11+1),L.keep (.k 1 (.k 3 (.k 4 .nil))),h⟩
 ·replace h:=h.2 hb_;refine wp_exit ?_;exact J6 n10 a s (L.keep (.k 1 (.k 3 .nil))) h
theorem zp4 {s_:Str} {r_:Bool} (h:zcq s_ r_):Fn Tryz.prog 114 [(Pd.rep En.str s_)] (Rq (Pd.rep En.bool r_)):=by
 unfold zcq at h;refine zbx Tryz.func114 J Tryz.ntmps114 (by rfl) (by simp) fun s0 a L=>?_;refine wp_seq_k fun K1 H1=>rg (sw 2 (zb o_b J J) L fun a s L=>?_);refine en' (H1 _ _ ?_);refine wp_seq_k fun K2 H2=>wp_seq_k fun K3 H3=>rg (sw 3 (zb oI J J) L fun a s L=>?_);refine en' (H3 _ _ ?_);refine wp_block ?_;have J4:∀(a:Act) (s:St),Has N0 21 s0 a s [(0,(Pd.rep En.str s_))]→((zcq.j1 s_ r_))→K2 a s.w:=by
  intro a s L h;unfold zcq.j1 at h;show K2 a s.w;refine H2 _ _ (wp_seq_k fun K5 H5=>?_);obtain ⟨r6,h7,h⟩:=h;refine rg (sw 14 (zd (O 0 J) J J) L fun a s L=>?_);refine sw 15 (zlm (O 14 J) U9 J J) L fun a s L=>sw 16 (zhd (O 15 J) oI J J) L fun a s L=>sw 17 (zd (O 16 J) J J) L fun a s L=>sw 18 (zbg J J J (fun hc_=>zd (O 0 J) J J)) L fun a s L=>sw 19 (zbg J J J (fun hc_=>zy (zp7 (h7 hc_)) (xs:=[.tmp 18]) (.cons (o_w hc_ 18 J) .nil) J J)) L fun a s L=>sw 20 (zc1 (O 17 J) (fun hc2_=>(o_w hc2_ 19 J)) J J) L fun a s L=>sw 2 (zb (O 20 J) J J) L fun a s L=>en' (H5 _ _ ?_);subst h;exact wp_ret (zdu J L J)
 obtain ⟨k9,h⟩:=h;refine lpg (fun k10 a s=>∃(i8:Int),Has N0 21 s0 a s [(0,(Pd.rep En.str s_)),(3,(Pi i8))]∧zcq.l1 s_ r_ (zcq.j1 s_ r_) k10 i8) k9 ⟨0,L.keep (.k 0 (.k 3 .nil)),h⟩ ?_;rintro k10 a s ⟨i8,L,h⟩ KL11 hKL11;cases k10 with
 | zero=>exact h.elim
 | succ k10=>
 unfold zcq.l1 at h;refine wp_seq_k fun K12 H12=>wp_seq_k fun K13 H13=>rg (sw 4 (zd (O 3 J) J J) L fun a s L=>?_);refine sw 5 (zd (O 0 J) J J) L fun a s L=>sw 6 (zlm (O 5 J) U9 J J) L fun a s L=>sw 7 (zbz (O 4 J) (O 6 J) J J) L fun a s L=>en' (H13 _ _ ?_);refine cnd L J (fun hb_=>?_) (fun hb_=>?_)
 ·replace h:=h.1 hb_;refine wp_skip ?_;show K12 a s.w;refine H12 _ _ (wp_seq_k fun K14 H14=>?_);refine wp_block (wp_seq_k fun K15 H15=>?_);obtain ⟨c16,h17,h⟩:=h;refine rg (sw 10 (zd (O 0 J) J J) L fun a s L=>?_);refine sw 11 (zd (O 3 J) J J) L fun a s L=>sw 12 (zln (O 10 J) (O 11 J) h17 U9 J J) L fun a s L=>sw 13 (zbt (O 12 J) (o_i (k:=.u8) (by decide)) J J) L fun a s L=>en' (H15 _ _ ?_);refine cnd L J (fun hb_=>?_) (fun hb_=>?_)
  ·replace h:=h.1 hb_;refine wp_seq_k fun K18 H18=>rg (sw 2 (zb o_b J J) L fun a s L=>?_);refine en' (H18 _ _ ?_);subst h;exact wp_ret (zdu J L J)
  ·replace h:=h.2 hb_;refine wp_skip ?_;show K14 a s.w;refine H14 _ _ ?_;obtain ⟨h19,h⟩:=h;refine rg (sw 8 (zd (O 3 J) J J) L fun a s L=>?_);refine sw 9 (zbk (O 8 J) oI h19 J J) L fun a s L=>sw 3 (zb (O 9 J) J J) L fun a s L=>en' ?_;exact hKL11 k10 a s (Nat.lt_succ_self _) ⟨(i8+1),L.keep (.k 0 (.k 3 .nil)),h⟩
 ·replace h:=h.2 hb_;refine wp_exit ?_;exact J4 a s (L.keep (.k 0 .nil)) h
theorem zba.n_ok (k_:Nat):∀{l_:(List SNode)} {i_:Int} {r_:Int} (h:zba.n k_ l_ i_ r_),Fn Tryz.prog 85 [(Pd.rep (En.slice En.SNode) l_),(Pi i_)] (Rq (Pi r_)):=by
 induction k_ with
 | zero=>intro l_ i_ r_ h;exact h.elim
 | succ k_ ih_=>
 intro l_ i_ r_ h;unfold zba.n at h;refine zbx Tryz.func85 J Tryz.ntmps85 (by rfl) (by simp) fun s0 a L=>?_;refine wp_seq_k fun K1 H1=>rg (sw 4 (zb oI J J) L fun a s L=>?_);refine en' (H1 _ _ ?_);refine wp_seq_k fun K2 H2=>wp_seq_k fun K3 H3=>rg (sw 9 (zd (O 1 J) J J) L fun a s L=>?_);refine sw 10 (zbz (O 9 J) oI J J) L fun a s L=>en' (H3 _ _ ?_);refine cnd L J (fun hb_=>?_) (fun hb_=>?_)
 ·replace h:=h.1 hb_;refine wp_seq_k fun K4 H4=>rg (sw 4 (zb oI J J) L fun a s L=>?_);refine en' (H4 _ _ ?_);subst h;exact wp_ret (zdu J L J)
 ·replace h:=h.2 hb_;refine wp_skip ?_;show K2 a s.w;refine H2 _ _ (wp_seq_k fun K5 H5=>?_);obtain ⟨e6,h7,h⟩:=h;refine rg (sw 11 (zd (O 0 J) J J) L fun a s L=>?_);refine sw 12 (zd (O 1 J) J J) L fun a s L=>sw 13 (zde (O 11 J) (O 12 J) h7 U22 zfi J J) L fun a s L=>sw 14 (zt zfi (O 13 J) J J) L fun a s L=>zbf En.SNode (z:=(0,0,0,0,0,(0#256),([]:Str))) 5 L zk2 J J J J fun a s g8 hg_ L=>?_;refine zby (L':=[(0,(Pd.rep (En.slice En.SNode) l_)),(1,(Pi i_))]) 5 L J (O 14 J) zfi J J J (.k 0 (.k 1 .nil)) fun s L=>?_;refine en' (H5 _ _ ?_);refine wp_seq_k fun K9 H9=>rg (sw 15 (zbj (off:=0) (O 5 J) U68 J (zm (zh _ _)) J ty3 J J) L fun a s L=>?_);refine sw 16 (zp ty3 (O 15 J) J J) L fun a s L=>sw 17 (zcb (x:=(e6.1,0,0,0,0,(0#256),([]:Str))) (ps:=[(0,.tmp 16)]) zk2 J stt68 (.cons (i:=0) (O 16 J) J (zbi (zz _ _ _)) .nil) J J) L fun a s L=>?_;have lt_d11:=L.blt 5 rfl;refine zbf En.SNode (z:=(0,0,0,0,0,(0#256),([]:Str))) 6 L zk2 J J J J fun a s g10 hg_ L=>?_;have d11:Dis (some g10) (some g8):=Dis.newg hg_ lt_d11;refine zby (L':=[(0,(Pd.rep (En.slice En.SNode) l_)),(1,(Pi i_)),(5,(Pd.box En.SNode s0.w.heap.size g8 e6))]) 6 L J (O 17 J) zfi J J J (.k 0 (.k 1 (.cons (t:=5) J (Dis.bx (Dis.symm d11)) .nil))) fun s L=>?_;refine en' (H9 _ _ ?_);refine wp_seq_k fun K12 H12=>rg (sw 18 (zd (O 1 J) J J) L fun a s L=>?_);refine sw 7 (zb (O 18 J) J J) L fun a s L=>en' (H12 _ _ ?_);refine wp_seq_k fun K13 H13=>wp_seq_k fun K14 H14=>rg (sw 19 (zbj (off:=0) (O 5 J) U68 J (zm (zh _ _)) J ty3 J J) L fun a s L=>?_)
  refine sw 20 (zp ty3 (O 19 J) J J) L fun a s L=>en' (H14 _ _ ?_);refine wp_block (wp_seq_k fun K15 H15=>?_);refine rg (sw 22 (zbt (O 20 J) oI J J) L fun a s L=>?_);refine sw 21 (zb (O 22 J) J J) L fun a s L=>en' (H15 _ _ ?_);refine cnd L J (fun hb_=>?_) (fun hb_=>?_)
  ·replace h:=h.1 hb_;refine wp_skip ?_;show K13 a s.w;refine H13 _ _ (wp_seq_k fun K16 H16=>?_);refine wp_seq_k fun K17 H17=>rg (sw 92 (zbr zfi (O 5 J) J J) L fun a s L=>?_);refine sw 93 (zbr zfi (O 6 J) J J) L fun a s L=>sw 94 (t_nev eq68 (O 92 J) (O 93 J) J J) L fun a s L=>en' (H17 _ _ ?_);refine cnd L J (fun hb_=>?_) (fun hb_=>?_)
   ·replace h:=h.1 hb_;refine wp_seq_k fun K18 H18=>rg (sw 4 (zb oI J J) L fun a s L=>?_);refine en' (H18 _ _ ?_);subst h;exact wp_ret (zdu J L J)
   ·replace h:=h.2 hb_;refine wp_skip ?_;show K16 a s.w;refine H16 _ _ (wp_seq_k fun K19 H19=>?_);refine rg (sw 95 (zd (O 7 J) J J) L fun a s L=>?_);refine sw 4 (zb (O 95 J) J J) L fun a s L=>en' (H19 _ _ ?_);subst h;exact wp_ret (zdu J L J)
  ·replace h:=h.2 hb_;refine wp_seq_k fun K20 H20=>rg (sw 24 (zbt (O 20 J) oI J J) L fun a s L=>?_);refine sw 23 (zb (O 24 J) J J) L fun a s L=>en' (H20 _ _ ?_);refine cnd L J (fun hb_=>?_) (fun hb_=>?_)
   ·replace h:=h.1 hb_;refine rg (sw 25 (zbj (off:=5) (O 5 J) U68 J (ze (ze (ze (ze (ze (zm (zh _ _)) J) J) J) J) J) J zco J J) L fun a s L=>?_);refine sw 26 (zp zco (O 25 J) J J) L fun a s L=>sw 27 (zbj (off:=5) (O 6 J) U68 J (ze (ze (ze (ze (ze (zm (zh _ _)) J) J) J) J) J) J zco J J) L fun a s L=>zed (L':=[(5,(Pd.box En.SNode s0.w.heap.size g8 e6)),(7,(Pi i_))]) 6 L J (O 27 J) (O 26 J) (zx (zx (zx (zx (zx (zbi (zz _ _ _)) J) J) J) J) J) zco J J J (.cons (t:=5) J (Dis.bx (Dis.symm d11)) (.k 7 .nil)) fun s L=>?_;refine en' (H13 _ _ ?_);refine wp_seq_k fun K21 H21=>wp_seq_k fun K22 H22=>?_;obtain ⟨b23,h24,h⟩:=h;refine rg (sw 92 (zbr zfi (O 5 J) J J) L fun a s L=>?_);refine sw 93 (zbr zfi (O 6 J) J J) L fun a s L=>sw 94 (h24 ▸ (t_nev eq68 (O 92 J) (O 93 J) J J)) L fun a s L=>en' (H22 _ _ ?_);refine cnd L J (fun hb_=>?_) (fun hb_=>?_)
    ·replace h:=h.1 hb_;refine wp_seq_k fun K25 H25=>rg (sw 4 (zb oI J J) L fun a s L=>?_);refine en' (H25 _ _ ?_);subst h;exact wp_ret (zdu J L J)
    ·replace h:=h.2 hb_;refine wp_skip ?_;show K21 a s.w;refine H21 _ _ (wp_seq_k fun K26 H26=>?_);refine rg (sw 95 (zd (O 7 J) J J) L fun a s L=>?_);refine sw 4 (zb (O 95 J) J J) L fun a s L=>en' (H26 _ _ ?_);subst h;exact wp_ret (zdu J L J)
   ·replace h:=h.2 hb_;refine wp_seq_k fun K27 H27=>rg (sw 29 (zbt (O 20 J) oI J J) L fun a s L=>?_);refine sw 28 (zb (O 29 J) J J) L fun a s L=>en' (H27 _ _ ?_);refine cnd L J (fun hb_=>?_) (fun hb_=>?_)
    ·replace h:=h.1 hb_;refine wp_seq_k fun K28 H28=>rg (sw 30 (zbj (off:=9) (O 5 J) U68 J (ze (ze (ze (ze (ze (ze (zh _ _) J) J) J) J) J) J) J ty9 J J) L fun a s L=>?_);refine sw 31 (zp ty9 (O 30 J) J J) L fun a s L=>sw 32 (zbj (off:=9) (O 6 J) U68 J (ze (ze (ze (ze (ze (ze (zh _ _) J) J) J) J) J) J) J ty9 J J) L fun a s L=>zed (L':=[(5,(Pd.box En.SNode s0.w.heap.size g8 e6)),(7,(Pi i_))]) 6 L J (O 32 J) (O 31 J) (zx (zx (zx (zx (zx (zx (zz _ _ _) J) J) J) J) J) J) ty9 J J J (.cons (t:=5) J (Dis.bx (Dis.symm d11)) (.k 7 .nil)) fun s L=>?_;refine en' (H28 _ _ ?_);refine wp_seq_k fun K29 H29=>?_;obtain ⟨r30,h31,h⟩:=h;refine rg (sw 33 (zbj (off:=9) (O 5 J) U68 J (ze (ze (ze (ze (ze (ze (zh _ _) J) J) J) J) J) J) J ty9 J J) L fun a s L=>?_);refine sw 34 (zp ty9 (O 33 J) J J) L fun a s L=>sw 35 (zy (zp4 h31) (xs:=[.tmp 34]) (.cons (O 34 J) .nil) J J) L fun a s L=>sw 36 (zia (O 35 J) J J) L fun a s L=>en' (H29 _ _ ?_);refine cnd L J (fun hb_=>?_) (fun hb_=>?_)
     ·replace h:=h.1 hb_;refine wp_seq_k fun K32 H32=>rg (sw 4 (zb oI J J) L fun a s L=>?_);refine en' (H32 _ _ ?_);subst h;exact wp_ret (zdu J L J)
     ·replace h:=h.2 hb_;refine wp_skip ?_;show K13 a s.w;refine H13 _ _ (wp_seq_k fun K33 H33=>?_);refine wp_seq_k fun K34 H34=>?_;obtain ⟨b35,h36,h⟩:=h;refine rg (sw 92 (zbr zfi (O 5 J) J J) L fun a s L=>?_);refine sw 93 (zbr zfi (O 6 J) J J) L fun a s L=>sw 94 (h36 ▸ (t_nev eq68 (O 92 J) (O 93 J) J J)) L fun a s L=>en' (H34 _ _ ?_);refine cnd L J (fun hb_=>?_) (fun hb_=>?_)
      ·replace h:=h.1 hb_;refine wp_seq_k fun K37 H37=>rg (sw 4 (zb oI J J) L fun a s L=>?_);refine en' (H37 _ _ ?_);subst h;exact wp_ret (zdu J L J)
      ·replace h:=h.2 hb_;refine wp_skip ?_;show K33 a s.w;refine H33 _ _ (wp_seq_k fun K38 H38=>?_);refine rg (sw 95 (zd (O 7 J) J J) L fun a s L=>?_);refine sw 4 (zb (O 95 J) J J) L fun a s L=>en' (H38 _ _ ?_);subst h;exact wp_ret (zdu J L J)
    ·replace h:=h.2 hb_;refine wp_seq_k fun K39 H39=>wp_seq_k fun K40 H40=>rg (sw 38 (zbt (O 20 J) oI J J) L fun a s L=>?_);refine sw 37 (zb (O 38 J) J J) L fun a s L=>en' (H40 _ _ ?_);have J42:∀(v41:Bool) (a:Act) (s:St),Has N0 96 s0 a s [(0,(Pd.rep (En.slice En.SNode) l_)),(1,(Pi i_)),(5,(Pd.box En.SNode s0.w.heap.size g8 e6)),(6,(Pd.box En.SNode s0.w.heap.size g10 (e6.1,0,0,0,0,(0#256),([]:Str)))),(20,(Pi e6.1)),(37,(Pd.rep En.bool v41))]→Dis (some g8) (some g10)→((zba.j3 (zba.n k_) l_ i_ r_ e6) v41)→K39 a s.w:=by
      intro v41 a s L d43 h;unfold zba.j3 at h;show K39 a s.w;refine H39 _ _ (cnd L J (fun hb_=>?_) (fun hb_=>?_))
      ·replace h:=h.1 hb_;refine wp_seq_k fun K44 H44=>?_;obtain ⟨h45,h⟩:=h;refine rg (sw 42 (zd (O 1 J) J J) L fun a s L=>?_);refine sw 43 (zdy (O 42 J) oI h45 J J) L fun a s L=>sw 44 (zbj (off:=1) (O 6 J) U68 J (ze (zm (zh _ _)) J) J ty3 J J) L fun a s L=>zed (L':=[(0,(Pd.rep (En.slice En.SNode) l_)),(1,(Pi i_)),(5,(Pd.box En.SNode s0.w.heap.size g8 e6))]) 6 L J (O 44 J) (O 43 J) (zx (zbi (zz _ _ _)) J) ty3 J J J (.k 0 (.k 1 (.cons (t:=5) J (Dis.bx d43) .nil))) fun s L=>?_;refine en' (H44 _ _ ?_);refine wp_seq_k fun K46 H46=>wp_seq_k fun K47 H47=>rg (sw 45 (zbj (off:=0) (O 5 J) U68 J (zm (zh _ _)) J ty3 J J) L fun a s L=>?_);refine sw 46 (zp ty3 (O 45 J) J J) L fun a s L=>sw 47 (zbt (O 46 J) oI J J) L fun a s L=>en' (H47 _ _ ?_);have J49:∀(want48:SNode) (a:Act) (s:St),Has N0 96 s0 a s [(0,(Pd.rep (En.slice En.SNode) l_)),(1,(Pi i_)),(5,(Pd.box En.SNode s0.w.heap.size g8 e6)),(6,(Pd.box En.SNode s0.w.heap.size g10 want48))]→Dis (some g8) (some g10)→((zba.j1 (zba.n k_) l_ i_ r_ e6) want48)→K46 a s.w:=by
        intro want48 a s L d50 h;unfold zba.j1 at h;show K46 a s.w;refine H46 _ _ ?_;obtain ⟨h51,r52,h53,h⟩:=h;refine rg (sw 69 (zd (O 0 J) J J) L fun a s L=>?_);refine sw 70 (zd (O 1 J) J J) L fun a s L=>sw 71 (zdy (O 70 J) oI h51 J J) L fun a s L=>sw 72 (zy (ih_ h53) (xs:=[.tmp 69,.tmp 71]) (.cons (O 69 J) (.cons (O 71 J) .nil)) J J) L fun a s L=>sw 7 (zb (O 72 J) J J) L fun a s L=>en' (H13 _ _ ?_);refine wp_seq_k fun K54 H54=>wp_seq_k fun K55 H55=>rg (sw 92 (zbr zfi (O 5 J) J J) L fun a s L=>?_);refine sw 93 (zbr zfi (O 6 J) J J) L fun a s L=>sw 94 (t_nev eq68 (O 92 J) (O 93 J) J J) L fun a s L=>en' (H55 _ _ ?_);refine cnd L J (fun hb_=>?_) (fun hb_=>?_)
        ·replace h:=h.1 hb_;refine wp_seq_k fun K56 H56=>rg (sw 4 (zb oI J J) L fun a s L=>?_);refine en' (H56 _ _ ?_);subst h;exact wp_ret (zdu J L J)
        ·replace h:=h.2 hb_;refine wp_skip ?_;show K54 a s.w;refine H54 _ _ (wp_seq_k fun K57 H57=>?_);refine rg (sw 95 (zd (O 7 J) J J) L fun a s L=>?_);refine sw 4 (zb (O 95 J) J J) L fun a s L=>en' (H57 _ _ ?_);subst h;exact wp_ret (zdu J L J)
       refine cnd L J (fun hb_=>?_) (fun hb_=>?_)
       ·replace h:=h.1 hb_;refine wp_seq_k fun K58 H58=>rg (sw 48 (zbj (off:=3) (O 5 J) U68 J (ze (ze (ze (zm (zh _ _)) J) J) J) J ty3 J J) L fun a s L=>?_);refine sw 49 (zp ty3 (O 48 J) J J) L fun a s L=>sw 50 (zbj (off:=3) (O 6 J) U68 J (ze (ze (ze (zm (zh _ _)) J) J) J) J ty3 J J) L fun a s L=>zed (L':=[(0,(Pd.rep (En.slice En.SNode) l_)),(1,(Pi i_)),(5,(Pd.box En.SNode s0.w.heap.size g8 e6))]) 6 L J (O 50 J) (O 49 J) (zx (zx (zx (zbi (zz _ _ _)) J) J) J) ty3 J J J (.k 0 (.k 1 (.cons (t:=5) J (Dis.bx d43) .nil))) fun s L=>?_;refine en' (H58 _ _ ?_);refine wp_seq_k fun K59 H59=>rg (sw 51 (zbj (off:=4) (O 5 J) U68 J (ze (ze (ze (ze (zm (zh _ _)) J) J) J) J) J ty3 J J) L fun a s L=>?_);refine sw 52 (zp ty3 (O 51 J) J J) L fun a s L=>sw 53 (zbj (off:=4) (O 6 J) U68 J (ze (ze (ze (ze (zm (zh _ _)) J) J) J) J) J ty3 J J) L fun a s L=>zed (L':=[(0,(Pd.rep (En.slice En.SNode) l_)),(1,(Pi i_)),(5,(Pd.box En.SNode s0.w.heap.size g8 e6))]) 6 L J (O 53 J) (O 52 J) (zx (zx (zx (zx (zbi (zz _ _ _)) J) J) J) J) ty3 J J J (.k 0 (.k 1 (.cons (t:=5) J (Dis.bx d43) .nil))) fun s L=>?_;refine en' (H59 _ _ ?_);refine wp_seq_k fun K60 H60=>?_;obtain ⟨b61,h62,h⟩:=h;refine rg (sw 54 (zbj (off:=3) (O 5 J) U68 J (ze (ze (ze (zm (zh _ _)) J) J) J) J ty3 J J) L fun a s L=>?_);refine sw 55 (zp ty3 (O 54 J) J J) L fun a s L=>sw 56 (zbz (O 55 J) oI J J) L fun a s L=>sw 57 (zd (O 56 J) J J) L fun a s L=>sw 58 (zbg J J J (fun hc_=>zbj (off:=3) (O 5 J) U68 J (ze (ze (ze (zm (zh _ _)) J) J) J) J ty3 J J)) L fun a s L=>sw 59 (zbg J J J (fun hc_=>zp ty3 (o_w hc_ 58 J) J J)) L fun a s L=>sw 60 (zbg J J J (fun hc_=>zbj (off:=4) (O 5 J) U68 J (ze (ze (ze (ze (zm (zh _ _)) J) J) J) J) J ty3 J J)) L fun a s L=>sw 61 (zbg J J J (fun hc_=>zp ty3 (o_w hc_ 60 J) J J)) L fun a s L=>sw 62 (zbg J J J (fun hc_=>zhd (o_w hc_ 59 J) (o_w hc_ 61 J) J J)) L fun a s L=>sw 63 (h62 ▸ (zox (O 57 J) (fun hc2_=>(o_w hc2_ 62 J)) J J)) L fun a s L=>?_
        refine sw 64 (zd (O 63 J) J J) L fun a s L=>sw 65 (zbg J J J (fun hc_=>zbj (off:=4) (O 5 J) U68 J (ze (ze (ze (ze (zm (zh _ _)) J) J) J) J) J ty3 J J)) L fun a s L=>sw 66 (zbg J J J (fun hc_=>zp ty3 (o_w hc_ 65 J) J J)) L fun a s L=>sw 67 (zbg J J J (fun hc_=>zhd (o_w hc_ 66 J) oI J J)) L fun a s L=>sw 68 (zox (O 64 J) (fun hc2_=>(o_w hc2_ 67 J)) J J) L fun a s L=>en' (H60 _ _ ?_);refine cnd L J (fun hb_=>?_) (fun hb_=>?_)
        ·replace h:=h.1 hb_;refine wp_seq_k fun K63 H63=>rg (sw 4 (zb oI J J) L fun a s L=>?_);refine en' (H63 _ _ ?_);subst h;exact wp_ret (zdu J L J)
        ·replace h:=h.2 hb_;refine wp_skip ?_;exact J49 (e6.1,i_-1,0,e6.2.2.2.1,e6.2.2.2.2.1,(0#256),([]:Str)) a s (L.keep (.k 0 (.k 1 (.cons (t:=5) J (fun _ _ h_=>h_) (.cons (t:=6) J (fun _ _ h_=>h_) .nil))))) d43 h
       ·replace h:=h.2 hb_;refine wp_skip ?_;exact J49 (e6.1,i_-1,0,0,0,(0#256),([]:Str)) a s (L.keep (.k 0 (.k 1 (.cons (t:=5) J (fun _ _ h_=>h_) (.cons (t:=6) J (fun _ _ h_=>h_) .nil))))) d43 h
      ·replace h:=h.2 hb_;refine wp_seq_k fun K64 H64=>wp_seq_k fun K65 H65=>rg (sw 74 (zbt (O 20 J) oI J J) L fun a s L=>?_);refine sw 73 (zb (O 74 J) J J) L fun a s L=>en' (H65 _ _ ?_);have J67:∀(v66:Bool) (a:Act) (s:St),Has N0 96 s0 a s [(0,(Pd.rep (En.slice En.SNode) l_)),(1,(Pi i_)),(5,(Pd.box En.SNode s0.w.heap.size g8 e6)),(6,(Pd.box En.SNode s0.w.heap.size g10 (e6.1,0,0,0,0,(0#256),([]:Str)))),(73,(Pd.rep En.bool v66))]→Dis (some g8) (some g10)→((zba.j2 (zba.n k_) l_ i_ r_ e6) v66)→K64 a s.w:=by
        intro v66 a s L d68 h;unfold zba.j2 at h;show K64 a s.w;refine H64 _ _ (cnd L J (fun hb_=>?_) (fun hb_=>?_))
        ·replace h:=h.1 hb_;refine wp_seq_k fun K69 H69=>?_;obtain ⟨h70,h⟩:=h;refine rg (sw 76 (zd (O 1 J) J J) L fun a s L=>?_);refine sw 77 (zdy (O 76 J) oI h70 J J) L fun a s L=>sw 78 (zbj (off:=2) (O 6 J) U68 J (ze (ze (zm (zh _ _)) J) J) J ty3 J J) L fun a s L=>zed (L':=[(0,(Pd.rep (En.slice En.SNode) l_)),(1,(Pi i_)),(5,(Pd.box En.SNode s0.w.heap.size g8 e6))]) 6 L J (O 78 J) (O 77 J) (zx (zx (zbi (zz _ _ _)) J) J) ty3 J J J (.k 0 (.k 1 (.cons (t:=5) J (Dis.bx d68) .nil))) fun s L=>?_;refine en' (H69 _ _ ?_);refine wp_seq_k fun K71 H71=>?_;obtain ⟨h72,r73,h74,h⟩:=h;refine rg (sw 79 (zd (O 0 J) J J) L fun a s L=>?_);refine sw 80 (zd (O 1 J) J J) L fun a s L=>sw 81 (zdy (O 80 J) oI h72 J J) L fun a s L=>sw 82 (zy (ih_ h74) (xs:=[.tmp 79,.tmp 81]) (.cons (O 79 J) (.cons (O 81 J) .nil)) J J) L fun a s L=>sw 8 (zb (O 82 J) J J) L fun a s L=>en' (H71 _ _ ?_);refine wp_seq_k fun K75 H75=>wp_seq_k fun K76 H76=>rg (sw 83 (zd (O 8 J) J J) L fun a s L=>?_);refine sw 84 (zbz (O 83 J) oI J J) L fun a s L=>en' (H76 _ _ ?_);refine cnd L J (fun hb_=>?_) (fun hb_=>?_)
         ·replace h:=h.1 hb_;refine wp_seq_k fun K77 H77=>rg (sw 4 (zb oI J J) L fun a s L=>?_);refine en' (H77 _ _ ?_);subst h;exact wp_ret (zdu J L J)
         ·replace h:=h.2 hb_;refine wp_skip ?_;show K75 a s.w;refine H75 _ _ (wp_seq_k fun K78 H78=>?_);obtain ⟨h79,h⟩:=h;refine rg (sw 85 (zd (O 8 J) J J) L fun a s L=>?_);refine sw 86 (zdy (O 85 J) oI h79 J J) L fun a s L=>sw 87 (zbj (off:=1) (O 6 J) U68 J (ze (zm (zh _ _)) J) J ty3 J J) L fun a s L=>zed (L':=[(0,(Pd.rep (En.slice En.SNode) l_)),(5,(Pd.box En.SNode s0.w.heap.size g8 e6)),(8,(Pi r73))]) 6 L J (O 87 J) (O 86 J) (zx (zbi (zz _ _ _)) J) ty3 J J J (.k 0 (.cons (t:=5) J (Dis.bx d68) (.k 8 .nil))) fun s L=>?_;refine en' (H78 _ _ ?_);obtain ⟨h80,r81,h82,h⟩:=h;refine rg (sw 88 (zd (O 0 J) J J) L fun a s L=>?_);refine sw 89 (zd (O 8 J) J J) L fun a s L=>sw 90 (zdy (O 89 J) oI h80 J J) L fun a s L=>sw 91 (zy (ih_ h82) (xs:=[.tmp 88,.tmp 90]) (.cons (O 88 J) (.cons (O 90 J) .nil)) J J) L fun a s L=>sw 7 (zb (O 91 J) J J) L fun a s L=>en' (H13 _ _ ?_);refine wp_seq_k fun K83 H83=>wp_seq_k fun K84 H84=>?_;obtain ⟨b85,h86,h⟩:=h;refine rg (sw 92 (zbr zfi (O 5 J) J J) L fun a s L=>?_);refine sw 93 (zbr zfi (O 6 J) J J) L fun a s L=>sw 94 (h86 ▸ (t_nev eq68 (O 92 J) (O 93 J) J J)) L fun a s L=>en' (H84 _ _ ?_);refine cnd L J (fun hb_=>?_) (fun hb_=>?_)
          ·replace h:=h.1 hb_;refine wp_seq_k fun K87 H87=>rg (sw 4 (zb oI J J) L fun a s L=>?_);refine en' (H87 _ _ ?_);subst h;exact wp_ret (zdu J L J)
          ·replace h:=h.2 hb_;refine wp_skip ?_;show K83 a s.w;refine H83 _ _ (wp_seq_k fun K88 H88=>?_);refine rg (sw 95 (zd (O 7 J) J J) L fun a s L=>?_);refine sw 4 (zb (O 95 J) J J) L fun a s L=>en' (H88 _ _ ?_);subst h;exact wp_ret (zdu J L J)
        ·replace h:=h.2 hb_;refine wp_seq_k fun K89 H89=>rg (sw 4 (zb oI J J) L fun a s L=>?_);refine en' (H89 _ _ ?_);subst h;exact wp_ret (zdu J L J)
       refine cnd L J (fun hb_=>?_) (fun hb_=>?_)
       ·replace h:=h.1 hb_;refine wp_skip ?_;exact J67 (e6.1==4) a s (L.keep (.k 0 (.k 1 (.cons (t:=5) J (fun _ _ h_=>h_) (.cons (t:=6) J (fun _ _ h_=>h_) (.k 73 .nil)))))) d43 h
       ·replace h:=h.2 hb_;refine rg (sw 75 (zbt (O 20 J) oI J J) L fun a s L=>?_);refine sw 73 (zb (O 75 J) J J) L fun a s L=>en' ?_;exact J67 (e6.1==5) a s (L.keep (.k 0 (.k 1 (.cons (t:=5) J (fun _ _ h_=>h_) (.cons (t:=6) J (fun _ _ h_=>h_) (.k 73 .nil)))))) d43 h
     refine cnd L J (fun hb_=>?_) (fun hb_=>?_)
     ·replace h:=h.1 hb_;refine wp_skip ?_;exact J42 (e6.1==6) a s (L.keep (.k 0 (.k 1 (.cons (t:=5) J (fun _ _ h_=>h_) (.cons (t:=6) J (fun _ _ h_=>h_) (.k 20 (.k 37 .nil))))))) (Dis.symm d11) h
     ·replace h:=h.2 hb_;refine wp_seq_k fun K90 H90=>rg (sw 39 (zbt (O 20 J) oI J J) L fun a s L=>?_);refine sw 37 (zb (O 39 J) J J) L fun a s L=>en' (H90 _ _ ?_);refine cnd L J (fun hb_=>?_) (fun hb_=>?_)
      ·replace h:=h.1 hb_;refine wp_skip ?_;exact J42 (e6.1==7) a s (L.keep (.k 0 (.k 1 (.cons (t:=5) J (fun _ _ h_=>h_) (.cons (t:=6) J (fun _ _ h_=>h_) (.k 20 (.k 37 .nil))))))) (Dis.symm d11) h
      ·replace h:=h.2 hb_;refine wp_seq_k fun K91 H91=>rg (sw 40 (zbt (O 20 J) oI J J) L fun a s L=>?_);refine sw 37 (zb (O 40 J) J J) L fun a s L=>en' (H91 _ _ ?_);refine cnd L J (fun hb_=>?_) (fun hb_=>?_)
       ·replace h:=h.1 hb_;refine wp_skip ?_;exact J42 (e6.1==8) a s (L.keep (.k 0 (.k 1 (.cons (t:=5) J (fun _ _ h_=>h_) (.cons (t:=6) J (fun _ _ h_=>h_) (.k 20 (.k 37 .nil))))))) (Dis.symm d11) h
       ·replace h:=h.2 hb_;refine rg (sw 41 (zbt (O 20 J) oI J J) L fun a s L=>?_);refine sw 37 (zb (O 41 J) J J) L fun a s L=>en' ?_;exact J42 (e6.1==9) a s (L.keep (.k 0 (.k 1 (.cons (t:=5) J (fun _ _ h_=>h_) (.cons (t:=6) J (fun _ _ h_=>h_) (.k 20 (.k 37 .nil))))))) (Dis.symm d11) h
theorem zoi {l_:(List SNode)} {i_:Int} {r_:Int} (h:zba l_ i_ r_):Fn Tryz.prog 85 [(Pd.rep (En.slice En.SNode) l_),(Pi i_)] (Rq (Pi r_)):=by
 obtain ⟨k_,h⟩:=h;exact zba.n_ok k_ h
theorem zp6 {d_:SDesc} {r_:Bool} (h:zi7 d_ r_):Fn Tryz.prog 49 [(Pd.rep En.SDesc d_)] (Rq (Pd.rep En.bool r_)):=by
 unfold zi7 at h;refine zbx Tryz.func49 J Tryz.ntmps49 (by rfl) (by simp) fun s0 a L=>?_;refine wp_seq_k fun K1 H1=>rg (sw 1 (zcu (O 0 J) J J) L fun a s L=>?_);refine sw 2 (zb o_b J J) L fun a s L=>en' (H1 _ _ ?_);refine wp_seq_k fun K2 H2=>?_;obtain ⟨h3,r4,h5,h⟩:=h;refine rg (sw 3 (zc0 (off:=0) (O 1 J) U24 J (zbw (zh _ _)) J zfj J J) L fun a s L=>?_);refine sw 4 (zt zfj (O 3 J) J J) L fun a s L=>sw 5 (zc8 (O 4 J) U22 J J) L fun a s L=>sw 6 (zhd (O 5 J) oI J J) L fun a s L=>sw 7 (zd (O 6 J) J J) L fun a s L=>sw 8 (zbg J J J (fun hc_=>zc0 (off:=0) (O 1 J) U24 J (zbw (zh _ _)) J zfj J J)) L fun a s L=>sw 9 (zbg J J J (fun hc_=>zt zfj (o_w hc_ 8 J) J J)) L fun a s L=>sw 10 (zbg J J J (fun hc_=>zc0 (off:=0) (O 1 J) U24 J (zbw (zh _ _)) J zfj J J)) L fun a s L=>sw 11 (zbg J J J (fun hc_=>zt zfj (o_w hc_ 10 J) J J)) L fun a s L=>sw 12 (zbg J J J (fun hc_=>zc8 (o_w hc_ 11 J) U22 J J)) L fun a s L=>?_;refine sw 13 (zbg J J J (fun hc_=>zdy (o_w hc_ 12 J) oI (h3 hc_) J J)) L fun a s L=>sw 14 (zbg J J J (fun hc_=>zy (zoi (h5 hc_)) (xs:=[.tmp 9,.tmp 13]) (.cons (o_w hc_ 9 J) (.cons (o_w hc_ 13 J) .nil)) J J)) L fun a s L=>sw 15 (zbg J J J (fun hc_=>zbt (o_w hc_ 14 J) oI J J)) L fun a s L=>sw 16 (zc1 (O 7 J) (fun hc2_=>(o_w hc2_ 15 J)) J J) L fun a s L=>sw 2 (zb (O 16 J) J J) L fun a s L=>en' (H2 _ _ ?_);subst h;exact wp_ret (zdu J L J)
theorem zp5 {kind_:Int} {a_:SDesc} {b_:SDesc} {r_:SDesc} (h:zi6 kind_ a_ b_ r_):Fn Tryz.prog 73 [(Pi kind_),(Pd.rep En.SDesc a_),(Pd.rep En.SDesc b_)] (Rq (Pd.rep En.SDesc r_)):=by
 unfold zi6 at h;refine zbx Tryz.func73 J Tryz.ntmps73 (by rfl) (by simp) fun s0 a L=>?_;refine wp_seq_k fun K1 H1=>rg (sw 4 (zcu (O 1 J) J J) L fun a s L=>?_);refine sw 5 (zcu (O 2 J) J J) L fun a s L=>zbf En.SDesc (z:=[]) 6 L zpm J J J J fun a s g2 hg_ L=>?_;refine en' (H1 _ _ ?_);refine wp_seq_k fun K3 H3=>?_;obtain ⟨r6,h7,r8,h9,h12,h⟩:=h;obtain ⟨K4,H4,nK4,L⟩:=L.mark 999983;have lt5:∀k,(some g2)=some k→k<K4:=by rw [H4];exact L.blt 6 rfl
 refine rda zcm 9 [(Pd.ptr (En.slice En.SNode) a_),(Pd.rep (En.slice En.SNode) a_),(Pd.erow En.SNode s0.w.heap.size K4 68 r6),(Pd.ptr (En.slice En.SNode) b_),(Pd.rep (En.slice En.SNode) b_),(Pd.ptr (En.slice En.SNode) a_),(Pd.rep (En.slice En.SNode) a_),(Pi (a_.length:Int)),(Pd.rep (En.slice En.SNode) r8)] L (by kernel_rfl) J J ?_ ?_
 ·refine z8.cons (zc0 (off:=0) (O 4 J) U24 J (zbw (zh _ _)) J zfj J J) ?_;refine z8.cons (zt zfj (O 8 J) J J) (z8.cons (t_callox (K:=K4) (m:=999983) J nK4 (zjp h7) (xs:=[.tmp 9,.const (.int .i64 0)]) (.cons (O 9 J) (.cons oI .nil)) J J) ?_);refine z8.cons (zc0 (off:=0) (O 5 J) U24 J (zbw (zh _ _)) J zfj J J) (z8.cons (zt zfj (O 11 J) J J) ?_);refine z8.cons (zc0 (off:=0) (O 4 J) U24 J (zbw (zh _ _)) J zfj J J) (z8.cons (zt zfj (O 13 J) J J) ?_);refine z8.cons (zc8 (O 14 J) U22 J J) (z8.cons (zy ((zjp h9).frz) (xs:=[.tmp 12,.tmp 15]) (.cons (O 12 J) (.cons (O 15 J) .nil)) J J) ?_);exact z8.nil
 intro a s _ L;obtain ⟨og10,hg_,L⟩:=L.openr 10 rfl;have d11:Dis og10 (some g2):=Dis.new hg_ lt5;have lt_og13_0:=L.blt 6 rfl;refine zev (L':=[(0,(Pi kind_)),(4,(Pd.ptr En.SDesc a_)),(5,(Pd.ptr En.SDesc b_)),(6,(Pd.box En.SDesc s0.w.heap.size g2 []))]) 17 L (O 10 J) (O 16 J) U22 zfi h12 J J J J (.k 0 (.k 4 (.k 5 (.cons (t:=6) J (Dis.bx (Dis.symm d11)) .nil)))) fun a s og13 hg_ L=>?_;have d14:Dis og13 (some g2):=Dis.app hg_ d11 lt_og13_0;refine sw 7 (zb (O 17 J) J J) L fun a s L=>en' (H3 _ _ ?_);refine wp_seq_k fun K15 H15=>?_;obtain ⟨h16,h17,h18,h19,h⟩:=h;refine rg (sw 18 (zd (O 7 J) J J) L fun a s L=>?_);refine sw 19 (zd (O 0 J) J J) L fun a s L=>sw 20 (zc0 (off:=0) (O 4 J) U24 J (zbw (zh _ _)) J zfj J J) L fun a s L=>sw 21 (zt zfj (O 20 J) J J) L fun a s L=>sw 22 (zc8 (O 21 J) U22 J J) L fun a s L=>sw 23 (zdy (O 22 J) oI h16 J J) L fun a s L=>sw 24 (zc0 (off:=0) (O 4 J) U24 J (zbw (zh _ _)) J zfj J J) L fun a s L=>sw 25 (zt zfj (O 24 J) J J) L fun a s L=>sw 26 (zc8 (O 25 J) U22 J J) L fun a s L=>sw 27 (zc0 (off:=0) (O 5 J) U24 J (zbw (zh _ _)) J zfj J J) L fun a s L=>?_;refine sw 28 (zt zfj (O 27 J) J J) L fun a s L=>sw 29 (zc8 (O 28 J) U22 J J) L fun a s L=>sw 30 (zbk (O 26 J) (O 29 J) h17 J J) L fun a s L=>sw 31 (zdy (O 30 J) oI h18 J J) L fun a s L=>sw 32 (zcb (x:=(kind_,(a_.length:Int)-1,((a_.length:Int)+(b_.length:Int))-1,0,0,(0#256),([]:Str))) (ps:=[(0,.tmp 19),(1,.tmp 23),(2,.tmp 31)]) zk2 J stt68 (.cons (i:=0) (O 19 J) J (zbi (zz _ _ _)) (.cons (i:=1) (O 23 J) J (zx (zbi (zz _ _ _)) J) (.cons (i:=2) (O 31 J) J (zx (zx (zbi (zz _ _ _)) J) J) .nil))) J J) L fun a s L=>sw 33 (zec (xs:=[.tmp 32]) (.cons (O 32 J) .nil) U22 zfi J J (by decide) J J) L fun a s L=>?_
 have lt_og20_0:=L.blt 6 rfl;refine zev (L':=[(6,(Pd.box En.SDesc s0.w.heap.size g2 []))]) 34 L (O 18 J) (O 33 J) U22 zfi h19 J J J J (.cons (t:=6) J (Dis.bx (Dis.symm d14)) .nil) fun a s og20 hg_ L=>?_;have d21:Dis og20 (some g2):=Dis.app hg_ d14 lt_og20_0;obtain ⟨s23,h22,L⟩:=L.freeze (L':=[(6,(Pd.box En.SDesc s0.w.heap.size g2 []))]) 34 rfl (.cons (t:=6) rfl (Dis.bx (Dis.symm d21)) .nil);rw [← h22];clear h22;generalize s23=s at *;refine sw 35 (zcb (x:=(r6++r8)++[(kind_,(a_.length:Int)-1,((a_.length:Int)+(b_.length:Int))-1,0,0,(0#256),([]:Str))]) (ps:=[(0,.tmp 34)]) zpm J stt24 (.cons (i:=0) (O 34 J) J (zj7 (zz _ _ _)) .nil) J J) L fun a s L=>zby (L':=[]) 6 L J (O 35 J) zfl J J J .nil fun s L=>?_;refine en' (H15 _ _ ?_);subst h;exact wp_ret (retb J zfl L J)
theorem zm5 {d_:SDesc} {r_:Int} (h:zo d_ r_):Fn Tryz.prog 74 [(Pd.rep En.SDesc d_)] (Rq (Pi r_)):=by
 unfold zo at h;refine zbx Tryz.func74 J Tryz.ntmps74 (by rfl) (by simp) fun s0 a L=>?_;refine wp_seq_k fun K1 H1=>rg (sw 1 (zcu (O 0 J) J J) L fun a s L=>?_);refine sw 2 (zb oI J J) L fun a s L=>en' (H1 _ _ ?_);refine wp_seq_k fun K2 H2=>rg (sw 3 (zb (zdg (E:=(En.int .i64)) (N:=s0.w.heap.size) (te:=3)) J J) L fun a s L=>?_);refine en' (H2 _ _ ?_);refine wp_seq_k fun K3 H3=>wp_seq_k fun K4 H4=>rg (sw 4 (zb oI J J) L fun a s L=>?_);refine en' (H4 _ _ ?_);refine wp_block ?_;have J7:∀(l5:(List Int)) (og6:Option Nat) (a:Act) (s:St),Has N0 113 s0 a s [(3,(Pd.row (En.int .i64) s0.w.heap.size 3 og6 l5))]→((zo.j1 r_) l5)→K3 a s.w:=by
  intro l5 og6 a s L h;unfold zo.j1 at h;show K3 a s.w;refine H3 _ _ (wp_seq_k fun K8 H8=>?_);refine wp_seq_k fun K9 H9=>rg (sw 104 (zd (O 3 J) J J) L fun a s L=>?_);refine sw 105 (zjl (O 104 J) U91 J J) L fun a s L=>sw 106 (zbt (O 105 J) oI J J) L fun a s L=>en' (H9 _ _ ?_);refine cnd L J (fun hb_=>?_) (fun hb_=>?_)
  ·replace h:=h.1 hb_;refine wp_seq_k fun K10 H10=>rg (sw 2 (zb oI J J) L fun a s L=>?_);refine en' (H10 _ _ ?_);subst h;exact wp_ret (zdu J L J)
  ·replace h:=h.2 hb_;refine wp_skip ?_;show K8 a s.w;refine H8 _ _ (wp_seq_k fun K11 H11=>?_);obtain ⟨h12,e13,h14,h⟩:=h;refine rg (sw 107 (zd (O 3 J) J J) L fun a s L=>?_);refine sw 108 (zd (O 3 J) J J) L fun a s L=>sw 109 (zjl (O 108 J) U91 J J) L fun a s L=>sw 110 (zdy (O 109 J) oI h12 J J) L fun a s L=>sw 111 (zca (O 107 J) (O 110 J) h14 U91 ty3 J J) L fun a s L=>sw 112 (zp ty3 (O 111 J) J J) L fun a s L=>sw 2 (zb (O 112 J) J J) L fun a s L=>en' (H11 _ _ ?_);subst h;exact wp_ret (zdu J L J)
 obtain ⟨k18,h⟩:=h;refine lpg (fun k19 a s=>∃(l15:(List Int)) (i17:Int) (og16:Option Nat),Has N0 113 s0 a s [(1,(Pd.ptr En.SDesc d_)),(3,(Pd.row (En.int .i64) s0.w.heap.size 3 og16 l15)),(4,(Pi i17))]∧zo.l1 d_ (zo.j1 r_) k19 l15 i17) k18 ⟨([]:(List Int)),0,none,L.keep (.k 1 (.cons (t:=3) J (fun _ _ h_=>h_) (.k 4 .nil))),h⟩ ?_;rintro k19 a s ⟨l15,i17,og16,L,h⟩ KL20 hKL20;cases k19 with
 | zero=>exact h.elim
 | succ k19=>
 unfold zo.l1 at h;refine wp_seq_k fun K21 H21=>wp_seq_k fun K22 H22=>?_;obtain ⟨b23,h24,h⟩:=h;refine rg (sw 9 (zd (O 4 J) J J) L fun a s L=>?_);refine sw 10 (zc0 (off:=0) (O 1 J) U24 J (zbw (zh _ _)) J zfj J J) L fun a s L=>sw 11 (zt zfj (O 10 J) J J) L fun a s L=>sw 12 (zc8 (O 11 J) U22 J J) L fun a s L=>sw 13 (zbz (O 9 J) (O 12 J) J J) L fun a s L=>sw 14 (zd (O 13 J) J J) L fun a s L=>sw 15 (zbg J J J (fun hc_=>zd (O 4 J) J J)) L fun a s L=>sw 16 (zbg J J J (fun hc_=>zbz (o_w hc_ 15 J) oI J J)) L fun a s L=>sw 17 (h24 ▸ (zc1 (O 14 J) (fun hc2_=>(o_w hc2_ 16 J)) J J)) L fun a s L=>en' (H22 _ _ ?_);refine cnd L J (fun hb_=>?_) (fun hb_=>?_)
 ·replace h:=h.1 hb_;refine wp_skip ?_;show K21 a s.w;refine H21 _ _ (wp_seq_k fun K25 H25=>?_);refine wp_block (wp_seq_k fun K26 H26=>?_);obtain ⟨e27,h28,h⟩:=h;refine rg (sw 20 (zc0 (off:=0) (O 1 J) U24 J (zbw (zh _ _)) J zfj J J) L fun a s L=>?_);refine sw 21 (zt zfj (O 20 J) J J) L fun a s L=>sw 22 (zd (O 4 J) J J) L fun a s L=>sw 23 (zde (O 21 J) (O 22 J) h28 U22 zfi J J) L fun a s L=>sw 24 (zt zfi (O 23 J) J J) L fun a s L=>?_;have lt_d30:=L.rlt 3 rfl;refine zbf En.SNode (z:=(0,0,0,0,0,(0#256),([]:Str))) 5 L zk2 J J J J fun a s g29 hg_ L=>?_;have d30:Dis (some g29) og16:=Dis.newg hg_ lt_d30;refine zby (L':=[(1,(Pd.ptr En.SDesc d_)),(3,(Pd.row (En.int .i64) s0.w.heap.size 3 og16 l15)),(4,(Pi i17))]) 5 L J (O 24 J) zfi J J J (.k 1 (.cons (t:=3) J (Dis.ow (Dis.symm d30)) (.k 4 .nil))) fun s L=>?_;refine en' (H26 _ _ ?_);refine wp_seq_k fun K31 H31=>rg (sw 6 (zb oI J J) L fun a s L=>?_);refine en' (H31 _ _ ?_);refine wp_seq_k fun K32 H32=>rg (sw 7 (zb oI J J) L fun a s L=>?_);refine en' (H32 _ _ ?_);refine wp_seq_k fun K33 H33=>wp_seq_k fun K34 H34=>?_;obtain ⟨b35,h36,h⟩:=h;refine rg (sw 25 (zbj (off:=1) (O 5 J) U68 J (ze (zm (zh _ _)) J) J ty3 J J) L fun a s L=>?_);refine sw 26 (zp ty3 (O 25 J) J J) L fun a s L=>sw 27 (zj5 (O 26 J) oI J J) L fun a s L=>sw 28 (zd (O 27 J) J J) L fun a s L=>sw 29 (zbg J J J (fun hc_=>zbj (off:=1) (O 5 J) U68 J (ze (zm (zh _ _)) J) J ty3 J J)) L fun a s L=>sw 30 (zbg J J J (fun hc_=>zp ty3 (o_w hc_ 29 J) J J)) L fun a s L=>sw 31 (zbg J J J (fun hc_=>zd (O 3 J) J J)) L fun a s L=>sw 32 (zbg J J J (fun hc_=>zjl (o_w hc_ 31 J) U91 J J)) L fun a s L=>sw 33 (zbg J J J (fun hc_=>zbz (o_w hc_ 30 J) (o_w hc_ 32 J) J J)) L fun a s L=>sw 34 (h36 ▸ (zc1 (O 28 J) (fun hc2_=>(o_w hc2_ 33 J)) J J)) L fun a s L=>?_
  refine en' (H34 _ _ ?_);have J38:∀(a37:Int) (a:Act) (s:St),Has N0 113 s0 a s [(1,(Pd.ptr En.SDesc d_)),(3,(Pd.row (En.int .i64) s0.w.heap.size 3 og16 l15)),(4,(Pi i17)),(5,(Pd.box En.SNode s0.w.heap.size g29 e27)),(6,(Pi a37)),(7,(Pi 0))]→Dis og16 (some g29)→((zo.j7 (zo.l1 d_ (zo.j1 r_) k19) l15 i17 e27) a37)→K33 a s.w:=by
   intro a37 a s L d39 h;unfold zo.j7 at h;show K33 a s.w;refine H33 _ _ (wp_seq_k fun K40 H40=>?_);refine wp_seq_k fun K41 H41=>?_;obtain ⟨b42,h43,h⟩:=h;refine rg (sw 40 (zbj (off:=2) (O 5 J) U68 J (ze (ze (zm (zh _ _)) J) J) J ty3 J J) L fun a s L=>?_);refine sw 41 (zp ty3 (O 40 J) J J) L fun a s L=>sw 42 (zj5 (O 41 J) oI J J) L fun a s L=>sw 43 (zd (O 42 J) J J) L fun a s L=>sw 44 (zbg J J J (fun hc_=>zbj (off:=2) (O 5 J) U68 J (ze (ze (zm (zh _ _)) J) J) J ty3 J J)) L fun a s L=>sw 45 (zbg J J J (fun hc_=>zp ty3 (o_w hc_ 44 J) J J)) L fun a s L=>sw 46 (zbg J J J (fun hc_=>zd (O 3 J) J J)) L fun a s L=>sw 47 (zbg J J J (fun hc_=>zjl (o_w hc_ 46 J) U91 J J)) L fun a s L=>sw 48 (zbg J J J (fun hc_=>zbz (o_w hc_ 45 J) (o_w hc_ 47 J) J J)) L fun a s L=>sw 49 (h43 ▸ (zc1 (O 43 J) (fun hc2_=>(o_w hc2_ 48 J)) J J)) L fun a s L=>?_;refine en' (H41 _ _ ?_);have J45:∀(b44:Int) (a:Act) (s:St),Has N0 113 s0 a s [(1,(Pd.ptr En.SDesc d_)),(3,(Pd.row (En.int .i64) s0.w.heap.size 3 og16 l15)),(4,(Pi i17)),(5,(Pd.box En.SNode s0.w.heap.size g29 e27)),(6,(Pi a37)),(7,(Pi b44))]→Dis og16 (some g29)→((zo.j6 (zo.l1 d_ (zo.j1 r_) k19) l15 i17 e27 a37) b44)→K40 a s.w:=by
    intro b44 a s L d46 h;unfold zo.j6 at h;show K40 a s.w;refine H40 _ _ (wp_seq_k fun K47 H47=>?_);refine rg (sw 8 (zb oI J J) L fun a s L=>?_);refine en' (H47 _ _ ?_);refine wp_seq_k fun K48 H48=>wp_seq_k fun K49 H49=>rg (sw 55 (zbj (off:=0) (O 5 J) U68 J (zm (zh _ _)) J ty3 J J) L fun a s L=>?_);refine sw 56 (zp ty3 (O 55 J) J J) L fun a s L=>sw 57 (zbt (O 56 J) oI J J) L fun a s L=>en' (H49 _ _ ?_);have J51:∀(w50:Int) (a:Act) (s:St),Has N0 113 s0 a s [(1,(Pd.ptr En.SDesc d_)),(3,(Pd.row (En.int .i64) s0.w.heap.size 3 og16 l15)),(4,(Pi i17)),(5,(Pd.box En.SNode s0.w.heap.size g29 e27)),(6,(Pi a37)),(7,(Pi b44)),(8,(Pi w50))]→Dis og16 (some g29)→((zo.j5 (zo.l1 d_ (zo.j1 r_) k19) l15 i17 e27 a37 b44) w50)→K48 a s.w:=by
     intro w50 a s L d52 h;unfold zo.j5 at h;show K48 a s.w;refine H48 _ _ (wp_seq_k fun K53 H53=>?_);refine wp_seq_k fun K54 H54=>rg (sw 63 (zbj (off:=0) (O 5 J) U68 J (zm (zh _ _)) J ty3 J J) L fun a s L=>?_);refine sw 64 (zp ty3 (O 63 J) J J) L fun a s L=>sw 65 (zbt (O 64 J) oI J J) L fun a s L=>sw 66 (zd (O 65 J) J J) L fun a s L=>sw 67 (zbg J J J (fun hc_=>zbj (off:=0) (O 5 J) U68 J (zm (zh _ _)) J ty3 J J)) L fun a s L=>sw 68 (zbg J J J (fun hc_=>zp ty3 (o_w hc_ 67 J) J J)) L fun a s L=>sw 69 (zbg J J J (fun hc_=>zbt (o_w hc_ 68 J) oI J J)) L fun a s L=>sw 70 (zox (O 66 J) (fun hc2_=>(o_w hc2_ 69 J)) J J) L fun a s L=>en' (H54 _ _ ?_);have J56:∀(w55:Int) (a:Act) (s:St),Has N0 113 s0 a s [(1,(Pd.ptr En.SDesc d_)),(3,(Pd.row (En.int .i64) s0.w.heap.size 3 og16 l15)),(4,(Pi i17)),(5,(Pd.box En.SNode s0.w.heap.size g29 e27)),(6,(Pi a37)),(8,(Pi w55))]→Dis og16 (some g29)→((zo.j4 (zo.l1 d_ (zo.j1 r_) k19) l15 i17 e27 a37) w55)→K53 a s.w:=by
      intro w55 a s L d57 h;unfold zo.j4 at h;show K53 a s.w;refine H53 _ _ (wp_seq_k fun K58 H58=>?_);refine wp_seq_k fun K59 H59=>rg (sw 74 (zbj (off:=0) (O 5 J) U68 J (zm (zh _ _)) J ty3 J J) L fun a s L=>?_);refine sw 75 (zp ty3 (O 74 J) J J) L fun a s L=>sw 76 (zbt (O 75 J) oI J J) L fun a s L=>sw 77 (zd (O 76 J) J J) L fun a s L=>sw 78 (zbg J J J (fun hc_=>zbj (off:=0) (O 5 J) U68 J (zm (zh _ _)) J ty3 J J)) L fun a s L=>sw 79 (zbg J J J (fun hc_=>zp ty3 (o_w hc_ 78 J) J J)) L fun a s L=>sw 80 (zbg J J J (fun hc_=>zbt (o_w hc_ 79 J) oI J J)) L fun a s L=>sw 81 (zox (O 77 J) (fun hc2_=>(o_w hc2_ 80 J)) J J) L fun a s L=>sw 82 (zd (O 81 J) J J) L fun a s L=>sw 83 (zbg J J J (fun hc_=>zbj (off:=0) (O 5 J) U68 J (zm (zh _ _)) J ty3 J J)) L fun a s L=>?_;refine sw 84 (zbg J J J (fun hc_=>zp ty3 (o_w hc_ 83 J) J J)) L fun a s L=>sw 85 (zbg J J J (fun hc_=>zbt (o_w hc_ 84 J) oI J J)) L fun a s L=>sw 86 (zox (O 82 J) (fun hc2_=>(o_w hc2_ 85 J)) J J) L fun a s L=>en' (H59 _ _ ?_);have J61:∀(w60:Int) (a:Act) (s:St),Has N0 113 s0 a s [(1,(Pd.ptr En.SDesc d_)),(3,(Pd.row (En.int .i64) s0.w.heap.size 3 og16 l15)),(4,(Pi i17)),(5,(Pd.box En.SNode s0.w.heap.size g29 e27)),(6,(Pi a37)),(8,(Pi w60))]→Dis og16 (some g29)→((zo.j3 (zo.l1 d_ (zo.j1 r_) k19) l15 i17 e27 a37) w60)→K58 a s.w:=by
       intro w60 a s L d62 h;unfold zo.j3 at h;show K58 a s.w;refine H58 _ _ (wp_seq_k fun K63 H63=>?_);refine wp_seq_k fun K64 H64=>rg (sw 89 (zbj (off:=0) (O 5 J) U68 J (zm (zh _ _)) J ty3 J J) L fun a s L=>?_);refine sw 90 (zp ty3 (O 89 J) J J) L fun a s L=>sw 91 (zbt (O 90 J) oI J J) L fun a s L=>en' (H64 _ _ ?_);have J66:∀(w65:Int) (a:Act) (s:St),Has N0 113 s0 a s [(1,(Pd.ptr En.SDesc d_)),(3,(Pd.row (En.int .i64) s0.w.heap.size 3 og16 l15)),(4,(Pi i17)),(8,(Pi w65))]→((zo.j2 (zo.l1 d_ (zo.j1 r_) k19) l15 i17) w65)→K63 a s.w:=by
        intro w65 a s L h;unfold zo.j2 at h;show K63 a s.w;refine H63 _ _ ?_;obtain ⟨h67,h⟩:=h;refine rg (sw 99 (zd (O 3 J) J J) L fun a s L=>?_);refine sw 100 (zd (O 8 J) J J) L fun a s L=>sw 101 (zpn (O 100 J) oI J J) L fun a s L=>sw 102 (zec (xs:=[.tmp 101]) (.cons (O 101 J) .nil) U91 ty3 J J (by decide) J J) L fun a s L=>zev (L':=[(1,(Pd.ptr En.SDesc d_)),(4,(Pi i17))]) 103 L (O 99 J) (O 102 J) U91 ty3 h67 J J J J (.k 1 (.k 4 .nil)) fun a s og68 hg_ L=>?_;refine sw 3 (zb (O 103 J) J J) L fun a s L=>en' (H25 _ _ ?_);obtain ⟨h69,h⟩:=h;refine rg (sw 18 (zd (O 4 J) J J) L fun a s L=>?_);refine sw 19 (zbk (O 18 J) oI h69 J J) L fun a s L=>sw 4 (zb (O 19 J) J J) L fun a s L=>en' ?_;exact hKL20 k19 a s (Nat.lt_succ_self _) ⟨(l15++[(min w65 1000)]),(i17+1),og68,L.keep (.k 1 (.cons (t:=3) J (fun _ _ h_=>h_) (.k 4 .nil))),h⟩
       refine cnd L J (fun hb_=>?_) (fun hb_=>?_)
       ·obtain ⟨h70,h71,h⟩:=h.1 hb_;refine rg (sw 92 (zbj (off:=4) (O 5 J) U68 J (ze (ze (ze (ze (zm (zh _ _)) J) J) J) J) J ty3 J J) L fun a s L=>?_);refine sw 93 (zp ty3 (O 92 J) J J) L fun a s L=>sw 94 (zpn (O 93 J) oI J J) L fun a s L=>sw 95 (t_max oI (O 94 J) J J) L fun a s L=>sw 96 (zbk oI (O 95 J) h70 J J) L fun a s L=>sw 97 (zd (O 6 J) J J) L fun a s L=>sw 98 (zk3 (O 96 J) (O 97 J) h71 J J) L fun a s L=>sw 8 (zb (O 98 J) J J) L fun a s L=>en' ?_;exact J66 ((1+(max 0 (min e27.2.2.2.2.1 1000)))*a37) a s (L.keep (.k 1 (.cons (t:=3) J (fun _ _ h_=>h_) (.k 4 (.k 8 .nil))))) h
       ·replace h:=h.2 hb_;refine wp_skip ?_;exact J66 w60 a s (L.keep (.k 1 (.cons (t:=3) J (fun _ _ h_=>h_) (.k 4 (.k 8 .nil))))) h
      refine cnd L J (fun hb_=>?_) (fun hb_=>?_)
      ·obtain ⟨h72,h⟩:=h.1 hb_;refine rg (sw 87 (zd (O 6 J) J J) L fun a s L=>?_);refine sw 88 (zbk (O 87 J) oI h72 J J) L fun a s L=>sw 8 (zb (O 88 J) J J) L fun a s L=>en' ?_;exact J61 (a37+1) a s (L.keep (.k 1 (.cons (t:=3) J (fun _ _ h_=>h_) (.k 4 (.cons (t:=5) J (fun _ _ h_=>h_) (.k 6 (.k 8 .nil))))))) d57 h
      ·replace h:=h.2 hb_;refine wp_skip ?_;exact J61 w55 a s (L.keep (.k 1 (.cons (t:=3) J (fun _ _ h_=>h_) (.k 4 (.cons (t:=5) J (fun _ _ h_=>h_) (.k 6 (.k 8 .nil))))))) d57 h
     refine cnd L J (fun hb_=>?_) (fun hb_=>?_)
     ·obtain ⟨h73,h⟩:=h.1 hb_;refine rg (sw 71 (zd (O 6 J) J J) L fun a s L=>?_);refine sw 72 (zd (O 7 J) J J) L fun a s L=>sw 73 (zbk (O 71 J) (O 72 J) h73 J J) L fun a s L=>sw 8 (zb (O 73 J) J J) L fun a s L=>en' ?_;exact J56 (a37+b44) a s (L.keep (.k 1 (.cons (t:=3) J (fun _ _ h_=>h_) (.k 4 (.cons (t:=5) J (fun _ _ h_=>h_) (.k 6 (.k 8 .nil))))))) d52 h
     ·replace h:=h.2 hb_;refine wp_skip ?_;exact J56 w50 a s (L.keep (.k 1 (.cons (t:=3) J (fun _ _ h_=>h_) (.k 4 (.cons (t:=5) J (fun _ _ h_=>h_) (.k 6 (.k 8 .nil))))))) d52 h
    refine cnd L J (fun hb_=>?_) (fun hb_=>?_)
    ·obtain ⟨h74,h⟩:=h.1 hb_;refine rg (sw 58 (zbj (off:=9) (O 5 J) U68 J (ze (ze (ze (ze (ze (ze (zh _ _) J) J) J) J) J) J) J ty9 J J) L fun a s L=>?_);refine sw 59 (zp ty9 (O 58 J) J J) L fun a s L=>sw 60 (zlm (O 59 J) U9 J J) L fun a s L=>sw 61 (zpn (O 60 J) oI J J) L fun a s L=>sw 62 (zbk oI (O 61 J) h74 J J) L fun a s L=>sw 8 (zb (O 62 J) J J) L fun a s L=>en' ?_;exact J51 (1+(min (e27.2.2.2.2.2.2.length:Int) 1000)) a s (L.keep (.k 1 (.cons (t:=3) J (fun _ _ h_=>h_) (.k 4 (.cons (t:=5) J (fun _ _ h_=>h_) (.k 6 (.k 7 (.k 8 .nil)))))))) d46 h
    ·replace h:=h.2 hb_;refine wp_skip ?_;exact J51 1 a s (L.keep (.k 1 (.cons (t:=3) J (fun _ _ h_=>h_) (.k 4 (.cons (t:=5) J (fun _ _ h_=>h_) (.k 6 (.k 7 (.k 8 .nil)))))))) d46 h
   refine cnd L J (fun hb_=>?_) (fun hb_=>?_)
   ·obtain ⟨e75,h76,h⟩:=h.1 hb_;refine rg (sw 50 (zd (O 3 J) J J) L fun a s L=>?_);refine sw 51 (zbj (off:=2) (O 5 J) U68 J (ze (ze (zm (zh _ _)) J) J) J ty3 J J) L fun a s L=>sw 52 (zp ty3 (O 51 J) J J) L fun a s L=>sw 53 (zca (O 50 J) (O 52 J) h76 U91 ty3 J J) L fun a s L=>sw 54 (zp ty3 (O 53 J) J J) L fun a s L=>sw 7 (zb (O 54 J) J J) L fun a s L=>en' ?_;exact J45 e75 a s (L.keep (.k 1 (.cons (t:=3) J (fun _ _ h_=>h_) (.k 4 (.cons (t:=5) J (fun _ _ h_=>h_) (.k 6 (.k 7 .nil))))))) d39 h
   ·replace h:=h.2 hb_;refine wp_skip ?_;exact J45 0 a s (L.keep (.k 1 (.cons (t:=3) J (fun _ _ h_=>h_) (.k 4 (.cons (t:=5) J (fun _ _ h_=>h_) (.k 6 (.k 7 .nil))))))) d39 h
  refine cnd L J (fun hb_=>?_) (fun hb_=>?_)
  ·obtain ⟨e77,h78,h⟩:=h.1 hb_;refine rg (sw 35 (zd (O 3 J) J J) L fun a s L=>?_);refine sw 36 (zbj (off:=1) (O 5 J) U68 J (ze (zm (zh _ _)) J) J ty3 J J) L fun a s L=>sw 37 (zp ty3 (O 36 J) J J) L fun a s L=>sw 38 (zca (O 35 J) (O 37 J) h78 U91 ty3 J J) L fun a s L=>sw 39 (zp ty3 (O 38 J) J J) L fun a s L=>sw 6 (zb (O 39 J) J J) L fun a s L=>en' ?_;exact J38 e77 a s (L.keep (.k 1 (.cons (t:=3) J (fun _ _ h_=>h_) (.k 4 (.cons (t:=5) J (fun _ _ h_=>h_) (.k 6 (.k 7 .nil))))))) (Dis.symm d30) h
  ·replace h:=h.2 hb_;refine wp_skip ?_;exact J38 0 a s (L.keep (.k 1 (.cons (t:=3) J (fun _ _ h_=>h_) (.k 4 (.cons (t:=5) J (fun _ _ h_=>h_) (.k 6 (.k 7 .nil))))))) (Dis.symm d30) h
 ·replace h:=h.2 hb_;refine wp_exit ?_;exact J7 l15 og16 a s (L.keep (.cons (t:=3) J (fun _ _ h_=>h_) .nil)) h
theorem zjq {d_:SDesc} {r_:Bool} (h:zb6 d_ r_):Fn Tryz.prog 75 [(Pd.rep En.SDesc d_)] (Rq (Pd.rep En.bool r_)):=by
 unfold zb6 at h;refine zbx Tryz.func75 J Tryz.ntmps75 (by rfl) (by simp) fun s0 a L=>?_;refine wp_seq_k fun K1 H1=>rg (sw 1 (zcu (O 0 J) J J) L fun a s L=>?_);refine sw 2 (zb o_b J J) L fun a s L=>en' (H1 _ _ ?_);refine wp_seq_k fun K2 H2=>wp_seq_k fun K3 H3=>rg (sw 3 (zb oI J J) L fun a s L=>?_);refine en' (H3 _ _ ?_);refine wp_block ?_;have J4:∀(a:Act) (s:St),Has N0 27 s0 a s []→((zb6.j1 r_))→K2 a s.w:=by
  intro a s L h;unfold zb6.j1 at h;show K2 a s.w;refine H2 _ _ (wp_seq_k fun K5 H5=>?_);refine rg (sw 2 (zb o_b J J) L fun a s L=>?_);refine en' (H5 _ _ ?_);subst h;exact wp_ret (zdu J L J)
 obtain ⟨k7,h⟩:=h;refine lpg (fun k8 a s=>∃(i6:Int),Has N0 27 s0 a s [(1,(Pd.ptr En.SDesc d_)),(3,(Pi i6))]∧zb6.l1 d_ r_ (zb6.j1 r_) k8 i6) k7 ⟨0,L.keep (.k 1 (.k 3 .nil)),h⟩ ?_;rintro k8 a s ⟨i6,L,h⟩ KL9 hKL9;cases k8 with
 | zero=>exact h.elim
 | succ k8=>
 unfold zb6.l1 at h;refine wp_seq_k fun K10 H10=>wp_seq_k fun K11 H11=>rg (sw 4 (zd (O 3 J) J J) L fun a s L=>?_);refine sw 5 (zc0 (off:=0) (O 1 J) U24 J (zbw (zh _ _)) J zfj J J) L fun a s L=>sw 6 (zt zfj (O 5 J) J J) L fun a s L=>sw 7 (zc8 (O 6 J) U22 J J) L fun a s L=>sw 8 (zbz (O 4 J) (O 7 J) J J) L fun a s L=>en' (H11 _ _ ?_);refine cnd L J (fun hb_=>?_) (fun hb_=>?_)
 ·replace h:=h.1 hb_;refine wp_skip ?_;show K10 a s.w;refine H10 _ _ (wp_seq_k fun K12 H12=>?_);refine wp_block (wp_seq_k fun K13 H13=>?_);obtain ⟨e14,h15,e16,h17,h⟩:=h;refine rg (sw 11 (zc0 (off:=0) (O 1 J) U24 J (zbw (zh _ _)) J zfj J J) L fun a s L=>?_);refine sw 12 (zt zfj (O 11 J) J J) L fun a s L=>sw 13 (zd (O 3 J) J J) L fun a s L=>sw 14 (zde (O 12 J) (O 13 J) h15 U22 zfi J J) L fun a s L=>sw 15 (zc0 (off:=0) (O 14 J) U68 J (zm (zh _ _)) J ty3 J J) L fun a s L=>sw 16 (zt ty3 (O 15 J) J J) L fun a s L=>sw 17 (zbt (O 16 J) oI J J) L fun a s L=>sw 18 (zd (O 17 J) J J) L fun a s L=>sw 19 (zbg J J J (fun hc_=>zc0 (off:=0) (O 1 J) U24 J (zbw (zh _ _)) J zfj J J)) L fun a s L=>sw 20 (zbg J J J (fun hc_=>zt zfj (o_w hc_ 19 J) J J)) L fun a s L=>?_;refine sw 21 (zbg J J J (fun hc_=>zd (O 3 J) J J)) L fun a s L=>sw 22 (zbg J J J (fun hc_=>zde (o_w hc_ 20 J) (o_w hc_ 21 J) (h17 hc_) U22 zfi J J)) L fun a s L=>sw 23 (zbg J J J (fun hc_=>zc0 (off:=0) (o_w hc_ 22 J) U68 J (zm (zh _ _)) J ty3 J J)) L fun a s L=>sw 24 (zbg J J J (fun hc_=>zt ty3 (o_w hc_ 23 J) J J)) L fun a s L=>sw 25 (zbg J J J (fun hc_=>zbt (o_w hc_ 24 J) oI J J)) L fun a s L=>sw 26 (zox (O 18 J) (fun hc2_=>(o_w hc2_ 25 J)) J J) L fun a s L=>en' (H13 _ _ ?_);refine cnd L J (fun hb_=>?_) (fun hb_=>?_)
  ·replace h:=h.1 hb_;refine wp_seq_k fun K18 H18=>rg (sw 2 (zb o_b J J) L fun a s L=>?_);refine en' (H18 _ _ ?_);subst h;exact wp_ret (zdu J L J)
  ·replace h:=h.2 hb_;refine wp_skip ?_;show K12 a s.w;refine H12 _ _ ?_;obtain ⟨h19,h⟩:=h;refine rg (sw 9 (zd (O 3 J) J J) L fun a s L=>?_);refine sw 10 (zbk (O 9 J) oI h19 J J) L fun a s L=>sw 3 (zb (O 10 J) J J) L fun a s L=>en' ?_;exact hKL9 k8 a s (Nat.lt_succ_self _) ⟨(i6+1),L.keep (.k 1 (.k 3 .nil)),h⟩
 ·replace h:=h.2 hb_;refine wp_exit ?_;exact J4 a s (L.keep .nil) h
theorem zoh {d_:SDesc} {ev_:SDesc} {things_:Int} {r_:Bool} (h:zgk d_ ev_ things_ r_):Fn Tryz.prog 39 [(Pd.rep En.SDesc d_),(Pd.rep En.SDesc ev_),(Pi things_)] (Rq (Pd.rep En.bool r_)):=by
 unfold zgk at h;refine zbx Tryz.func39 J Tryz.ntmps39 (by rfl) (by simp) fun s0 a L=>?_;refine wp_seq_k fun K1 H1=>rg (sw 3 (zcu (O 0 J) J J) L fun a s L=>?_);refine sw 4 (zcu (O 1 J) J J) L fun a s L=>sw 6 (zb o_b J J) L fun a s L=>en' (H1 _ _ ?_);refine wp_seq_k fun K2 H2=>?_;obtain ⟨r3,h4,r5,h6,h⟩:=h;refine rg (sw 7 (zd (O 2 J) J J) L fun a s L=>?_);refine sw 8 (zji (O 7 J) oI J J) L fun a s L=>sw 9 (zd (O 8 J) J J) L fun a s L=>sw 10 (zbg J J J (fun hc_=>zt zfl (O 3 J) J J)) L fun a s L=>sw 11 (zbg J J J (fun hc_=>zy (zjq (h4 hc_)) (xs:=[.tmp 10]) (.cons (o_w hc_ 10 J) .nil) J J)) L fun a s L=>sw 12 (zbg J J J (fun hc_=>zia (o_w hc_ 11 J) J J)) L fun a s L=>sw 13 (zbg J J J (fun hc_=>zd (o_w hc_ 12 J) J J)) L fun a s L=>sw 14 (t_g J J J (fun hc_=>zt zfl (O 4 J) J J)) L fun a s L=>sw 15 (t_g J J J (fun hc_=>zy (zjq (h6 hc_)) (xs:=[.tmp 14]) (.cons (o_w hc_ 14 J) .nil) J J)) L fun a s L=>sw 16 (t_g J J J (fun hc_=>zia (o_w hc_ 15 J) J J)) L fun a s L=>?_;refine sw 17 (zbg J J J (fun hc_=>zc1 (o_w hc_ 13 J) (fun hc2_=>(o_w (And.intro hc_ hc2_) 16 J)) J J)) L fun a s L=>sw 18 (zox (O 9 J) (fun hc2_=>(o_w hc2_ 17 J)) J J) L fun a s L=>sw 6 (zb (O 18 J) J J) L fun a s L=>en' (H2 _ _ ?_);subst h;exact wp_ret (zdu J L J)
def zda (nv_:Int) (r_:Int):Prop:=r_=(min nv_ 1099511627776)
def z6.j1 (r_:Int) (e3:SNode) (a10:Int) (b14:Int) (v26:Bool):Prop:=((v26)=true→(InR .i64 (a10+b14))∧∃r30:Int,zda (a10+b14) r30∧r_=r30)∧((v26)=false→(((e3.1==6))=true→r_=a10)∧(((e3.1==6))=false→(((e3.1==7))=true→(InR .i64 (a10*e3.2.2.2.2.1))∧∃r37:Int,zda (a10*e3.2.2.2.2.1) r37∧r_=r37)∧(((e3.1==7))=false→(((e3.1==8))=true→(InR .i64 (a10+1))∧∃r42:Int,zda (a10+1) r42∧(InR .i64 (256*r42))∧∃r45:Int,zda (256*r42) r45∧r_=r45)∧(((e3.1==8))=false→(((e3.1==9))=true→(InR .i64 (a10+1))∧∃r50:Int,zda (a10+1) r50∧(InR .i64 (65536*r50))∧(InR .i64 (256+(65536*r50)))∧∃r54:Int,zda (256+(65536*r50)) r54∧r_=r54)∧(((e3.1==9))=false→r_=0)))))
def z6.j2 (r_:Int) (e3:SNode) (a10:Int) (b14:Int):Prop:=(((e3.1==2))=true→r_=1)∧(((e3.1==2))=false→(((e3.1==3))=true→∃r22:Int,zda (e3.2.2.2.2.2.2.length:Int) r22∧r_=r22)∧(((e3.1==3))=false→(((e3.1==4))=true→(z6.j1 r_ e3 a10 b14) (e3.1==4))∧(((e3.1==4))=false→(z6.j1 r_ e3 a10 b14) (e3.1==5))))
def z6.j3 (n_:SDesc→Int→Int→Prop) (d_:SDesc) (r_:Int) (e3:SNode) (a10:Int):Prop:=((((e3.1==4)||(e3.1==5)))=true→∃r57:Int,n_ d_ e3.2.2.1 r57∧(z6.j2 r_ e3 a10) r57)∧((((e3.1==4)||(e3.1==5)))=false→(z6.j2 r_ e3 a10) 0)
def z6.n:Nat→SDesc→Int→Int→Prop
 | 0,_,_,_=>False
 | k_+1,d_,i_,r_=>∃e3:SNode,at? d_ i_=some e3∧((decide (4≤e3.1))=true→∃r59:Int,z6.n k_ d_ e3.2.1 r59∧(z6.j3 (z6.n k_) d_ r_ e3) r59)∧((decide (4≤e3.1))=false→(z6.j3 (z6.n k_) d_ r_ e3) 0)
def z6 (d_:SDesc) (i_:Int) (r_:Int):Prop:=∃k_,z6.n k_ d_ i_ r_
def zma (d_:SDesc) (r_:Int):Prop:=(InR .i64 ((d_.length:Int)-1))∧∃r4:Int,z6 d_ ((d_.length:Int)-1) r4∧(InR .i64 (r4+1))∧∃r7:Int,zda (r4+1) r7∧r_=r7
def zcl.j1 (r_:Int) (b5:Int):Prop:=r_=b5
def zcl.l1 (nv_:Int) (X1:Int→Prop):Nat→Int→Int→Prop
 | 0,_,_=>False
 | k_0+1,b8,i9=>((((decide (i9<nv_))&&(decide (i9<31))))=true→(InR .i64 (4*b8))∧(InR .i64 (i9+1))∧zcl.l1 nv_ X1 k_0 (4*b8) (i9+1))∧((((decide (i9<nv_))&&(decide (i9<31))))=false→X1 b8)
def zcl (nv_:Int) (r_:Int):Prop:=∃k10,zcl.l1 nv_ (zcl.j1 r_) k10 1 0
set_option maxRecDepth 100000
theorem zd2 {nv_:Int} {r_:Int} (h:zda nv_ r_):Fn Tryz.prog 81 [(Pi nv_)] (Rq (Pi r_)):=by
 unfold zda at h;refine zbx Tryz.func81 J Tryz.ntmps81 (by rfl) (by simp) fun s0 a L=>?_;refine wp_seq_k fun K1 H1=>rg (sw 2 (zb oI J J) L fun a s L=>?_);refine en' (H1 _ _ ?_);refine wp_seq_k fun K2 H2=>rg (sw 3 (zd (O 0 J) J J) L fun a s L=>?_);refine sw 4 (zpn (O 3 J) oI J J) L fun a s L=>sw 2 (zb (O 4 J) J J) L fun a s L=>en' (H2 _ _ ?_);subst h;exact wp_ret (zdu J L J)
theorem z6.n_ok (k_:Nat):∀{d_:SDesc} {i_:Int} {r_:Int} (h:z6.n k_ d_ i_ r_),Fn Tryz.prog 82 [(Pd.rep En.SDesc d_),(Pi i_)] (Rq (Pi r_)):=by
 induction k_ with
 | zero=>intro d_ i_ r_ h;exact h.elim
 | succ k_ ih_=>
 intro d_ i_ r_ h;unfold z6.n at h;refine zbx Tryz.func82 J Tryz.ntmps82 (by rfl) (by simp) fun s0 a L=>?_;refine wp_seq_k fun K1 H1=>rg (sw 2 (zcu (O 0 J) J J) L fun a s L=>?_);refine sw 4 (zb oI J J) L fun a s L=>en' (H1 _ _ ?_);refine wp_seq_k fun K2 H2=>?_;obtain ⟨e3,h4,h⟩:=h;refine rg (sw 8 (zc0 (off:=0) (O 2 J) U24 J (zbw (zh _ _)) J zfj J J) L fun a s L=>?_);refine sw 9 (zt zfj (O 8 J) J J) L fun a s L=>sw 10 (zd (O 1 J) J J) L fun a s L=>sw 11 (zde (O 9 J) (O 10 J) h4 U22 zfi J J) L fun a s L=>sw 12 (zt zfi (O 11 J) J J) L fun a s L=>zbf En.SNode (z:=(0,0,0,0,0,(0#256),([]:Str))) 5 L zk2 J J J J fun a s g5 hg_ L=>?_;refine zby (L':=[(2,(Pd.ptr En.SDesc d_))]) 5 L J (O 12 J) zfi J J J (.k 2 .nil) fun s L=>?_;refine en' (H2 _ _ ?_);refine wp_seq_k fun K6 H6=>rg (sw 6 (zb oI J J) L fun a s L=>?_);refine en' (H6 _ _ ?_);refine wp_seq_k fun K7 H7=>rg (sw 7 (zb oI J J) L fun a s L=>?_);refine en' (H7 _ _ ?_);refine wp_seq_k fun K8 H8=>wp_seq_k fun K9 H9=>rg (sw 13 (zbj (off:=0) (O 5 J) U68 J (zm (zh _ _)) J ty3 J J) L fun a s L=>?_);refine sw 14 (zp ty3 (O 13 J) J J) L fun a s L=>sw 15 (zj5 (O 14 J) oI J J) L fun a s L=>en' (H9 _ _ ?_);have J11:∀(a10:Int) (a:Act) (s:St),Has N0 74 s0 a s [(2,(Pd.ptr En.SDesc d_)),(5,(Pd.box En.SNode s0.w.heap.size g5 e3)),(6,(Pi a10)),(7,(Pi 0))]→((z6.j3 (z6.n k_) d_ r_ e3) a10)→K8 a s.w:=by
  intro a10 a s L h;unfold z6.j3 at h;show K8 a s.w;refine H8 _ _ (wp_seq_k fun K12 H12=>?_);refine wp_seq_k fun K13 H13=>rg (sw 20 (zbj (off:=0) (O 5 J) U68 J (zm (zh _ _)) J ty3 J J) L fun a s L=>?_);refine sw 21 (zp ty3 (O 20 J) J J) L fun a s L=>sw 22 (zbt (O 21 J) oI J J) L fun a s L=>sw 23 (zd (O 22 J) J J) L fun a s L=>sw 24 (zbg J J J (fun hc_=>zbj (off:=0) (O 5 J) U68 J (zm (zh _ _)) J ty3 J J)) L fun a s L=>sw 25 (zbg J J J (fun hc_=>zp ty3 (o_w hc_ 24 J) J J)) L fun a s L=>sw 26 (zbg J J J (fun hc_=>zbt (o_w hc_ 25 J) oI J J)) L fun a s L=>sw 27 (zox (O 23 J) (fun hc2_=>(o_w hc2_ 26 J)) J J) L fun a s L=>en' (H13 _ _ ?_);have J15:∀(b14:Int) (a:Act) (s:St),Has N0 74 s0 a s [(5,(Pd.box En.SNode s0.w.heap.size g5 e3)),(6,(Pi a10)),(7,(Pi b14))]→((z6.j2 r_ e3 a10) b14)→K12 a s.w:=by
   intro b14 a s L h;unfold z6.j2 at h;show K12 a s.w;refine H12 _ _ (wp_seq_k fun K16 H16=>?_);refine wp_seq_k fun K17 H17=>rg (sw 32 (zbj (off:=0) (O 5 J) U68 J (zm (zh _ _)) J ty3 J J) L fun a s L=>?_);refine sw 33 (zp ty3 (O 32 J) J J) L fun a s L=>en' (H17 _ _ ?_);refine wp_block (wp_seq_k fun K18 H18=>?_);refine rg (sw 35 (zbt (O 33 J) oI J J) L fun a s L=>?_);refine sw 34 (zb (O 35 J) J J) L fun a s L=>en' (H18 _ _ ?_);refine cnd L J (fun hb_=>?_) (fun hb_=>?_)
   ·replace h:=h.1 hb_;refine wp_seq_k fun K19 H19=>rg (sw 4 (zb oI J J) L fun a s L=>?_);refine en' (H19 _ _ ?_);subst h;exact wp_ret (zdu J L J)
   ·replace h:=h.2 hb_;refine wp_seq_k fun K20 H20=>rg (sw 37 (zbt (O 33 J) oI J J) L fun a s L=>?_);refine sw 36 (zb (O 37 J) J J) L fun a s L=>en' (H20 _ _ ?_);refine cnd L J (fun hb_=>?_) (fun hb_=>?_)
    ·replace h:=h.1 hb_;refine wp_seq_k fun K21 H21=>?_;obtain ⟨r22,h23,h⟩:=h;refine rg (sw 38 (zbj (off:=9) (O 5 J) U68 J (ze (ze (ze (ze (ze (ze (zh _ _) J) J) J) J) J) J) J ty9 J J) L fun a s L=>?_);refine sw 39 (zp ty9 (O 38 J) J J) L fun a s L=>sw 40 (zlm (O 39 J) U9 J J) L fun a s L=>sw 41 (zy (zd2 h23) (xs:=[.tmp 40]) (.cons (O 40 J) .nil) J J) L fun a s L=>sw 4 (zb (O 41 J) J J) L fun a s L=>en' (H21 _ _ ?_);subst h;exact wp_ret (zdu J L J)
    ·replace h:=h.2 hb_;refine wp_seq_k fun K24 H24=>wp_seq_k fun K25 H25=>rg (sw 43 (zbt (O 33 J) oI J J) L fun a s L=>?_);refine sw 42 (zb (O 43 J) J J) L fun a s L=>en' (H25 _ _ ?_);have J27:∀(v26:Bool) (a:Act) (s:St),Has N0 74 s0 a s [(5,(Pd.box En.SNode s0.w.heap.size g5 e3)),(6,(Pi a10)),(7,(Pi b14)),(33,(Pi e3.1)),(42,(Pd.rep En.bool v26))]→((z6.j1 r_ e3 a10 b14) v26)→K24 a s.w:=by
      intro v26 a s L h;unfold z6.j1 at h;show K24 a s.w;refine H24 _ _ (cnd L J (fun hb_=>?_) (fun hb_=>?_))
      ·replace h:=h.1 hb_;refine wp_seq_k fun K28 H28=>?_;obtain ⟨h29,r30,h31,h⟩:=h;refine rg (sw 45 (zd (O 6 J) J J) L fun a s L=>?_);refine sw 46 (zd (O 7 J) J J) L fun a s L=>sw 47 (zbk (O 45 J) (O 46 J) h29 J J) L fun a s L=>sw 48 (zy (zd2 h31) (xs:=[.tmp 47]) (.cons (O 47 J) .nil) J J) L fun a s L=>sw 4 (zb (O 48 J) J J) L fun a s L=>en' (H28 _ _ ?_);subst h;exact wp_ret (zdu J L J)
      ·replace h:=h.2 hb_;refine wp_seq_k fun K32 H32=>rg (sw 50 (zbt (O 33 J) oI J J) L fun a s L=>?_);refine sw 49 (zb (O 50 J) J J) L fun a s L=>en' (H32 _ _ ?_);refine cnd L J (fun hb_=>?_) (fun hb_=>?_)
       ·replace h:=h.1 hb_;refine wp_seq_k fun K33 H33=>rg (sw 51 (zd (O 6 J) J J) L fun a s L=>?_);refine sw 4 (zb (O 51 J) J J) L fun a s L=>en' (H33 _ _ ?_);subst h;exact wp_ret (zdu J L J)
       ·replace h:=h.2 hb_;refine wp_seq_k fun K34 H34=>rg (sw 53 (zbt (O 33 J) oI J J) L fun a s L=>?_);refine sw 52 (zb (O 53 J) J J) L fun a s L=>en' (H34 _ _ ?_);refine cnd L J (fun hb_=>?_) (fun hb_=>?_)
        ·replace h:=h.1 hb_;refine wp_seq_k fun K35 H35=>?_;obtain ⟨h36,r37,h38,h⟩:=h;refine rg (sw 54 (zd (O 6 J) J J) L fun a s L=>?_);refine sw 55 (zbj (off:=4) (O 5 J) U68 J (ze (ze (ze (ze (zm (zh _ _)) J) J) J) J) J ty3 J J) L fun a s L=>sw 56 (zp ty3 (O 55 J) J J) L fun a s L=>sw 57 (zk3 (O 54 J) (O 56 J) h36 J J) L fun a s L=>sw 58 (zy (zd2 h38) (xs:=[.tmp 57]) (.cons (O 57 J) .nil) J J) L fun a s L=>sw 4 (zb (O 58 J) J J) L fun a s L=>en' (H35 _ _ ?_);subst h;exact wp_ret (zdu J L J)
        ·replace h:=h.2 hb_;refine wp_seq_k fun K39 H39=>rg (sw 60 (zbt (O 33 J) oI J J) L fun a s L=>?_);refine sw 59 (zb (O 60 J) J J) L fun a s L=>en' (H39 _ _ ?_);refine cnd L J (fun hb_=>?_) (fun hb_=>?_)
         ·replace h:=h.1 hb_;refine wp_seq_k fun K40 H40=>?_;obtain ⟨h41,r42,h43,h44,r45,h46,h⟩:=h;refine rg (sw 61 (zd (O 6 J) J J) L fun a s L=>?_);refine sw 62 (zbk (O 61 J) oI h41 J J) L fun a s L=>sw 63 (zy (zd2 h43) (xs:=[.tmp 62]) (.cons (O 62 J) .nil) J J) L fun a s L=>sw 64 (zk3 oI (O 63 J) h44 J J) L fun a s L=>sw 65 (zy (zd2 h46) (xs:=[.tmp 64]) (.cons (O 64 J) .nil) J J) L fun a s L=>sw 4 (zb (O 65 J) J J) L fun a s L=>en' (H40 _ _ ?_);subst h;exact wp_ret (zdu J L J)
         ·replace h:=h.2 hb_;refine wp_seq_k fun K47 H47=>rg (sw 67 (zbt (O 33 J) oI J J) L fun a s L=>?_);refine sw 66 (zb (O 67 J) J J) L fun a s L=>en' (H47 _ _ ?_);refine cnd L J (fun hb_=>?_) (fun hb_=>?_)
          ·replace h:=h.1 hb_;refine wp_seq_k fun K48 H48=>?_;obtain ⟨h49,r50,h51,h52,h53,r54,h55,h⟩:=h;refine rg (sw 68 (zd (O 6 J) J J) L fun a s L=>?_);refine sw 69 (zbk (O 68 J) oI h49 J J) L fun a s L=>sw 70 (zy (zd2 h51) (xs:=[.tmp 69]) (.cons (O 69 J) .nil) J J) L fun a s L=>sw 71 (zk3 oI (O 70 J) h52 J J) L fun a s L=>sw 72 (zbk oI (O 71 J) h53 J J) L fun a s L=>sw 73 (zy (zd2 h55) (xs:=[.tmp 72]) (.cons (O 72 J) .nil) J J) L fun a s L=>sw 4 (zb (O 73 J) J J) L fun a s L=>en' (H48 _ _ ?_);subst h;exact wp_ret (zdu J L J)
          ·replace h:=h.2 hb_;refine wp_skip ?_;show K16 a s.w;refine H16 _ _ (wp_seq_k fun K56 H56=>?_);refine rg (sw 4 (zb oI J J) L fun a s L=>?_);refine en' (H56 _ _ ?_);subst h;exact wp_ret (zdu J L J)
     refine cnd L J (fun hb_=>?_) (fun hb_=>?_)
     ·replace h:=h.1 hb_;refine wp_skip ?_;exact J27 (e3.1==4) a s (L.keep (.cons (t:=5) J (fun _ _ h_=>h_) (.k 6 (.k 7 (.k 33 (.k 42 .nil)))))) h
     ·replace h:=h.2 hb_;refine rg (sw 44 (zbt (O 33 J) oI J J) L fun a s L=>?_);refine sw 42 (zb (O 44 J) J J) L fun a s L=>en' ?_;exact J27 (e3.1==5) a s (L.keep (.cons (t:=5) J (fun _ _ h_=>h_) (.k 6 (.k 7 (.k 33 (.k 42 .nil)))))) h
  refine cnd L J (fun hb_=>?_) (fun hb_=>?_)
  ·obtain ⟨r57,h58,h⟩:=h.1 hb_;refine rg (sw 28 (zt zfl (O 2 J) J J) L fun a s L=>?_);refine sw 29 (zbj (off:=2) (O 5 J) U68 J (ze (ze (zm (zh _ _)) J) J) J ty3 J J) L fun a s L=>sw 30 (zp ty3 (O 29 J) J J) L fun a s L=>sw 31 (zy (ih_ h58) (xs:=[.tmp 28,.tmp 30]) (.cons (O 28 J) (.cons (O 30 J) .nil)) J J) L fun a s L=>sw 7 (zb (O 31 J) J J) L fun a s L=>en' ?_;exact J15 r57 a s (L.keep (.cons (t:=5) J (fun _ _ h_=>h_) (.k 6 (.k 7 .nil)))) h
  ·replace h:=h.2 hb_;refine wp_skip ?_;exact J15 0 a s (L.keep (.cons (t:=5) J (fun _ _ h_=>h_) (.k 6 (.k 7 .nil)))) h
 refine cnd L J (fun hb_=>?_) (fun hb_=>?_)
 ·obtain ⟨r59,h60,h⟩:=h.1 hb_;refine rg (sw 16 (zt zfl (O 2 J) J J) L fun a s L=>?_);refine sw 17 (zbj (off:=1) (O 5 J) U68 J (ze (zm (zh _ _)) J) J ty3 J J) L fun a s L=>sw 18 (zp ty3 (O 17 J) J J) L fun a s L=>sw 19 (zy (ih_ h60) (xs:=[.tmp 16,.tmp 18]) (.cons (O 16 J) (.cons (O 18 J) .nil)) J J) L fun a s L=>sw 6 (zb (O 19 J) J J) L fun a s L=>en' ?_;exact J11 r59 a s (L.keep (.k 2 (.cons (t:=5) J (fun _ _ h_=>h_) (.k 6 (.k 7 .nil))))) h
 ·replace h:=h.2 hb_;refine wp_skip ?_;exact J11 0 a s (L.keep (.k 2 (.cons (t:=5) J (fun _ _ h_=>h_) (.k 6 (.k 7 .nil))))) h
theorem zp3 {d_:SDesc} {i_:Int} {r_:Int} (h:z6 d_ i_ r_):Fn Tryz.prog 82 [(Pd.rep En.SDesc d_),(Pi i_)] (Rq (Pi r_)):=by
 obtain ⟨k_,h⟩:=h;exact z6.n_ok k_ h
theorem ref07_Of_ok {d_:SDesc} {r_:Int} (h:zma d_ r_):Fn Tryz.prog 46 [(Pd.rep En.SDesc d_)] (Rq (Pi r_)):=by
 unfold zma at h;refine zbx Tryz.func46 J Tryz.ntmps46 (by rfl) (by simp) fun s0 a L=>?_;refine wp_seq_k fun K1 H1=>rg (sw 1 (zcu (O 0 J) J J) L fun a s L=>?_);refine sw 2 (zb oI J J) L fun a s L=>en' (H1 _ _ ?_);refine wp_seq_k fun K2 H2=>?_;obtain ⟨h3,r4,h5,h6,r7,h8,h⟩:=h;refine rg (sw 3 (zt zfl (O 1 J) J J) L fun a s L=>?_);refine sw 4 (zc0 (off:=0) (O 1 J) U24 J (zbw (zh _ _)) J zfj J J) L fun a s L=>sw 5 (zt zfj (O 4 J) J J) L fun a s L=>sw 6 (zc8 (O 5 J) U22 J J) L fun a s L=>sw 7 (zdy (O 6 J) oI h3 J J) L fun a s L=>sw 8 (zy (zp3 h5) (xs:=[.tmp 3,.tmp 7]) (.cons (O 3 J) (.cons (O 7 J) .nil)) J J) L fun a s L=>sw 9 (zbk (O 8 J) oI h6 J J) L fun a s L=>sw 10 (zy (zd2 h8) (xs:=[.tmp 9]) (.cons (O 9 J) .nil) J J) L fun a s L=>sw 2 (zb (O 10 J) J J) L fun a s L=>en' (H2 _ _ ?_);subst h;exact wp_ret (zdu J L J)
theorem zof {nv_:Int} {r_:Int} (h:zcl nv_ r_):Fn Tryz.prog 45 [(Pi nv_)] (Rq (Pi r_)):=by
 unfold zcl at h;refine zbx Tryz.func45 J Tryz.ntmps45 (by rfl) (by simp) fun s0 a L=>?_;refine wp_seq_k fun K1 H1=>rg (sw 2 (zb oI J J) L fun a s L=>?_);refine en' (H1 _ _ ?_);refine wp_seq_k fun K2 H2=>rg (sw 3 (zb oI J J) L fun a s L=>?_);refine en' (H2 _ _ ?_);refine wp_seq_k fun K3 H3=>wp_seq_k fun K4 H4=>rg (sw 4 (zb oI J J) L fun a s L=>?_);refine en' (H4 _ _ ?_);refine wp_block ?_;have J6:∀(b5:Int) (a:Act) (s:St),Has N0 17 s0 a s [(3,(Pi b5))]→((zcl.j1 r_) b5)→K3 a s.w:=by
  intro b5 a s L h;unfold zcl.j1 at h;show K3 a s.w;refine H3 _ _ (wp_seq_k fun K7 H7=>?_);refine rg (sw 16 (zd (O 3 J) J J) L fun a s L=>?_);refine sw 2 (zb (O 16 J) J J) L fun a s L=>en' (H7 _ _ ?_);subst h;exact wp_ret (zdu J L J)
 obtain ⟨k10,h⟩:=h;refine lpg (fun k11 a s=>∃(b8:Int) (i9:Int),Has N0 17 s0 a s [(0,(Pi nv_)),(3,(Pi b8)),(4,(Pi i9))]∧zcl.l1 nv_ (zcl.j1 r_) k11 b8 i9) k10 ⟨1,0,L.keep (.k 0 (.k 3 (.k 4 .nil))),h⟩ ?_;rintro k11 a s ⟨b8,i9,L,h⟩ KL12 hKL12;cases k11 with
 | zero=>exact h.elim
 | succ k11=>
 unfold zcl.l1 at h;refine wp_seq_k fun K13 H13=>wp_seq_k fun K14 H14=>rg (sw 5 (zd (O 4 J) J J) L fun a s L=>?_);refine sw 6 (zd (O 0 J) J J) L fun a s L=>sw 7 (zbz (O 5 J) (O 6 J) J J) L fun a s L=>sw 8 (zd (O 7 J) J J) L fun a s L=>sw 9 (zbg J J J (fun hc_=>zd (O 4 J) J J)) L fun a s L=>sw 10 (zbg J J J (fun hc_=>zbz (o_w hc_ 9 J) oI J J)) L fun a s L=>sw 11 (zc1 (O 8 J) (fun hc2_=>(o_w hc2_ 10 J)) J J) L fun a s L=>en' (H14 _ _ ?_);refine cnd L J (fun hb_=>?_) (fun hb_=>?_)
 ·replace h:=h.1 hb_;refine wp_skip ?_;show K13 a s.w;refine H13 _ _ (wp_seq_k fun K15 H15=>?_);refine wp_block ?_;obtain ⟨h16,h⟩:=h;refine rg (sw 14 (zd (O 3 J) J J) L fun a s L=>?_);refine sw 15 (zk3 oI (O 14 J) h16 J J) L fun a s L=>sw 3 (zb (O 15 J) J J) L fun a s L=>en' (H15 _ _ ?_);obtain ⟨h17,h⟩:=h;refine rg (sw 12 (zd (O 4 J) J J) L fun a s L=>?_);refine sw 13 (zbk (O 12 J) oI h17 J J) L fun a s L=>sw 4 (zb (O 13 J) J J) L fun a s L=>en' ?_;exact hKL12 k11 a s (Nat.lt_succ_self _) ⟨(4*b8),(i9+1),L.keep (.k 0 (.k 3 (.k 4 .nil))),h⟩
 ·replace h:=h.2 hb_;refine wp_exit ?_;exact J6 b8 a s (L.keep (.k 3 .nil)) h
def zu.j1 (i_:Int) (r_:Int) (l5:(List Int)):Prop:=∃e9:Int,at? l5 i_=some e9∧r_=e9
def zu.j2 (L1_:(List Int)→Int→Prop) (l11:(List Int)) (k13:Int) (w29:Int):Prop:=(l11.length+[(min 2 w29)].length≤2147483648)∧(InR .i64 (k13+1))∧L1_ (l11++[(min 2 w29)]) (k13+1)
def zu.j3 (L2_:Int→Int→Prop) (w53:Int) (t54:Int) (p65:Int):Prop:=(InR .i64 (w53+p65))∧(InR .i64 (t54+1))∧L2_ (min 2 (w53+p65)) (t54+1)
def zu.l3 (l11:(List Int)) (e21:SNode) (t54:Int) (X3:Int→Prop):Nat→Int→Int→Prop
 | 0,_,_=>False
 | k_0+1,p70,m71=>((decide (m71<t54))=true→∃e79:Int,at? l11 e21.2.1=some e79∧(InR .i64 (p70*e79))∧(InR .i64 (m71+1))∧zu.l3 l11 e21 t54 X3 k_0 (min 2 (p70*e79)) (m71+1))∧((decide (m71<t54))=false→X3 p70)
def zu.l2 (l11:(List Int)) (e21:SNode) (X2:Int→Prop):Nat→Int→Int→Prop
 | 0,_,_=>False
 | k_0+1,w53,t54=>((decide (t54≤e21.2.2.2.2.1))=true→∃k72,zu.l3 l11 e21 t54 (zu.j3 (zu.l2 l11 e21 X2 k_0) w53 t54) k72 1 0)∧((decide (t54≤e21.2.2.2.2.1))=false→X2 w53)
def zu.l1 (d_:SDesc) (i_:Int) (X1:(List Int)→Prop):Nat→(List Int)→Int→Prop
 | 0,_,_=>False
 | k_0+1,l11,k13=>((decide (k13≤i_))=true→∃e21:SNode,at? d_ k13=some e21∧(((e21.1==1))=true→(zu.j2 (zu.l1 d_ i_ X1 k_0) l11 k13) 1)∧(((e21.1==1))=false→(((e21.1==4))=true→∃e35:Int,at? l11 e21.2.1=some e35∧∃e37:Int,at? l11 e21.2.2.1=some e37∧(InR .i64 (e35*e37))∧(zu.j2 (zu.l1 d_ i_ X1 k_0) l11 k13) (e35*e37))∧(((e21.1==4))=false→(((e21.1==5))=true→∃e41:Int,at? l11 e21.2.1=some e41∧∃e43:Int,at? l11 e21.2.2.1=some e43∧(InR .i64 (e41+e43))∧(zu.j2 (zu.l1 d_ i_ X1 k_0) l11 k13) (e41+e43))∧(((e21.1==5))=false→(((e21.1==6))=true→∃e49:Int,at? l11 e21.2.1=some e49∧((decide (0<e49))=true→(zu.j2 (zu.l1 d_ i_ X1 k_0) l11 k13) 2)∧((decide (0<e49))=false→(zu.j2 (zu.l1 d_ i_ X1 k_0) l11 k13) 1))∧(((e21.1==6))=false→(((e21.1==7))=true→∃k55,zu.l2 l11 e21 (zu.j2 (zu.l1 d_ i_ X1 k_0) l11 k13) k55 0 e21.2.2.2.1)∧(((e21.1==7))=false→(zu.j2 (zu.l1 d_ i_ X1 k_0) l11 k13) 0))))))∧((decide (k13≤i_))=false→X1 l11)
def zu (d_:SDesc) (i_:Int) (r_:Int):Prop:=∃k14,zu.l1 d_ i_ (zu.j1 i_ r_) k14 ([]:(List Int)) 0
def zcc.j1 (r_:(Int × Bool)):Prop:=r_=(0,false)
def zcc.l1 (d_:SDesc) (r_:(Int × Bool)) (X1:Prop):Nat→Int→Prop
 | 0,_=>False
 | k_0+1,i6=>((decide (i6<(d_.length:Int)))=true→∃e14:SNode,at? d_ i6=some e14∧∃e17:SNode,(((((e14.1==6)||(e14.1==7)))=true)→at? d_ i6=some e17)∧∃r19:Int,(((((e14.1==6)||(e14.1==7)))=true)→zu d_ e17.2.1 r19)∧(((((e14.1==6)||(e14.1==7))&&(r19 != 0)))=true→r_=(i6,true))∧(((((e14.1==6)||(e14.1==7))&&(r19 != 0)))=false→(InR .i64 (i6+1))∧zcc.l1 d_ r_ X1 k_0 (i6+1)))∧((decide (i6<(d_.length:Int)))=false→X1)
def zcc (d_:SDesc) (r_:(Int × Bool)):Prop:=∃k7,zcc.l1 d_ r_ (zcc.j1 r_) k7 0
def zhx (d_:SDesc) (r_:Bool):Prop:=∃r4:Bool,zi7 d_ r4∧(((!r4))=true→r_=false)∧(((!r4))=false→∃r8:(Int × Bool),zcc d_ r8∧r_=(!r8.2))
set_option maxRecDepth 100000
theorem zp1 {d_:SDesc} {i_:Int} {r_:Int} (h:zu d_ i_ r_):Fn Tryz.prog 86 [(Pd.rep En.SDesc d_),(Pi i_)] (Rq (Pi r_)):=by
 unfold zu at h;refine zbx Tryz.func86 J Tryz.ntmps86 (by rfl) (by simp) fun s0 a L=>?_;refine wp_seq_k fun K1 H1=>rg (sw 2 (zcu (O 0 J) J J) L fun a s L=>?_);refine sw 4 (zb oI J J) L fun a s L=>en' (H1 _ _ ?_);refine wp_seq_k fun K2 H2=>rg (sw 5 (zb (zdg (E:=(En.int .i64)) (N:=s0.w.heap.size) (te:=3)) J J) L fun a s L=>?_);refine en' (H2 _ _ ?_);refine wp_seq_k fun K3 H3=>wp_seq_k fun K4 H4=>rg (sw 6 (zb oI J J) L fun a s L=>?_);refine en' (H4 _ _ ?_);refine wp_block ?_;have J7:∀(l5:(List Int)) (og6:Option Nat) (a:Act) (s:St),Has N0 96 s0 a s [(1,(Pi i_)),(5,(Pd.row (En.int .i64) s0.w.heap.size 3 og6 l5))]→((zu.j1 i_ r_) l5)→K3 a s.w:=by
  intro l5 og6 a s L h;unfold zu.j1 at h;show K3 a s.w;refine H3 _ _ (wp_seq_k fun K8 H8=>?_);obtain ⟨e9,h10,h⟩:=h;refine rg (sw 92 (zd (O 5 J) J J) L fun a s L=>?_);refine sw 93 (zd (O 1 J) J J) L fun a s L=>sw 94 (zca (O 92 J) (O 93 J) h10 U91 ty3 J J) L fun a s L=>sw 95 (zp ty3 (O 94 J) J J) L fun a s L=>sw 4 (zb (O 95 J) J J) L fun a s L=>en' (H8 _ _ ?_);subst h;exact wp_ret (zdu J L J)
 obtain ⟨k14,h⟩:=h;refine lpg (fun k15 a s=>∃(l11:(List Int)) (k13:Int) (og12:Option Nat),Has N0 96 s0 a s [(1,(Pi i_)),(2,(Pd.ptr En.SDesc d_)),(5,(Pd.row (En.int .i64) s0.w.heap.size 3 og12 l11)),(6,(Pi k13))]∧zu.l1 d_ i_ (zu.j1 i_ r_) k15 l11 k13) k14 ⟨([]:(List Int)),0,none,L.keep (.k 1 (.k 2 (.cons (t:=5) J (fun _ _ h_=>h_) (.k 6 .nil)))),h⟩ ?_;rintro k15 a s ⟨l11,k13,og12,L,h⟩ KL16 hKL16;cases k15 with
 | zero=>exact h.elim
 | succ k15=>
 unfold zu.l1 at h;refine wp_seq_k fun K17 H17=>wp_seq_k fun K18 H18=>rg (sw 12 (zd (O 6 J) J J) L fun a s L=>?_);refine sw 13 (zd (O 1 J) J J) L fun a s L=>sw 14 (zji (O 12 J) (O 13 J) J J) L fun a s L=>en' (H18 _ _ ?_);refine cnd L J (fun hb_=>?_) (fun hb_=>?_)
 ·replace h:=h.1 hb_;refine wp_skip ?_;show K17 a s.w;refine H17 _ _ (wp_seq_k fun K19 H19=>?_);refine wp_block (wp_seq_k fun K20 H20=>?_);obtain ⟨e21,h22,h⟩:=h;refine rg (sw 17 (zc0 (off:=0) (O 2 J) U24 J (zbw (zh _ _)) J zfj J J) L fun a s L=>?_);refine sw 18 (zt zfj (O 17 J) J J) L fun a s L=>sw 19 (zd (O 6 J) J J) L fun a s L=>sw 20 (zde (O 18 J) (O 19 J) h22 U22 zfi J J) L fun a s L=>sw 21 (zt zfi (O 20 J) J J) L fun a s L=>?_;have lt_d24:=L.rlt 5 rfl;refine zbf En.SNode (z:=(0,0,0,0,0,(0#256),([]:Str))) 7 L zk2 J J J J fun a s g23 hg_ L=>?_;have d24:Dis (some g23) og12:=Dis.newg hg_ lt_d24;refine zby (L':=[(1,(Pi i_)),(2,(Pd.ptr En.SDesc d_)),(5,(Pd.row (En.int .i64) s0.w.heap.size 3 og12 l11)),(6,(Pi k13))]) 7 L J (O 21 J) zfi J J J (.k 1 (.k 2 (.cons (t:=5) J (Dis.ow (Dis.symm d24)) (.k 6 .nil)))) fun s L=>?_;refine en' (H20 _ _ ?_);refine wp_seq_k fun K25 H25=>rg (sw 8 (zb oI J J) L fun a s L=>?_);refine en' (H25 _ _ ?_);refine wp_seq_k fun K26 H26=>wp_seq_k fun K27 H27=>rg (sw 22 (zbj (off:=0) (O 7 J) U68 J (zm (zh _ _)) J ty3 J J) L fun a s L=>?_);refine sw 23 (zp ty3 (O 22 J) J J) L fun a s L=>en' (H27 _ _ ?_);refine wp_block (wp_seq_k fun K28 H28=>?_);refine rg (sw 25 (zbt (O 23 J) oI J J) L fun a s L=>?_);refine sw 24 (zb (O 25 J) J J) L fun a s L=>en' (H28 _ _ ?_);have J30:∀(w29:Int) (a:Act) (s:St),Has N0 96 s0 a s [(1,(Pi i_)),(2,(Pd.ptr En.SDesc d_)),(5,(Pd.row (En.int .i64) s0.w.heap.size 3 og12 l11)),(6,(Pi k13)),(8,(Pi w29))]→((zu.j2 (zu.l1 d_ i_ (zu.j1 i_ r_) k15) l11 k13) w29)→K26 a s.w:=by
   intro w29 a s L h;unfold zu.j2 at h;show K26 a s.w;refine H26 _ _ ?_;obtain ⟨h31,h⟩:=h;refine rg (sw 87 (zd (O 5 J) J J) L fun a s L=>?_);refine sw 88 (zd (O 8 J) J J) L fun a s L=>sw 89 (zpn oI (O 88 J) J J) L fun a s L=>sw 90 (zec (xs:=[.tmp 89]) (.cons (O 89 J) .nil) U91 ty3 J J (by decide) J J) L fun a s L=>zev (L':=[(1,(Pi i_)),(2,(Pd.ptr En.SDesc d_)),(6,(Pi k13))]) 91 L (O 87 J) (O 90 J) U91 ty3 h31 J J J J (.k 1 (.k 2 (.k 6 .nil))) fun a s og32 hg_ L=>?_;refine sw 5 (zb (O 91 J) J J) L fun a s L=>en' (H19 _ _ ?_);obtain ⟨h33,h⟩:=h;refine rg (sw 15 (zd (O 6 J) J J) L fun a s L=>?_);refine sw 16 (zbk (O 15 J) oI h33 J J) L fun a s L=>sw 6 (zb (O 16 J) J J) L fun a s L=>en' ?_;exact hKL16 k15 a s (Nat.lt_succ_self _) ⟨(l11++[(min 2 w29)]),(k13+1),og32,L.keep (.k 1 (.k 2 (.cons (t:=5) J (fun _ _ h_=>h_) (.k 6 .nil)))),h⟩
  refine cnd L J (fun hb_=>?_) (fun hb_=>?_)
  ·replace h:=h.1 hb_;refine rg (sw 8 (zb oI J J) L fun a s L=>?_);refine en' ?_;exact J30 1 a s (L.keep (.k 1 (.k 2 (.cons (t:=5) J (fun _ _ h_=>h_) (.k 6 (.k 8 .nil)))))) h
  ·replace h:=h.2 hb_;refine wp_seq_k fun K34 H34=>rg (sw 27 (zbt (O 23 J) oI J J) L fun a s L=>?_);refine sw 26 (zb (O 27 J) J J) L fun a s L=>en' (H34 _ _ ?_);refine cnd L J (fun hb_=>?_) (fun hb_=>?_)
   ·obtain ⟨e35,h36,e37,h38,h39,h⟩:=h.1 hb_;refine rda zcm 11 [(Pd.row (En.int .i64) s0.w.heap.size 3 og12 l11),(Pd.optr (En.int .i64) s0.w.heap.size (some g23) (1) e21.2.1),(Pi e21.2.1),(Pd.optr (En.int .i64) s0.w.heap.size og12 ((e21.2.1:Int).toNat*(En.int .i64).sz) e35),(Pi e35),(Pd.row (En.int .i64) s0.w.heap.size 3 og12 l11),(Pd.optr (En.int .i64) s0.w.heap.size (some g23) (2) e21.2.2.1),(Pi e21.2.2.1),(Pd.optr (En.int .i64) s0.w.heap.size og12 ((e21.2.2.1:Int).toNat*(En.int .i64).sz) e37),(Pi e37),(Pi (e35*e37))] L (by kernel_rfl) J J ?_ ?_
    ·refine z8.cons (zd (O 5 J) J J) ?_;refine z8.cons (zbj (off:=1) (O 7 J) U68 J (ze (zm (zh _ _)) J) J ty3 J J) (z8.cons (zp ty3 (O 29 J) J J) ?_);refine z8.cons (zca (O 28 J) (O 30 J) h36 U91 ty3 J J) (z8.cons (zp ty3 (O 31 J) J J) ?_);refine z8.cons (zd (O 5 J) J J) (z8.cons (zbj (off:=2) (O 7 J) U68 J (ze (ze (zm (zh _ _)) J) J) J ty3 J J) ?_);refine z8.cons (zp ty3 (O 34 J) J J) (z8.cons (zca (O 33 J) (O 35 J) h38 U91 ty3 J J) ?_);refine z8.cons (zp ty3 (O 36 J) J J) (z8.cons (zk3 (O 32 J) (O 37 J) h39 J J) ?_);exact z8.nil
    intro a s _ L;refine sw 8 (zb (O 38 J) J J) L fun a s L=>en' ?_;exact J30 (e35*e37) a s (L.keep (.k 1 (.k 2 (.cons (t:=5) J (fun _ _ h_=>h_) (.k 6 (.k 8 .nil)))))) h
   ·replace h:=h.2 hb_;refine wp_seq_k fun K40 H40=>rg (sw 40 (zbt (O 23 J) oI J J) L fun a s L=>?_);refine sw 39 (zb (O 40 J) J J) L fun a s L=>en' (H40 _ _ ?_);refine cnd L J (fun hb_=>?_) (fun hb_=>?_)
    ·obtain ⟨e41,h42,e43,h44,h45,h⟩:=h.1 hb_;refine rda zcm 11 [(Pd.row (En.int .i64) s0.w.heap.size 3 og12 l11),(Pd.optr (En.int .i64) s0.w.heap.size (some g23) (1) e21.2.1),(Pi e21.2.1),(Pd.optr (En.int .i64) s0.w.heap.size og12 ((e21.2.1:Int).toNat*(En.int .i64).sz) e41),(Pi e41),(Pd.row (En.int .i64) s0.w.heap.size 3 og12 l11),(Pd.optr (En.int .i64) s0.w.heap.size (some g23) (2) e21.2.2.1),(Pi e21.2.2.1),(Pd.optr (En.int .i64) s0.w.heap.size og12 ((e21.2.2.1:Int).toNat*(En.int .i64).sz) e43),(Pi e43),(Pi (e41+e43))] L (by kernel_rfl) J J ?_ ?_
     ·refine z8.cons (zd (O 5 J) J J) ?_;refine z8.cons (zbj (off:=1) (O 7 J) U68 J (ze (zm (zh _ _)) J) J ty3 J J) (z8.cons (zp ty3 (O 42 J) J J) ?_);refine z8.cons (zca (O 41 J) (O 43 J) h42 U91 ty3 J J) (z8.cons (zp ty3 (O 44 J) J J) ?_);refine z8.cons (zd (O 5 J) J J) (z8.cons (zbj (off:=2) (O 7 J) U68 J (ze (ze (zm (zh _ _)) J) J) J ty3 J J) ?_);refine z8.cons (zp ty3 (O 47 J) J J) (z8.cons (zca (O 46 J) (O 48 J) h44 U91 ty3 J J) ?_);refine z8.cons (zp ty3 (O 49 J) J J) (z8.cons (zbk (O 45 J) (O 50 J) h45 J J) ?_);exact z8.nil
     intro a s _ L;refine sw 8 (zb (O 51 J) J J) L fun a s L=>en' ?_;exact J30 (e41+e43) a s (L.keep (.k 1 (.k 2 (.cons (t:=5) J (fun _ _ h_=>h_) (.k 6 (.k 8 .nil)))))) h
    ·replace h:=h.2 hb_;refine wp_seq_k fun K46 H46=>rg (sw 53 (zbt (O 23 J) oI J J) L fun a s L=>?_);refine sw 52 (zb (O 53 J) J J) L fun a s L=>en' (H46 _ _ ?_);refine cnd L J (fun hb_=>?_) (fun hb_=>?_)
     ·replace h:=h.1 hb_;refine wp_seq_k fun K47 H47=>rg (sw 8 (zb oI J J) L fun a s L=>?_);refine en' (H47 _ _ ?_);refine wp_seq_k fun K48 H48=>?_;obtain ⟨e49,h50,h⟩:=h;refine rg (sw 54 (zd (O 5 J) J J) L fun a s L=>?_);refine sw 55 (zbj (off:=1) (O 7 J) U68 J (ze (zm (zh _ _)) J) J ty3 J J) L fun a s L=>sw 56 (zp ty3 (O 55 J) J J) L fun a s L=>sw 57 (zca (O 54 J) (O 56 J) h50 U91 ty3 J J) L fun a s L=>sw 58 (zp ty3 (O 57 J) J J) L fun a s L=>sw 59 (zhd (O 58 J) oI J J) L fun a s L=>en' (H48 _ _ ?_);refine cnd L J (fun hb_=>?_) (fun hb_=>?_)
      ·replace h:=h.1 hb_;refine rg (sw 8 (zb oI J J) L fun a s L=>?_);refine en' ?_;exact J30 2 a s (L.keep (.k 1 (.k 2 (.cons (t:=5) J (fun _ _ h_=>h_) (.k 6 (.k 8 .nil)))))) h
      ·replace h:=h.2 hb_;refine wp_skip ?_;exact J30 1 a s (L.keep (.k 1 (.k 2 (.cons (t:=5) J (fun _ _ h_=>h_) (.k 6 (.k 8 .nil)))))) h
     ·replace h:=h.2 hb_;refine wp_seq_k fun K51 H51=>rg (sw 61 (zbt (O 23 J) oI J J) L fun a s L=>?_);refine sw 60 (zb (O 61 J) J J) L fun a s L=>en' (H51 _ _ ?_);refine cnd L J (fun hb_=>?_) (fun hb_=>?_)
      ·replace h:=h.1 hb_;refine wp_seq_k fun K52 H52=>rg (sw 62 (zbj (off:=3) (O 7 J) U68 J (ze (ze (ze (zm (zh _ _)) J) J) J) J ty3 J J) L fun a s L=>?_);refine sw 63 (zp ty3 (O 62 J) J J) L fun a s L=>sw 9 (zb (O 63 J) J J) L fun a s L=>en' (H52 _ _ ?_);refine wp_block ?_;obtain ⟨k55,h⟩:=h;refine lpg (fun k56 a s=>∃(w53:Int) (t54:Int),Has N0 96 s0 a s [(1,(Pi i_)),(2,(Pd.ptr En.SDesc d_)),(5,(Pd.row (En.int .i64) s0.w.heap.size 3 og12 l11)),(6,(Pi k13)),(7,(Pd.box En.SNode s0.w.heap.size g23 e21)),(8,(Pi w53)),(9,(Pi t54))]∧Dis og12 (some g23)∧zu.l2 l11 e21 (zu.j2 (zu.l1 d_ i_ (zu.j1 i_ r_) k15) l11 k13) k56 w53 t54) k55 ⟨0,e21.2.2.2.1,L.keep (.k 1 (.k 2 (.cons (t:=5) J (fun _ _ h_=>h_) (.k 6 (.cons (t:=7) J (fun _ _ h_=>h_) (.k 8 (.k 9 .nil))))))),(Dis.symm d24),h⟩ ?_;rintro k56 a s ⟨w53,t54,L,d58,h⟩ KL57 hKL57;cases k56 with
       | zero=>exact h.elim
       | succ k56=>
       unfold zu.l2 at h;refine wp_seq_k fun K59 H59=>wp_seq_k fun K60 H60=>rg (sw 64 (zd (O 9 J) J J) L fun a s L=>?_);refine sw 65 (zbj (off:=4) (O 7 J) U68 J (ze (ze (ze (ze (zm (zh _ _)) J) J) J) J) J ty3 J J) L fun a s L=>sw 66 (zp ty3 (O 65 J) J J) L fun a s L=>sw 67 (zji (O 64 J) (O 66 J) J J) L fun a s L=>en' (H60 _ _ ?_);refine cnd L J (fun hb_=>?_) (fun hb_=>?_)
       ·replace h:=h.1 hb_;refine wp_skip ?_;show K59 a s.w;refine H59 _ _ (wp_seq_k fun K61 H61=>?_);refine wp_block (wp_seq_k fun K62 H62=>?_);refine rg (sw 10 (zb oI J J) L fun a s L=>?_);refine en' (H62 _ _ ?_);refine wp_seq_k fun K63 H63=>wp_seq_k fun K64 H64=>rg (sw 11 (zb oI J J) L fun a s L=>?_);refine en' (H64 _ _ ?_);refine wp_block ?_;have J66:∀(p65:Int) (a:Act) (s:St),Has N0 96 s0 a s [(1,(Pi i_)),(2,(Pd.ptr En.SDesc d_)),(5,(Pd.row (En.int .i64) s0.w.heap.size 3 og12 l11)),(6,(Pi k13)),(7,(Pd.box En.SNode s0.w.heap.size g23 e21)),(8,(Pi w53)),(9,(Pi t54)),(10,(Pi p65))]→Dis og12 (some g23)→((zu.j3 (zu.l2 l11 e21 (zu.j2 (zu.l1 d_ i_ (zu.j1 i_ r_) k15) l11 k13) k56) w53 t54) p65)→K63 a s.w:=by
         intro p65 a s L d67 h;unfold zu.j3 at h;show K63 a s.w;refine H63 _ _ ?_;obtain ⟨h68,h⟩:=h;refine rg (sw 83 (zd (O 8 J) J J) L fun a s L=>?_);refine sw 84 (zd (O 10 J) J J) L fun a s L=>sw 85 (zbk (O 83 J) (O 84 J) h68 J J) L fun a s L=>sw 86 (zpn oI (O 85 J) J J) L fun a s L=>sw 8 (zb (O 86 J) J J) L fun a s L=>en' (H61 _ _ ?_);obtain ⟨h69,h⟩:=h;refine rg (sw 68 (zd (O 9 J) J J) L fun a s L=>?_);refine sw 69 (zbk (O 68 J) oI h69 J J) L fun a s L=>sw 9 (zb (O 69 J) J J) L fun a s L=>en' ?_;exact hKL57 k56 a s (Nat.lt_succ_self _) ⟨(min 2 (w53+p65)),(t54+1),L.keep (.k 1 (.k 2 (.cons (t:=5) J (fun _ _ h_=>h_) (.k 6 (.cons (t:=7) J (fun _ _ h_=>h_) (.k 8 (.k 9 .nil))))))),d67,h⟩
        obtain ⟨k72,h⟩:=h;refine lpg (fun k73 a s=>∃(p70:Int) (m71:Int),Has N0 96 s0 a s [(1,(Pi i_)),(2,(Pd.ptr En.SDesc d_)),(5,(Pd.row (En.int .i64) s0.w.heap.size 3 og12 l11)),(6,(Pi k13)),(7,(Pd.box En.SNode s0.w.heap.size g23 e21)),(8,(Pi w53)),(9,(Pi t54)),(10,(Pi p70)),(11,(Pi m71))]∧Dis og12 (some g23)∧zu.l3 l11 e21 t54 (zu.j3 (zu.l2 l11 e21 (zu.j2 (zu.l1 d_ i_ (zu.j1 i_ r_) k15) l11 k13) k56) w53 t54) k73 p70 m71) k72 ⟨1,0,L.keep (.k 1 (.k 2 (.cons (t:=5) J (fun _ _ h_=>h_) (.k 6 (.cons (t:=7) J (fun _ _ h_=>h_) (.k 8 (.k 9 (.k 10 (.k 11 .nil))))))))),d58,h⟩ ?_;rintro k73 a s ⟨p70,m71,L,d75,h⟩ KL74 hKL74;cases k73 with
        | zero=>exact h.elim
        | succ k73=>
        unfold zu.l3 at h;refine wp_seq_k fun K76 H76=>wp_seq_k fun K77 H77=>rg (sw 70 (zd (O 11 J) J J) L fun a s L=>?_);refine sw 71 (zd (O 9 J) J J) L fun a s L=>sw 72 (zbz (O 70 J) (O 71 J) J J) L fun a s L=>en' (H77 _ _ ?_);refine cnd L J (fun hb_=>?_) (fun hb_=>?_)
        ·replace h:=h.1 hb_;refine wp_skip ?_;show K76 a s.w;refine H76 _ _ (wp_seq_k fun K78 H78=>?_);refine wp_block ?_;obtain ⟨e79,h80,h81,h⟩:=h;refine rg (sw 75 (zd (O 10 J) J J) L fun a s L=>?_);refine sw 76 (zd (O 5 J) J J) L fun a s L=>sw 77 (zbj (off:=1) (O 7 J) U68 J (ze (zm (zh _ _)) J) J ty3 J J) L fun a s L=>sw 78 (zp ty3 (O 77 J) J J) L fun a s L=>sw 79 (zca (O 76 J) (O 78 J) h80 U91 ty3 J J) L fun a s L=>sw 80 (zp ty3 (O 79 J) J J) L fun a s L=>sw 81 (zk3 (O 75 J) (O 80 J) h81 J J) L fun a s L=>sw 82 (zpn oI (O 81 J) J J) L fun a s L=>sw 10 (zb (O 82 J) J J) L fun a s L=>en' (H78 _ _ ?_);obtain ⟨h82,h⟩:=h;refine rg (sw 73 (zd (O 11 J) J J) L fun a s L=>?_);refine sw 74 (zbk (O 73 J) oI h82 J J) L fun a s L=>sw 11 (zb (O 74 J) J J) L fun a s L=>en' ?_;exact hKL74 k73 a s (Nat.lt_succ_self _) ⟨(min 2 (p70*e79)),(m71+1),L.keep (.k 1 (.k 2 (.cons (t:=5) J (fun _ _ h_=>h_) (.k 6 (.cons (t:=7) J (fun _ _ h_=>h_) (.k 8 (.k 9 (.k 10 (.k 11 .nil))))))))),d75,h⟩
        ·replace h:=h.2 hb_;refine wp_exit ?_;exact J66 p70 a s (L.keep (.k 1 (.k 2 (.cons (t:=5) J (fun _ _ h_=>h_) (.k 6 (.cons (t:=7) J (fun _ _ h_=>h_) (.k 8 (.k 9 (.k 10 .nil))))))))) d75 h
       ·replace h:=h.2 hb_;refine wp_exit ?_;exact J30 w53 a s (L.keep (.k 1 (.k 2 (.cons (t:=5) J (fun _ _ h_=>h_) (.k 6 (.k 8 .nil)))))) h
      ·replace h:=h.2 hb_;refine wp_skip ?_;exact J30 0 a s (L.keep (.k 1 (.k 2 (.cons (t:=5) J (fun _ _ h_=>h_) (.k 6 (.k 8 .nil)))))) h
 ·replace h:=h.2 hb_;refine wp_exit ?_;exact J7 l11 og12 a s (L.keep (.k 1 (.cons (t:=5) J (fun _ _ h_=>h_) .nil))) h
theorem zoe {d_:SDesc} {r_:(Int × Bool)} (h:zcc d_ r_):Fn Tryz.prog 50 [(Pd.rep En.SDesc d_)] (Rq2 (Pi r_.1) (Pd.rep En.bool r_.2)):=by
 unfold zcc at h;refine zbx Tryz.func50 J Tryz.ntmps50 (by rfl) (by simp) fun s0 a L=>?_;refine wp_seq_k fun K1 H1=>rg (sw 1 (zcu (O 0 J) J J) L fun a s L=>?_);refine sw 2 (zb oI J J) L fun a s L=>sw 3 (zb o_b J J) L fun a s L=>en' (H1 _ _ ?_);refine wp_seq_k fun K2 H2=>wp_seq_k fun K3 H3=>rg (sw 4 (zb oI J J) L fun a s L=>?_);refine en' (H3 _ _ ?_);refine wp_block ?_;have J4:∀(a:Act) (s:St),Has N0 37 s0 a s []→((zcc.j1 r_))→K2 a s.w:=by
  intro a s L h;unfold zcc.j1 at h;show K2 a s.w;refine H2 _ _ (wp_seq_k fun K5 H5=>?_);refine rg (sw 2 (zb oI J J) L fun a s L=>?_);refine sw 3 (zb o_b J J) L fun a s L=>en' (H5 _ _ ?_);subst h;exact wp_ret (ret2 J L J J)
 obtain ⟨k7,h⟩:=h;refine lpg (fun k8 a s=>∃(i6:Int),Has N0 37 s0 a s [(1,(Pd.ptr En.SDesc d_)),(4,(Pi i6))]∧zcc.l1 d_ r_ (zcc.j1 r_) k8 i6) k7 ⟨0,L.keep (.k 1 (.k 4 .nil)),h⟩ ?_;rintro k8 a s ⟨i6,L,h⟩ KL9 hKL9;cases k8 with
 | zero=>exact h.elim
 | succ k8=>
 unfold zcc.l1 at h;refine wp_seq_k fun K10 H10=>wp_seq_k fun K11 H11=>rg (sw 6 (zd (O 4 J) J J) L fun a s L=>?_);refine sw 7 (zc0 (off:=0) (O 1 J) U24 J (zbw (zh _ _)) J zfj J J) L fun a s L=>sw 8 (zt zfj (O 7 J) J J) L fun a s L=>sw 9 (zc8 (O 8 J) U22 J J) L fun a s L=>sw 10 (zbz (O 6 J) (O 9 J) J J) L fun a s L=>en' (H11 _ _ ?_);refine cnd L J (fun hb_=>?_) (fun hb_=>?_)
 ·replace h:=h.1 hb_;refine wp_skip ?_;show K10 a s.w;refine H10 _ _ (wp_seq_k fun K12 H12=>?_);refine wp_block (wp_seq_k fun K13 H13=>?_);obtain ⟨e14,h15,h⟩:=h;refine rg (sw 13 (zc0 (off:=0) (O 1 J) U24 J (zbw (zh _ _)) J zfj J J) L fun a s L=>?_);refine sw 14 (zt zfj (O 13 J) J J) L fun a s L=>sw 15 (zd (O 4 J) J J) L fun a s L=>sw 16 (zde (O 14 J) (O 15 J) h15 U22 zfi J J) L fun a s L=>sw 17 (zc0 (off:=0) (O 16 J) U68 J (zm (zh _ _)) J ty3 J J) L fun a s L=>sw 18 (zt ty3 (O 17 J) J J) L fun a s L=>sw 5 (zb (O 18 J) J J) L fun a s L=>en' (H13 _ _ ?_);refine wp_seq_k fun K16 H16=>?_;obtain ⟨e17,h18,r19,h20,h⟩:=h;refine rda zcm 17 [(Pi e14.1),(Pd.rep En.bool (e14.1==6)),(Pd.rep En.bool (e14.1==6)),(Pd.when (((e14.1==6))=false) (Pi e14.1)),(Pd.when (((e14.1==6))=false) (Pd.rep En.bool (e14.1==7))),(Pd.rep En.bool ((e14.1==6)||(e14.1==7))),(Pd.rep En.bool ((e14.1==6)||(e14.1==7))),(Pd.when ((((e14.1==6)||(e14.1==7)))=true) (Pd.rep En.SDesc d_)),(Pd.when ((((e14.1==6)||(e14.1==7)))=true) (Pd.ptr (En.slice En.SNode) d_)),(Pd.when ((((e14.1==6)||(e14.1==7)))=true) (Pd.rep (En.slice En.SNode) d_)),(Pd.when ((((e14.1==6)||(e14.1==7)))=true) (Pi i6)),(Pd.when ((((e14.1==6)||(e14.1==7)))=true) (Pd.ptr En.SNode e17)),(Pd.when ((((e14.1==6)||(e14.1==7)))=true) (Pd.ptr (En.int .i64) e17.2.1)),(Pd.when ((((e14.1==6)||(e14.1==7)))=true) (Pi e17.2.1)),(Pd.when ((((e14.1==6)||(e14.1==7)))=true) (Pi r19)),(Pd.when ((((e14.1==6)||(e14.1==7)))=true) (Pd.rep En.bool (r19 != 0))),(Pd.rep En.bool (((e14.1==6)||(e14.1==7))&&(r19 != 0)))] L (by kernel_rfl) J J ?_ ?_
  ·refine z8.cons (zd (O 5 J) J J) ?_;refine z8.cons (zbt (O 19 J) oI J J) (z8.cons (zd (O 20 J) J J) ?_);refine z8.cons (zbg J J J (fun hc_=>zd (O 5 J) J J)) (z8.cons (zbg J J J (fun hc_=>zbt (o_w hc_ 22 J) oI J J)) ?_);refine z8.cons (zox (O 21 J) (fun hc2_=>(o_w hc2_ 23 J)) J J) (z8.cons (zd (O 24 J) J J) ?_);refine z8.cons (zbg J J J (fun hc_=>zt zfl (O 1 J) J J)) (z8.cons (zbg J J J (fun hc_=>zc0 (off:=0) (O 1 J) U24 J (zbw (zh _ _)) J zfj J J)) ?_);refine z8.cons (zbg J J J (fun hc_=>zt zfj (o_w hc_ 27 J) J J)) (z8.cons (zbg J J J (fun hc_=>zd (O 4 J) J J)) ?_);refine z8.cons (zbg J J J (fun hc_=>zde (o_w hc_ 28 J) (o_w hc_ 29 J) (h18 hc_) U22 zfi J J)) (z8.cons (zbg J J J (fun hc_=>zc0 (off:=1) (o_w hc_ 30 J) U68 J (ze (zm (zh _ _)) J) J ty3 J J)) ?_);refine z8.cons (zbg J J J (fun hc_=>zt ty3 (o_w hc_ 31 J) J J)) (z8.cons (zbg J J J (fun hc_=>zy (zp1 (h20 hc_)) (xs:=[.tmp 26,.tmp 32]) (.cons (o_w hc_ 26 J) (.cons (o_w hc_ 32 J) .nil)) J J)) ?_);refine z8.cons (zbg J J J (fun hc_=>zl1 (o_w hc_ 33 J) oI J J)) (z8.cons (zc1 (O 25 J) (fun hc2_=>(o_w hc2_ 34 J)) J J) ?_);exact z8.nil
  intro a s _ L;refine en' (H16 _ _ ?_);refine cnd L J (fun hb_=>?_) (fun hb_=>?_)
  ·replace h:=h.1 hb_;refine wp_seq_k fun K21 H21=>rg (sw 36 (zd (O 4 J) J J) L fun a s L=>?_);refine sw 2 (zb (O 36 J) J J) L fun a s L=>sw 3 (zb o_b J J) L fun a s L=>en' (H21 _ _ ?_);subst h;exact wp_ret (ret2 J L J J)
  ·replace h:=h.2 hb_;refine wp_skip ?_;show K12 a s.w;refine H12 _ _ ?_;obtain ⟨h22,h⟩:=h;refine rg (sw 11 (zd (O 4 J) J J) L fun a s L=>?_);refine sw 12 (zbk (O 11 J) oI h22 J J) L fun a s L=>sw 4 (zb (O 12 J) J J) L fun a s L=>en' ?_;exact hKL9 k8 a s (Nat.lt_succ_self _) ⟨(i6+1),L.keep (.k 1 (.k 4 .nil)),h⟩
 ·replace h:=h.2 hb_;refine wp_exit ?_;exact J4 a s (L.keep .nil) h
theorem zod {d_:SDesc} {r_:Bool} (h:zhx d_ r_):Fn Tryz.prog 14 [(Pd.rep En.SDesc d_)] (Rq (Pd.rep En.bool r_)):=by
 unfold zhx at h;refine zbx Tryz.func14 J Tryz.ntmps14 (by rfl) (by simp) fun s0 a L=>?_;refine wp_seq_k fun K1 H1=>rg (sw 1 (zcu (O 0 J) J J) L fun a s L=>?_);refine sw 2 (zb o_b J J) L fun a s L=>en' (H1 _ _ ?_);refine wp_seq_k fun K2 H2=>wp_seq_k fun K3 H3=>?_;obtain ⟨r4,h5,h⟩:=h;refine rg (sw 5 (zt zfl (O 1 J) J J) L fun a s L=>?_);refine sw 6 (zy (zp6 h5) (xs:=[.tmp 5]) (.cons (O 5 J) .nil) J J) L fun a s L=>sw 7 (zia (O 6 J) J J) L fun a s L=>en' (H3 _ _ ?_);refine cnd L J (fun hb_=>?_) (fun hb_=>?_)
 ·replace h:=h.1 hb_;refine wp_seq_k fun K6 H6=>rg (sw 2 (zb o_b J J) L fun a s L=>?_);refine en' (H6 _ _ ?_);subst h;exact wp_ret (zdu J L J)
 ·replace h:=h.2 hb_;refine wp_skip ?_;show K2 a s.w;refine H2 _ _ (wp_seq_k fun K7 H7=>?_);obtain ⟨r8,h9,h⟩:=h;refine rg (sw 9 (zt zfl (O 1 J) J J) L fun a s L=>?_);refine sw 10 (zy ((zoe h9).tup) (xs:=[.tmp 9]) (.cons (O 9 J) .nil) J J) L fun a s L=>sw 8 (zd (O 10 J) J J) L fun a s L=>sw 11 (zj6 (O 8 J) J J) L fun a s L=>sw 12 (zie (O 8 J) J J) L fun a s L=>sw 3 (zb (O 11 J) J J) L fun a s L=>sw 4 (zb (O 12 J) J J) L fun a s L=>en' (H7 _ _ ?_);refine wp_seq_k fun K10 H10=>rg (sw 13 (zd (O 4 J) J J) L fun a s L=>?_);refine sw 14 (zia (O 13 J) J J) L fun a s L=>sw 2 (zb (O 14 J) J J) L fun a s L=>en' (H10 _ _ ?_);subst h;exact wp_ret (zdu J L J)
def zdv (x_:SItem) (y_:SItem) (r_:Int):Prop:=∃r3:Int,zc5 x_.1 y_.1 r3∧∃r5:Int,zc5 x_.2.1 y_.2.1 r5∧∃r7:Int,zc5 x_.2.2.1 y_.2.2.1 r7∧∃r9:Int,zc5 x_.2.2.2 y_.2.2.2 r9∧∃r11:Int,zcx [r3,r5,r7,r9] r11∧r_=r11
def zf1 (a_:(List SItem)) (b_:(List SItem)) (r_:Int):Prop:=∃r4:Int,zc5 (a_.length:Int) (b_.length:Int) r4∧(((r4 != 0))=true→r_=r4)∧(((r4 != 0))=false→∃r9:Int,zi a_ b_ (fun q_=>zdv q_.1 q_.2.1 q_.2.2) r9∧r_=r9)
def zcr.j1 (r_:((List SItem) × Bool)) (out8:(List SItem)):Prop:=r_=(out8,true)
def zcr.l1 (r3:(List SItem)) (r_:((List SItem) × Bool)) (X1:(List SItem)→Prop):Nat→(List SItem)→Int→Prop
 | 0,_,_=>False
 | k_0+1,out12,v14=>((decide (v14<(r3.length:Int)))=true→∃e22:SItem,at? out12 v14=some e22∧(((e22.1 != 5))=true→(InR .i64 (v14+1))∧zcr.l1 r3 r_ X1 k_0 out12 (v14+1))∧(((e22.1 != 5))=false→((decide (e22.2.2.1≤0))=true→r_=(([]:(List SItem)),false))∧((decide (e22.2.2.1≤0))=false→∃e32:SItem,at? out12 v14=some e32∧(InR .i64 (e32.2.2.1-1))∧∃e35:SItem,at? out12 v14=some e35∧(InR .i64 (v14+1))∧zcr.l1 r3 r_ X1 k_0 (out12.set (v14:Int).toNat (e35.1,e35.2.1,e32.2.2.1-1,e35.2.2.2)) (v14+1))))∧((decide (v14<(r3.length:Int)))=false→X1 out12)
def zcr (s_:(List SItem)) (r_:((List SItem) × Bool)):Prop:=∃r3:(List SItem),zb9 s_ r3∧∃k15,zcr.l1 r3 r_ (zcr.j1 r_) k15 r3 0
def zje (d_:SDesc) (r_:(List SItem)):Prop:=(InR .i64 ((d_.length:Int)-1))∧r_=[(1,(d_.length:Int)-1,0,0)]
def zdf.j1 (r_:(List Int)) (out6:(List Int)):Prop:=r_=out6
def zdf.l1 (s_:(List SItem)) (X1:(List Int)→Prop):Nat→(List Int)→Int→Prop
 | 0,_,_=>False
 | k_0+1,out10,i12=>((decide (i12<(s_.length:Int)))=true→∃e19:SItem,at? s_ i12=some e19∧∃e21:SItem,at? s_ i12=some e21∧∃e23:SItem,at? s_ i12=some e23∧∃e25:SItem,at? s_ i12=some e25∧(out10.length+[e19.1,e21.2.1,e23.2.2.1,e25.2.2.2].length≤2147483648)∧(InR .i64 (i12+1))∧zdf.l1 s_ X1 k_0 (out10++[e19.1,e21.2.1,e23.2.2.1,e25.2.2.2]) (i12+1))∧((decide (i12<(s_.length:Int)))=false→X1 out10)
def zdf (s_:(List SItem)) (r_:(List Int)):Prop:=∃k13,zdf.l1 s_ (zdf.j1 r_) k13 [(s_.length:Int)] 0
def zc2.j1 (r_:Int):Prop:=r_=0
def zc2.l1 (r3:(List Int)) (r6:(List Int)) (r_:Int) (X1:Prop):Nat→Int→Prop
 | 0,_=>False
 | k_0+1,i12=>∃b18:Bool,b18=((decide (i12<(r3.length:Int)))&&(decide (i12<(r6.length:Int))))∧((b18)=true→∃e23:Int,at? r3 i12=some e23∧∃e25:Int,at? r6 i12=some e25∧((decide (e23<e25))=true→r_=(-1))∧((decide (e23<e25))=false→∃e29:Int,at? r3 i12=some e29∧∃e31:Int,at? r6 i12=some e31∧((decide (e31<e29))=true→r_=1)∧((decide (e31<e29))=false→(InR .i64 (i12+1))∧zc2.l1 r3 r6 r_ X1 k_0 (i12+1))))∧((b18)=false→X1)
def zc2 (a_:(List SItem)) (b_:(List SItem)) (r_:Int):Prop:=∃r3:(List Int),zdf a_ r3∧∃r6:(List Int),zdf b_ r6∧∃k13,zc2.l1 r3 r6 r_ (zc2.j1 r_) k13 0
def zb5.j1 (r_:((List SItem) × Bool)) (out5:(List SItem)):Prop:=r_=(out5,true)
def zb5.j2 (L1_:(List SItem)→Int→Prop) (out9:(List SItem)) (i11:Int) (x25:SItem):Prop:=(out9.length+[x25].length≤2147483648)∧(InR .i64 (i11+1))∧L1_ (out9++[x25]) (i11+1)
def zb5.l1 (s_:(List SItem)) (r_:((List SItem) × Bool)) (X1:(List SItem)→Prop):Nat→(List SItem)→Int→Prop
 | 0,_,_=>False
 | k_0+1,out9,i11=>((decide (i11<(s_.length:Int)))=true→∃e19:SItem,at? s_ i11=some e19∧(((e19.1==5))=true→((decide (e19.2.2.1≤0))=true→r_=(([]:(List SItem)),false))∧((decide (e19.2.2.1≤0))=false→(InR .i64 (e19.2.2.1-1))∧(zb5.j2 (zb5.l1 s_ r_ X1 k_0) out9 i11) (e19.1,e19.2.1,e19.2.2.1-1,e19.2.2.2)))∧(((e19.1==5))=false→(zb5.j2 (zb5.l1 s_ r_ X1 k_0) out9 i11) e19))∧((decide (i11<(s_.length:Int)))=false→X1 out9)
def zb5 (s_:(List SItem)) (r_:((List SItem) × Bool)):Prop:=∃k12,zb5.l1 s_ r_ (zb5.j1 r_) k12 ([]:(List SItem)) 0
set_option maxRecDepth 100000
theorem zqt {s_:(List SItem)} {r_:((List SItem) × Bool)} (h:zcr s_ r_):Fn Tryz.prog 118 [(Pd.rep (En.slice En.SItem) s_)] (Ro2 En.SItem 77 r_.1 (Pd.rep En.bool r_.2)):=by
 unfold zcr at h;refine zbx Tryz.func118 J Tryz.ntmps118 (by rfl) (by simp) fun s0 a L=>?_;refine wp_seq_k fun K1 H1=>rg (sw 2 (zb (zdg (E:=En.SItem) (N:=s0.w.heap.size) (te:=77)) J J) L fun a s L=>?_);refine sw 3 (zb o_b J J) L fun a s L=>en' (H1 _ _ ?_);refine wp_seq_k fun K2 H2=>?_;obtain ⟨r3,h4,h⟩:=h;refine rg (sw 7 (zd (O 0 J) J J) L fun a s L=>?_);refine zfx 8 L (zdo h4) (xs:=[.tmp 7]) (.cons (O 7 J) .nil) J J J J fun a s og5 hg_ L=>?_;refine sw 4 (zb (O 8 J) J J) L fun a s L=>en' (H2 _ _ ?_);refine wp_seq_k fun K6 H6=>wp_seq_k fun K7 H7=>rg (sw 9 (zd (O 4 J) J J) L fun a s L=>?_);refine sw 10 (zjl (O 9 J) U47 J J) L fun a s L=>sw 11 (zd oI J J) L fun a s L=>en' (H7 _ _ ?_);refine wp_block ?_;have J10:∀(out8:(List SItem)) (og9:Option Nat) (a:Act) (s:St),Has N0 32 s0 a s [(4,(Pd.row En.SItem s0.w.heap.size 77 og9 out8))]→((zcr.j1 r_) out8)→K6 a s.w:=by
  intro out8 og9 a s L h;unfold zcr.j1 at h;show K6 a s.w;refine H6 _ _ (wp_seq_k fun K11 H11=>?_);refine rg (sw 31 (zd (O 4 J) J J) L fun a s L=>?_);refine sw 2 (zb (O 31 J) J J) L fun a s L=>sw 3 (zb o_b J J) L fun a s L=>en' (H11 _ _ ?_);subst h;exact wp_ret (zl2 J L J J)
 obtain ⟨k15,h⟩:=h;refine lpg (fun k16 a s=>∃(out12:(List SItem)) (v14:Int) (og13:Option Nat),Has N0 32 s0 a s [(4,(Pd.row En.SItem s0.w.heap.size 77 og13 out12)),(9,(Pd.row En.SItem s0.w.heap.size 77 og13 out12)),(10,(Pi (r3.length:Int))),(11,(Pi v14))]∧zcr.l1 r3 r_ (zcr.j1 r_) k16 out12 v14) k15 ⟨r3,0,og5,L.keep (.cons (t:=4) J (fun _ _ h_=>h_) (.cons (t:=9) J (fun _ _ h_=>h_) (.k 10 (.k 11 .nil)))),h⟩ ?_;rintro k16 a s ⟨out12,v14,og13,L,h⟩ KL17 hKL17;cases k16 with
 | zero=>exact h.elim
 | succ k16=>
 unfold zcr.l1 at h;refine wp_seq_k fun K18 H18=>rg (sw 12 (zbz (O 11 J) (O 10 J) J J) L fun a s L=>?_);refine en' (H18 _ _ ?_);refine wp_seq_k fun K19 H19=>cnd L J (fun hb_=>?_) (fun hb_=>?_)
 ·replace h:=h.1 hb_;refine wp_skip ?_;show K19 a s.w;refine H19 _ _ (wp_seq_k fun K20 H20=>?_);refine wp_block (wp_seq_k fun K21 H21=>?_);obtain ⟨e22,h23,h⟩:=h;refine rg (sw 13 (zd (O 11 J) J J) L fun a s L=>?_);refine sw 14 (zca (O 9 J) (O 11 J) h23 U47 zfk J J) L fun a s L=>sw 15 (zp zfk (O 14 J) J J) L fun a s L=>?_;have lt_d25:=L.rlt 4 rfl;refine zbf En.SItem (z:=(0,0,0,0)) 6 L zic J J J J fun a s g24 hg_ L=>?_;have d25:Dis (some g24) og13:=Dis.newg hg_ lt_d25;refine sw 5 (zb (O 13 J) J J) L fun a s L=>zby (L':=[(4,(Pd.row En.SItem s0.w.heap.size 77 og13 out12)),(5,(Pi v14)),(9,(Pd.row En.SItem s0.w.heap.size 77 og13 out12)),(10,(Pi (r3.length:Int))),(11,(Pi v14))]) 6 L J (O 15 J) zfk J J J (.cons (t:=4) J (Dis.ow (Dis.symm d25)) (.k 5 (.cons (t:=9) J (Dis.ow (Dis.symm d25)) (.k 10 (.k 11 .nil))))) fun s L=>?_;refine en' (H21 _ _ ?_);refine wp_seq_k fun K26 H26=>wp_seq_k fun K27 H27=>rg (sw 16 (zbj (off:=0) (O 6 J) U77 J (zm (zh _ _)) J ty3 J J) L fun a s L=>?_);refine sw 17 (zp ty3 (O 16 J) J J) L fun a s L=>sw 18 (zl1 (O 17 J) oI J J) L fun a s L=>en' (H27 _ _ ?_);refine cnd L J (fun hb_=>?_) (fun hb_=>?_)
  ·replace h:=h.1 hb_;refine wp_exit ?_;show K20 a s.w;refine H20 _ _ ?_;obtain ⟨h28,h⟩:=h;refine rg (sw 30 (zbk (O 11 J) oI h28 J J) L fun a s L=>?_);refine sw 11 (zd (O 30 J) J J) L fun a s L=>en' ?_;exact hKL17 k16 a s (Nat.lt_succ_self _) ⟨out12,(v14+1),og13,L.keep (.cons (t:=4) J (fun _ _ h_=>h_) (.cons (t:=9) J (fun _ _ h_=>h_) (.k 10 (.k 11 .nil)))),h⟩
  ·replace h:=h.2 hb_;refine wp_skip ?_;show K26 a s.w;refine H26 _ _ (wp_seq_k fun K29 H29=>?_);refine wp_seq_k fun K30 H30=>rg (sw 19 (zbj (off:=2) (O 6 J) U77 J (ze (ze (zm (zh _ _)) J) J) J ty3 J J) L fun a s L=>?_);refine sw 20 (zp ty3 (O 19 J) J J) L fun a s L=>sw 21 (zji (O 20 J) oI J J) L fun a s L=>en' (H30 _ _ ?_);refine cnd L J (fun hb_=>?_) (fun hb_=>?_)
   ·replace h:=h.1 hb_;refine wp_seq_k fun K31 H31=>rg (sw 2 (zb (zdg (E:=En.SItem) (N:=s0.w.heap.size) (te:=77)) J J) L fun a s L=>?_);refine sw 3 (zb o_b J J) L fun a s L=>en' (H31 _ _ ?_);subst h;exact wp_ret (zl2 J L J J)
   ·replace h:=h.2 hb_;refine wp_skip ?_;show K29 a s.w;refine H29 _ _ ?_;obtain ⟨e32,h33,h34,e35,h36,h⟩:=h;refine rg (sw 22 (zd (O 4 J) J J) L fun a s L=>?_);refine sw 23 (zd (O 5 J) J J) L fun a s L=>sw 24 (zca (O 22 J) (O 23 J) h33 U47 zfk J J) L fun a s L=>sw 25 (t_fao (off:=2) (O 24 J) U77 J (ze (ze (zm (zh _ _)) J) J) J ty3 J J) L fun a s L=>sw 26 (zp ty3 (O 25 J) J J) L fun a s L=>sw 27 (zdy (O 26 J) oI h34 J J) L fun a s L=>sw 28 (zca (O 22 J) (O 23 J) h36 U47 zfk J J) L fun a s L=>sw 29 (t_fao (off:=2) (O 28 J) U77 J (ze (ze (zm (zh _ _)) J) J) J ty3 J J) L fun a s L=>st_stor (L':=[(4,(Pd.row En.SItem s0.w.heap.size 77 og13 (out12.set (v14:Int).toNat (e35.1,e35.2.1,e32.2.2.1-1,e35.2.2.2)))),(9,(Pd.row En.SItem s0.w.heap.size 77 og13 (out12.set (v14:Int).toNat (e35.1,e35.2.1,e32.2.2.1-1,e35.2.2.2)))),(10,(Pi (r3.length:Int))),(11,(Pi v14))]) (off:=2) 4 L J h36 (O 29 J) (O 27 J) (zx (zx (zbi (zz _ _ _)) J) J) ty3 J J J (.turn (t:=4) J (.turn (t:=9) J (.k 10 (.k 11 .nil)))) fun s L=>?_;refine en' (H20 _ _ ?_);obtain ⟨h37,h⟩:=h;refine rg (sw 30 (zbk (O 11 J) oI h37 J J) L fun a s L=>?_);refine sw 11 (zd (O 30 J) J J) L fun a s L=>en' ?_;exact hKL17 k16 a s (Nat.lt_succ_self _) ⟨(out12.set (v14:Int).toNat (e35.1,e35.2.1,e32.2.2.1-1,e35.2.2.2)),(v14+1),og13,L.keep (.cons (t:=4) J (fun _ _ h_=>h_) (.cons (t:=9) J (fun _ _ h_=>h_) (.k 10 (.k 11 .nil)))),h⟩
 ·replace h:=h.2 hb_;refine wp_exit ?_;exact J10 out12 og13 a s (L.keep (.cons (t:=4) J (fun _ _ h_=>h_) .nil)) h
theorem zqs {d_:SDesc} {r_:(List SItem)} (h:zje d_ r_):Fn Tryz.prog 54 [(Pd.rep En.SDesc d_)] (Ro En.SItem 77 r_):=by
 unfold zje at h;refine zbx Tryz.func54 J Tryz.ntmps54 (by rfl) (by simp) fun s0 a L=>?_;refine wp_seq_k fun K1 H1=>rg (sw 1 (zcu (O 0 J) J J) L fun a s L=>?_);refine sw 2 (zb (zdg (E:=En.SItem) (N:=s0.w.heap.size) (te:=77)) J J) L fun a s L=>en' (H1 _ _ ?_);refine wp_seq_k fun K2 H2=>?_;obtain ⟨h3,h⟩:=h;refine rg (sw 3 (zc0 (off:=0) (O 1 J) U24 J (zbw (zh _ _)) J zfj J J) L fun a s L=>?_);refine sw 4 (zt zfj (O 3 J) J J) L fun a s L=>sw 5 (zc8 (O 4 J) U22 J J) L fun a s L=>sw 6 (zdy (O 5 J) oI h3 J J) L fun a s L=>sw 7 (zcb (x:=(1,(d_.length:Int)-1,0,0)) (ps:=[(0,.const (.int .i64 1)),(1,.tmp 6)]) zic J stt77 (.cons (i:=0) oI J (zbi (zz _ _ _)) (.cons (i:=1) (O 6 J) J (zx (zbi (zz _ _ _)) J) .nil)) J J) L fun a s L=>zfp (xs:=[.tmp 7]) 8 L (.cons (O 7 J) .nil) U47 zfk J J (by decide) J J J J fun a s g4 hg_ L=>?_;refine sw 2 (zb (O 8 J) J J) L fun a s L=>en' (H2 _ _ ?_);subst h;exact wp_ret (zjn J L J)
def zjy (d_:SDesc) (s_:(List SItem)) (r_:Bool):Prop:=((((s_.length:Int)==0))=true→r_=true)∧((((s_.length:Int)==0))=false→∃e7:SItem,at? s_ 0=some e7∧(((e7.1==1))=true→∃e13:SNode,at? d_ e7.2.1=some e13∧∃e16:Bool,(((decide (e13.1<10))=true)→at? gdat1 e13.1=some e16)∧r_=((decide (e13.1<10))&&e16))∧(((e7.1==1))=false→(((e7.1==3))=true→(((e7.1==3))=true→r_=true)∧(((e7.1==3))=false→r_=false))∧(((e7.1==3))=false→(((e7.1==4))=true→r_=true)∧(((e7.1==4))=false→r_=false))))
def zcs (rest_:(List SItem)) (list_:(List SItem)) (r_:(List SItem)):Prop:=∃r3:(List SItem),zk [list_,rest_] r3∧r_=r3
def ze7 (i_:Int) (r_:SItem):Prop:=r_=(1,i_,0,0)
def zc6.j1 (r_:(List (List SItem))) (out35:(List (List SItem))):Prop:=r_=out35
def zc6.j2 (s_:(List SItem)) (r_:(List (List SItem))) (e4:SItem) (e9:SNode) (out27:(List (List SItem))):Prop:=((decide (0<e4.2.2.2))=true→∃r39:SItem,ze7 e9.2.1 r39∧(InR .i64 (e4.2.2.1-1))∧(InR .i64 (e4.2.2.2-1))∧∃r43:(List SItem),zcs (s_.drop (1:Int).toNat) [r39,(e4.1,e4.2.1,(max (e4.2.2.1-1) 0),e4.2.2.2-1)] r43∧(out27.length+[r43].length≤2147483648)∧(zc6.j1 r_) (out27++[r43]))∧((decide (0<e4.2.2.2))=false→(zc6.j1 r_) out27)
def zc6 (d_:SDesc) (s_:(List SItem)) (r_:(List (List SItem))):Prop:=∃e4:SItem,at? s_ 0=some e4∧((0:Int)≤1∧1≤(s_.length:Int))∧∃e9:SNode,at? d_ e4.2.1=some e9∧((((e4.1==5)&&(e4.2.2.1==0)))=true→∃r16:(List SItem),zcs (s_.drop (1:Int).toNat) ([]:(List SItem)) r16∧r_=[r16])∧((((e4.1==5)&&(e4.2.2.1==0)))=false→(((e4.1==5))=true→r_=([]:(List (List SItem))))∧(((e4.1==5))=false→(((e4.1==2))=true→(((e4.2.2.1==0))=true→∃r47:(List SItem),zcs (s_.drop (1:Int).toNat) ([]:(List SItem)) r47∧(([]:(List (List SItem))).length+[r47].length≤2147483648)∧(zc6.j2 s_ r_ e4 e9) (([]:(List (List SItem)))++[r47]))∧(((e4.2.2.1==0))=false→(zc6.j2 s_ r_ e4 e9) ([]:(List (List SItem)))))∧(((e4.1==2))=false→(((e9.1==1))=true→∃r57:(List SItem),zcs (s_.drop (1:Int).toNat) ([]:(List SItem)) r57∧r_=[r57])∧(((e9.1==1))=false→(((e9.1==3))=true→∃r64:(List SItem),zcs (s_.drop (1:Int).toNat) [(3,e4.2.1,0,0)] r64∧r_=[r64])∧(((e9.1==3))=false→(((e9.1==4))=true→∃r71:SItem,ze7 e9.2.1 r71∧∃r73:SItem,ze7 e9.2.2.1 r73∧∃r75:(List SItem),zcs (s_.drop (1:Int).toNat) [r71,r73] r75∧r_=[r75])∧(((e9.1==4))=false→(((e9.1==5))=true→∃r82:SItem,ze7 e9.2.1 r82∧∃r84:(List SItem),zcs (s_.drop (1:Int).toNat) [r82] r84∧∃r86:SItem,ze7 e9.2.2.1 r86∧∃r88:(List SItem),zcs (s_.drop (1:Int).toNat) [r86] r88∧r_=[r84,r88])∧(((e9.1==5))=false→(((e9.1==6))=true→∃r95:(List SItem),zcs (s_.drop (1:Int).toNat) ([]:(List SItem)) r95∧∃r97:SItem,ze7 e9.2.1 r97∧∃r99:(List SItem),zcs (s_.drop (1:Int).toNat) [r97,e4] r99∧r_=[r95,r99])∧(((e9.1==6))=false→∃r105:(List SItem),zcs (s_.drop (1:Int).toNat) [(2,e4.2.1,e9.2.2.2.1,e9.2.2.2.2.1)] r105∧r_=[r105]))))))))
def zkr (a_:SBranch) (b_:SBranch) (r_:Int):Prop:=∃r3:Int,zf1 a_.1 b_.1 r3∧r_=r3
def zm4 (d_:SDesc) (s_:(List SItem)) (r_:Bool):Prop:=∃e4:SItem,(((((s_.length:Int)==0))=false)→at? s_ 0=some e4)∧∃e6:SItem,((((((s_.length:Int)==0)||(e4.1==3)))=false)→at? s_ 0=some e6)∧∃b8:Bool,b8=((((s_.length:Int)==0)||(e4.1==3))||(e6.1==4))∧((b8)=true→r_=true)∧((b8)=false→∃e12:SItem,at? s_ 0=some e12∧∃e14:SNode,at? d_ e12.2.1=some e14∧∃e17:SItem,at? s_ 0=some e17∧∃b19:Bool,b19=((e17.1==1)&&(((e14.1==2)||(e14.1==8))||(e14.1==9)))∧r_=b19)
def zck (l_:(List SItem)) (s_:(List SItem)) (r_:(List SItem)):Prop:=(([]:(List SItem)).length+l_.length≤2147483648)∧((([]:(List SItem))++l_).length+s_.length≤2147483648)∧r_=(([]:(List SItem))++l_)++s_
def zdr.j1 (s_:(List SItem)) (many_:Int) (r_:(List SBranch)) (out6:(List SBranch)) (done8:Bool):Prop:=(((!done8))=true→(out6.length+[(s_,many_)].length≤2147483648)∧r_=out6++[(s_,many_)])∧(((!done8))=false→r_=out6)
def zdr.j2 (L1_:(List SBranch)→Bool→Int→Prop) (l_:(List SBranch)) (i19:Int) (out43:(List SBranch)) (done45:Bool):Prop:=∃e47:SBranch,at? l_ i19=some e47∧(out43.length+[e47].length≤2147483648)∧(InR .i64 (i19+1))∧L1_ (out43++[e47]) done45 (i19+1)
def zdr.l1 (l_:(List SBranch)) (s_:(List SItem)) (many_:Int) (X1:(List SBranch)→Bool→Prop):Nat→(List SBranch)→Bool→Int→Prop
 | 0,_,_,_=>False
 | k_0+1,out16,done18,i19=>((decide (i19<(l_.length:Int)))=true→∃e27:SBranch,at? l_ i19=some e27∧∃r29:Int,zc2 s_ e27.1 r29∧(((r29==0))=true→∃e34:SBranch,at? l_ i19=some e34∧(InR .i64 (e34.2+many_))∧(out16.length+[(s_,(min 2 (e34.2+many_)))].length≤2147483648)∧(InR .i64 (i19+1))∧zdr.l1 l_ s_ many_ X1 k_0 (out16++[(s_,(min 2 (e34.2+many_)))]) true (i19+1))∧(((r29==0))=false→((((decide (r29<0))&&(!done18)))=true→(out16.length+[(s_,many_)].length≤2147483648)∧(zdr.j2 (zdr.l1 l_ s_ many_ X1 k_0) l_ i19) (out16++[(s_,many_)]) true)∧((((decide (r29<0))&&(!done18)))=false→(zdr.j2 (zdr.l1 l_ s_ many_ X1 k_0) l_ i19) out16 done18)))∧((decide (i19<(l_.length:Int)))=false→X1 out16 done18)
def zdr (l_:(List SBranch)) (s_:(List SItem)) (many_:Int) (r_:(List SBranch)):Prop:=∃k20,zdr.l1 l_ s_ many_ (zdr.j1 s_ many_ r_) k20 ([]:(List SBranch)) false 0
def zdq.j1 (r_:(List (List SItem))) (out27:(List (List SItem))):Prop:=r_=out27
def zdq.j2 (r_:(List (List SItem))) (out47:(List (List SItem))):Prop:=r_=out47
def zdq.j3 (s_:(List SItem)) (r_:(List (List SItem))) (e3:SItem) (e9:SNode) (out39:(List (List SItem))):Prop:=((decide (0<e3.2.2.2))=true→(InR .i64 (e3.2.2.1-1))∧(InR .i64 (e3.2.2.2-1))∧∃r53:(List SItem),zck [(1,e9.2.1,0,0),(2,e3.2.1,(max 0 (e3.2.2.1-1)),e3.2.2.2-1)] (s_.drop (1:Int).toNat) r53∧(out39.length+[r53].length≤2147483648)∧(zdq.j2 r_) (out39++[r53]))∧((decide (0<e3.2.2.2))=false→(zdq.j2 r_) out39)
def zdq (d_:SDesc) (s_:(List SItem)) (r_:(List (List SItem))):Prop:=∃e3:SItem,at? s_ 0=some e3∧((0:Int)≤1∧1≤(s_.length:Int))∧∃e9:SNode,at? d_ e3.2.1=some e9∧(((e3.1==5))=true→(((e3.2.2.1==0))=true→∃r31:(List SItem),zck ([]:(List SItem)) (s_.drop (1:Int).toNat) r31∧(([]:(List (List SItem))).length+[r31].length≤2147483648)∧(zdq.j1 r_) (([]:(List (List SItem)))++[r31]))∧(((e3.2.2.1==0))=false→(zdq.j1 r_) ([]:(List (List SItem)))))∧(((e3.1==5))=false→(((e3.1==2))=true→(((e3.2.2.1==0))=true→∃r57:(List SItem),zck ([]:(List SItem)) (s_.drop (1:Int).toNat) r57∧(([]:(List (List SItem))).length+[r57].length≤2147483648)∧(zdq.j3 s_ r_ e3 e9) (([]:(List (List SItem)))++[r57]))∧(((e3.2.2.1==0))=false→(zdq.j3 s_ r_ e3 e9) ([]:(List (List SItem)))))∧(((e3.1==2))=false→(((e9.1==1))=true→∃r66:(List SItem),zck ([]:(List SItem)) (s_.drop (1:Int).toNat) r66∧(([]:(List (List SItem))).length+[r66].length≤2147483648)∧r_=([]:(List (List SItem)))++[r66])∧(((e9.1==1))=false→(((e9.1==3))=true→∃r72:(List SItem),zck [(3,e3.2.1,0,0)] (s_.drop (1:Int).toNat) r72∧(([]:(List (List SItem))).length+[r72].length≤2147483648)∧r_=([]:(List (List SItem)))++[r72])∧(((e9.1==3))=false→(((e9.1==4))=true→∃r78:(List SItem),zck [(1,e9.2.1,0,0),(1,e9.2.2.1,0,0)] (s_.drop (1:Int).toNat) r78∧(([]:(List (List SItem))).length+[r78].length≤2147483648)∧r_=([]:(List (List SItem)))++[r78])∧(((e9.1==4))=false→(((e9.1==5))=true→∃r84:(List SItem),zck [(1,e9.2.1,0,0)] (s_.drop (1:Int).toNat) r84∧∃r86:(List SItem),zck [(1,e9.2.2.1,0,0)] (s_.drop (1:Int).toNat) r86∧(([]:(List (List SItem))).length+[r84,r86].length≤2147483648)∧r_=([]:(List (List SItem)))++[r84,r86])∧(((e9.1==5))=false→(((e9.1==6))=true→∃r92:(List SItem),zck ([]:(List SItem)) (s_.drop (1:Int).toNat) r92∧∃r94:(List SItem),zck [(1,e9.2.1,0,0),e3] (s_.drop (1:Int).toNat) r94∧(([]:(List (List SItem))).length+[r92,r94].length≤2147483648)∧r_=([]:(List (List SItem)))++[r92,r94])∧(((e9.1==6))=false→(((e9.1==7))=true→∃r100:(List SItem),zck [(2,e3.2.1,e9.2.2.2.1,e9.2.2.2.2.1)] (s_.drop (1:Int).toNat) r100∧(([]:(List (List SItem))).length+[r100].length≤2147483648)∧r_=([]:(List (List SItem)))++[r100])∧(((e9.1==7))=false→r_=([]:(List (List SItem)))))))))))
def zdj.j1 (r_:(List SBranch)) (l16:(List SBranch)):Prop:=r_=l16
def zdj.l1 (n_:SDesc→(List SItem)→(List SBranch)→(List SBranch)→Prop) (d_:SDesc) (r12:(List (List SItem))) (X1:(List SBranch)→Prop):Nat→(List SBranch)→Int→Prop
 | 0,_,_=>False
 | k_0+1,l19,i20=>((decide (i20<(r12.length:Int)))=true→∃e27:(List SItem),at? r12 i20=some e27∧∃r29:(List SBranch),n_ d_ e27 l19 r29∧(InR .i64 (i20+1))∧zdj.l1 n_ d_ r12 X1 k_0 r29 (i20+1))∧((decide (i20<(r12.length:Int)))=false→X1 l19)
def zdj.n:Nat→SDesc→(List SItem)→(List SBranch)→(List SBranch)→Prop
 | 0,_,_,_,_=>False
 | k_+1,d_,s_,l_,r_=>∃r4:Bool,zm4 d_ s_ r4∧((r4)=true→∃r7:(List SItem),zck ([]:(List SItem)) s_ r7∧∃r9:(List SBranch),zdr l_ r7 1 r9∧r_=r9)∧((r4)=false→∃r12:(List (List SItem)),zdq d_ s_ r12∧∃k21,zdj.l1 (zdj.n k_) d_ r12 (zdj.j1 r_) k21 l_ 0)
def zdj (d_:SDesc) (s_:(List SItem)) (l_:(List SBranch)) (r_:(List SBranch)):Prop:=∃k_,zdj.n k_ d_ s_ l_ r_
def zhw (d_:SDesc) (s_:(List SItem)) (r_:(List SBranch)):Prop:=∃r3:(List SBranch),zdj d_ s_ ([]:(List SBranch)) r3∧r_=r3
set_option maxRecDepth 100000
theorem zok {d_:SDesc} {s_:(List SItem)} {r_:Bool} (h:zjy d_ s_ r_):Fn Tryz.prog 142 [(Pd.rep En.SDesc d_),(Pd.rep (En.slice En.SItem) s_)] (Rq (Pd.rep En.bool r_)):=by
 unfold zjy at h;refine zbx Tryz.func142 J Tryz.ntmps142 (by rfl) (by simp) fun s0 a L=>?_;refine wp_seq_k fun K1 H1=>rg (sw 2 (zcu (O 0 J) J J) L fun a s L=>?_);refine sw 4 (zb o_b J J) L fun a s L=>en' (H1 _ _ ?_);refine wp_seq_k fun K2 H2=>wp_seq_k fun K3 H3=>rg (sw 7 (zd (O 1 J) J J) L fun a s L=>?_);refine sw 8 (zc8 (O 7 J) U47 J J) L fun a s L=>sw 9 (zbt (O 8 J) oI J J) L fun a s L=>en' (H3 _ _ ?_);refine cnd L J (fun hb_=>?_) (fun hb_=>?_)
 ·replace h:=h.1 hb_;refine wp_seq_k fun K4 H4=>rg (sw 4 (zb o_b J J) L fun a s L=>?_);refine en' (H4 _ _ ?_);subst h;exact wp_ret (zdu J L J)
 ·replace h:=h.2 hb_;refine wp_skip ?_;show K2 a s.w;refine H2 _ _ (wp_seq_k fun K5 H5=>?_);refine wp_seq_k fun K6 H6=>?_;obtain ⟨e7,h8,h⟩:=h;refine rg (sw 10 (zd (O 1 J) J J) L fun a s L=>?_);refine sw 11 (zde (O 10 J) oI h8 U47 zfk J J) L fun a s L=>sw 12 (zt zfk (O 11 J) J J) L fun a s L=>zbf En.SItem (z:=(0,0,0,0)) 5 L zic J J J J fun a s g9 hg_ L=>?_;refine zby (L':=[(2,(Pd.ptr En.SDesc d_))]) 5 L J (O 12 J) zfk J J J (.k 2 .nil) fun s L=>?_;refine en' (H6 _ _ ?_);refine wp_seq_k fun K10 H10=>rg (sw 13 (zbj (off:=0) (O 5 J) U77 J (zm (zh _ _)) J ty3 J J) L fun a s L=>?_);refine sw 14 (zp ty3 (O 13 J) J J) L fun a s L=>en' (H10 _ _ ?_);refine wp_block (wp_seq_k fun K11 H11=>?_);refine rg (sw 16 (zbt (O 14 J) oI J J) L fun a s L=>?_);refine sw 15 (zb (O 16 J) J J) L fun a s L=>en' (H11 _ _ ?_);refine cnd L J (fun hb_=>?_) (fun hb_=>?_)
  ·replace h:=h.1 hb_;refine wp_seq_k fun K12 H12=>?_;obtain ⟨e13,h14,h⟩:=h;refine rg (sw 17 (zc0 (off:=0) (O 2 J) U24 J (zbw (zh _ _)) J zfj J J) L fun a s L=>?_);refine sw 18 (zt zfj (O 17 J) J J) L fun a s L=>sw 19 (zbj (off:=1) (O 5 J) U77 J (ze (zm (zh _ _)) J) J ty3 J J) L fun a s L=>sw 20 (zp ty3 (O 19 J) J J) L fun a s L=>sw 21 (zde (O 18 J) (O 20 J) h14 U22 zfi J J) L fun a s L=>sw 22 (zc0 (off:=0) (O 21 J) U68 J (zm (zh _ _)) J ty3 J J) L fun a s L=>sw 23 (zt ty3 (O 22 J) J J) L fun a s L=>sw 6 (zb (O 23 J) J J) L fun a s L=>en' (H12 _ _ ?_);refine wp_seq_k fun K15 H15=>?_;obtain ⟨e16,h17,h⟩:=h;refine rg (sw 24 (zd (O 6 J) J J) L fun a s L=>?_);refine sw 25 (zbz (O 24 J) oI J J) L fun a s L=>sw 26 (zd (O 25 J) J J) L fun a s L=>sw 27 (zbg J J J (fun hc_=>zd (O 6 J) J J)) L fun a s L=>sw 28 (zbg J J J (fun hc_=>t_gidxb (g:=1) (xs:=gdat1) (by simp [gtab]) J (o_w hc_ 27 J) (h17 hc_) U213 (by rfl) J J)) L fun a s L=>sw 29 (zbg J J J (fun hc_=>zt ty4 (o_w hc_ 28 J) J J)) L fun a s L=>sw 30 (zc1 (O 26 J) (fun hc2_=>(o_w hc2_ 29 J)) J J) L fun a s L=>sw 4 (zb (O 30 J) J J) L fun a s L=>en' (H15 _ _ ?_);subst h;exact wp_ret (zdu J L J)
  ·replace h:=h.2 hb_;refine wp_seq_k fun K18 H18=>wp_seq_k fun K19 H19=>rg (sw 32 (zbt (O 14 J) oI J J) L fun a s L=>?_);refine sw 31 (zb (O 32 J) J J) L fun a s L=>en' (H19 _ _ ?_);refine cnd L J (fun hb_=>?_) (fun hb_=>?_)
   ·replace h:=h.1 hb_;refine wp_skip ?_;show K18 a s.w;refine H18 _ _ (cnd L J (fun hb_=>?_) (fun hb_=>?_))
    ·replace h:=h.1 hb_;refine wp_seq_k fun K20 H20=>rg (sw 4 (zb o_b J J) L fun a s L=>?_);refine en' (H20 _ _ ?_);subst h;exact wp_ret (zdu J L J)
    ·replace h:=h.2 hb_;refine wp_skip ?_;show K5 a s.w;refine H5 _ _ (wp_seq_k fun K21 H21=>?_);refine rg (sw 4 (zb o_b J J) L fun a s L=>?_);refine en' (H21 _ _ ?_);subst h;exact wp_ret (zdu J L J)
   ·replace h:=h.2 hb_;refine rg (sw 33 (zbt (O 14 J) oI J J) L fun a s L=>?_);refine sw 31 (zb (O 33 J) J J) L fun a s L=>en' (H18 _ _ ?_);refine cnd L J (fun hb_=>?_) (fun hb_=>?_)
    ·replace h:=h.1 hb_;refine wp_seq_k fun K22 H22=>rg (sw 4 (zb o_b J J) L fun a s L=>?_);refine en' (H22 _ _ ?_);subst h;exact wp_ret (zdu J L J)
    ·replace h:=h.2 hb_;refine wp_skip ?_;show K5 a s.w;refine H5 _ _ (wp_seq_k fun K23 H23=>?_);refine rg (sw 4 (zb o_b J J) L fun a s L=>?_);refine en' (H23 _ _ ?_);subst h;exact wp_ret (zdu J L J)
theorem zcp {rest_:(List SItem)} {list_:(List SItem)} {r_:(List SItem)} (h:zcs rest_ list_ r_):Fn Tryz.prog 169 [(Pd.rep (En.slice En.SItem) rest_),(Pd.rep (En.slice En.SItem) list_)] (Ro En.SItem 77 r_):=by
 unfold zcs at h;refine zbx Tryz.func169 J Tryz.ntmps169 (by rfl) (by simp) fun s0 a L=>?_;refine wp_seq_k fun K1 H1=>rg (sw 4 (zb (zdg (E:=En.SItem) (N:=s0.w.heap.size) (te:=77)) J J) L fun a s L=>?_);refine en' (H1 _ _ ?_);refine wp_seq_k fun K2 H2=>?_;obtain ⟨r3,h4,h⟩:=h;refine rg (sw 5 (zd (O 1 J) J J) L fun a s L=>?_);refine sw 6 (zd (O 0 J) J J) L fun a s L=>sw 7 (zec (xs:=[.tmp 5,.tmp 6]) (.cons (O 5 J) (.cons (O 6 J) .nil)) U25 zfv J J (by decide) J J) L fun a s L=>zfx 8 L (zdl h4) (xs:=[.tmp 7]) (.cons (O 7 J) .nil) J J J J fun a s og5 hg_ L=>?_;refine sw 4 (zb (O 8 J) J J) L fun a s L=>en' (H2 _ _ ?_);subst h;exact wp_ret (zjn J L J)
theorem zes {i_:Int} {r_:SItem} (h:ze7 i_ r_):Fn Tryz.prog 170 [(Pi i_)] (Rq (Pd.rep En.SItem r_)):=by
 unfold ze7 at h;refine zbx Tryz.func170 J Tryz.ntmps170 (by rfl) (by simp) fun s0 a L=>?_;refine wp_seq_k fun K1 H1=>rg (zbf En.SItem (z:=(0,0,0,0)) 2 L zic J J J J fun a s g2 hg_ L=>?_);refine en' (H1 _ _ ?_);refine wp_seq_k fun K3 H3=>rg (sw 3 (zd (O 0 J) J J) L fun a s L=>?_);refine sw 4 (zcb (x:=(1,i_,0,0)) (ps:=[(0,.const (.int .i64 1)),(1,.tmp 3)]) zic J stt77 (.cons (i:=0) oI J (zbi (zz _ _ _)) (.cons (i:=1) (O 3 J) J (zx (zbi (zz _ _ _)) J) .nil)) J J) L fun a s L=>zby (L':=[]) 2 L J (O 4 J) zfk J J J .nil fun s L=>?_;refine en' (H3 _ _ ?_);subst h;exact wp_ret (retb J zfk L J)
theorem zqw {d_:SDesc} {s_:(List SItem)} {r_:(List (List SItem))} (h:zc6 d_ s_ r_):Fn Tryz.prog 144 [(Pd.rep En.SDesc d_),(Pd.rep (En.slice En.SItem) s_)] (Ro (En.slice En.SItem) 47 r_):=by
 unfold zc6 at h;refine zbx Tryz.func144 J Tryz.ntmps144 (by rfl) (by simp) fun s0 a L=>?_;refine wp_seq_k fun K1 H1=>rg (sw 2 (zcu (O 0 J) J J) L fun a s L=>?_);refine sw 4 (zb (zdg (E:=(En.slice En.SItem)) (N:=s0.w.heap.size) (te:=47)) J J) L fun a s L=>en' (H1 _ _ ?_);refine wp_seq_k fun K2 H2=>?_;obtain ⟨e4,h5,h6,h⟩:=h;replace L:=L.keep (L':=[(1,(Pd.rep (En.slice En.SItem) s_)),(2,(Pd.ptr En.SDesc d_))]) (.cons (t:=1) rfl nE (.cons (t:=2) rfl nE .nil));obtain ⟨K3,H3,nK3,L⟩:=L.mark 999983;refine rdf 8 zcm L (by kernel_rfl) fun s _ L=>?_;refine zek 3 12 L (by rfl) (by kernel_rfl) (by kernel_rfl) (by kernel_rfl) (fun _ _ _ _ h=>h) (q:=(Pd.rep (En.slice En.SItem) s_)) (zh4 (O 1 J) J J) J J fun a L=>?_;refine zek 4 13 L (by rfl) (by kernel_rfl) (by kernel_rfl) (by kernel_rfl) (fun _ _ _ _ h=>h) (q:=(Pd.rep (En.slice En.SItem) (s_.drop (1:Int).toNat))) (y_from (O 12 J) oI h6 U47 zfk J J) J J fun a L=>?_;refine rc_go 6 [(Pd.rep (En.slice En.SItem) s_),(Pd.ptr En.SItem e4),(Pd.rep En.SItem e4),(Pd.rep (En.slice En.SItem) s_),(Pd.rep (En.slice En.SItem) (s_.drop (1:Int).toNat)),(Pd.ebox En.SItem s0.w.heap.size K3 (0,0,0,0))] [3,4] K3 [5] nK3 L (.k 13 (.k 12 (.k 999983 (.k 1 (.k 2 .nil))))) (by kernel_rfl) (by kernel_rfl) (by kernel_rfl) (by kernel_rfl) (.cons (i:=3) J J J J (.cons (i:=4) J J J J .nil)) J J ?_ ?_
 ·refine zl5.t (zd (O 1 J) J J) nE ?_;refine zl5.t (zde (O 9 J) oI h5 U47 zfk J J) nE (zl5.t (zt zfk (O 10 J) J J) nE ?_);refine zl5.skip J nE (zl5.skip J nE ?_);refine zl5.c (t_allocx En.SItem (z:=(0,0,0,0)) (K:=K3) (m:=999983) J nK3 zic J J) J ?_;exact zl5.nil
 intro a s _ L;obtain ⟨g7,hg_,L⟩:=L.openb 5 rfl;refine zby (L':=[(2,(Pd.ptr En.SDesc d_)),(13,(Pd.rep (En.slice En.SItem) (s_.drop (1:Int).toNat)))]) 5 L J (O 11 J) zfk J J J (.k 2 (.k 13 .nil)) fun s L=>?_;refine sw 6 (zb (O 13 J) J J) L fun a s L=>en' (H2 _ _ ?_);refine wp_seq_k fun K8 H8=>?_;obtain ⟨e9,h10,h⟩:=h;refine rg (sw 14 (zc0 (off:=0) (O 2 J) U24 J (zbw (zh _ _)) J zfj J J) L fun a s L=>?_);refine sw 15 (zt zfj (O 14 J) J J) L fun a s L=>sw 16 (zbj (off:=1) (O 5 J) U77 J (ze (zm (zh _ _)) J) J ty3 J J) L fun a s L=>sw 17 (zp ty3 (O 16 J) J J) L fun a s L=>sw 18 (zde (O 15 J) (O 17 J) h10 U22 zfi J J) L fun a s L=>sw 19 (zt zfi (O 18 J) J J) L fun a s L=>?_;have lt_d12:=L.blt 5 rfl;refine zbf En.SNode (z:=(0,0,0,0,0,(0#256),([]:Str))) 7 L zk2 J J J J fun a s g11 hg_ L=>?_;have d12:Dis (some g11) (some g7):=Dis.newg hg_ lt_d12;refine zby (L':=[(5,(Pd.box En.SItem s0.w.heap.size g7 e4)),(6,(Pd.rep (En.slice En.SItem) (s_.drop (1:Int).toNat)))]) 7 L J (O 19 J) zfi J J J (.cons (t:=5) J (Dis.bx (Dis.symm d12)) (.k 6 .nil)) fun s L=>?_;refine en' (H8 _ _ ?_);refine wp_seq_k fun K13 H13=>wp_block (wp_seq_k fun K14 H14=>?_);refine rg (sw 21 (zbj (off:=0) (O 5 J) U77 J (zm (zh _ _)) J ty3 J J) L fun a s L=>?_);refine sw 22 (zp ty3 (O 21 J) J J) L fun a s L=>sw 23 (zbt (O 22 J) oI J J) L fun a s L=>sw 24 (zd (O 23 J) J J) L fun a s L=>sw 25 (zbg J J J (fun hc_=>zbj (off:=2) (O 5 J) U77 J (ze (ze (zm (zh _ _)) J) J) J ty3 J J)) L fun a s L=>sw 26 (zbg J J J (fun hc_=>zp ty3 (o_w hc_ 25 J) J J)) L fun a s L=>sw 27 (zbg J J J (fun hc_=>zbt (o_w hc_ 26 J) oI J J)) L fun a s L=>sw 28 (zc1 (O 24 J) (fun hc2_=>(o_w hc2_ 27 J)) J J) L fun a s L=>sw 20 (zb (O 28 J) J J) L fun a s L=>en' (H14 _ _ ?_)
 refine cnd L J (fun hb_=>?_) (fun hb_=>?_)
 ·replace h:=h.1 hb_;refine wp_seq_k fun K15 H15=>?_;obtain ⟨r16,h17,h⟩:=h;refine rg (sw 29 (zd (O 6 J) J J) L fun a s L=>?_);refine sw 30 (zy ((zcp h17).frz) (xs:=[.tmp 29,.const (.slice none 0 0)]) (.cons (O 29 J) (.cons o_nilr .nil)) J J) L fun a s L=>?_;have lt_d20:=L.blt 7 rfl;have lt_d19:=L.blt 5 rfl;refine zfp (xs:=[.tmp 30]) 31 L (.cons (O 30 J) .nil) U25 zfv J J (by decide) J J J J fun a s g18 hg_ L=>?_;have d19:Dis (some g18) (some g7):=Dis.newg hg_ lt_d19;have d20:Dis (some g18) (some g11):=Dis.newg hg_ lt_d20;refine sw 4 (zb (O 31 J) J J) L fun a s L=>en' (H15 _ _ ?_);subst h;exact wp_ret (zjn J L J)
 ·replace h:=h.2 hb_;refine wp_seq_k fun K21 H21=>rg (sw 33 (zbj (off:=0) (O 5 J) U77 J (zm (zh _ _)) J ty3 J J) L fun a s L=>?_);refine sw 34 (zp ty3 (O 33 J) J J) L fun a s L=>sw 35 (zbt (O 34 J) oI J J) L fun a s L=>sw 32 (zb (O 35 J) J J) L fun a s L=>en' (H21 _ _ ?_);refine cnd L J (fun hb_=>?_) (fun hb_=>?_)
  ·replace h:=h.1 hb_;refine wp_seq_k fun K22 H22=>rg (sw 4 (zb (zdg (E:=(En.slice En.SItem)) (N:=s0.w.heap.size) (te:=47)) J J) L fun a s L=>?_);refine en' (H22 _ _ ?_);subst h;exact wp_ret (zjn J L J)
  ·replace h:=h.2 hb_;refine wp_seq_k fun K23 H23=>rg (sw 37 (zbj (off:=0) (O 5 J) U77 J (zm (zh _ _)) J ty3 J J) L fun a s L=>?_);refine sw 38 (zp ty3 (O 37 J) J J) L fun a s L=>sw 39 (zbt (O 38 J) oI J J) L fun a s L=>sw 36 (zb (O 39 J) J J) L fun a s L=>en' (H23 _ _ ?_);refine cnd L J (fun hb_=>?_) (fun hb_=>?_)
   ·replace h:=h.1 hb_;refine wp_seq_k fun K24 H24=>rg (sw 8 (zb (zdg (E:=(En.slice En.SItem)) (N:=s0.w.heap.size) (te:=47)) J J) L fun a s L=>?_);refine en' (H24 _ _ ?_);refine wp_seq_k fun K25 H25=>wp_seq_k fun K26 H26=>rg (sw 40 (zbj (off:=2) (O 5 J) U77 J (ze (ze (zm (zh _ _)) J) J) J ty3 J J) L fun a s L=>?_);refine sw 41 (zp ty3 (O 40 J) J J) L fun a s L=>sw 42 (zbt (O 41 J) oI J J) L fun a s L=>en' (H26 _ _ ?_);have J29:∀(out27:(List (List SItem))) (og28:Option Nat) (a:Act) (s:St),Has N0 139 s0 a s [(5,(Pd.box En.SItem s0.w.heap.size g7 e4)),(6,(Pd.rep (En.slice En.SItem) (s_.drop (1:Int).toNat))),(7,(Pd.box En.SNode s0.w.heap.size g11 e9)),(8,(Pd.row (En.slice En.SItem) s0.w.heap.size 47 og28 out27))]→Dis (some g7) (some g11)→Dis (some g7) og28→Dis (some g11) og28→((zc6.j2 s_ r_ e4 e9) out27)→K25 a s.w:=by
     intro out27 og28 a s L d30 d31 d32 h;unfold zc6.j2 at h;show K25 a s.w;refine H25 _ _ (wp_seq_k fun K33 H33=>?_);refine wp_seq_k fun K34 H34=>rg (sw 48 (zbj (off:=3) (O 5 J) U77 J (ze (ze (ze (zh _ _) J) J) J) J ty3 J J) L fun a s L=>?_);refine sw 49 (zp ty3 (O 48 J) J J) L fun a s L=>sw 50 (zhd (O 49 J) oI J J) L fun a s L=>en' (H34 _ _ ?_);have J37:∀(out35:(List (List SItem))) (og36:Option Nat) (a:Act) (s:St),Has N0 139 s0 a s [(8,(Pd.row (En.slice En.SItem) s0.w.heap.size 47 og36 out35))]→((zc6.j1 r_) out35)→K33 a s.w:=by
      intro out35 og36 a s L h;unfold zc6.j1 at h;show K33 a s.w;refine H33 _ _ (wp_seq_k fun K38 H38=>?_);refine rg (sw 72 (zd (O 8 J) J J) L fun a s L=>?_);refine sw 4 (zb (O 72 J) J J) L fun a s L=>en' (H38 _ _ ?_);subst h;exact wp_ret (zjn J L J)
     refine cnd L J (fun hb_=>?_) (fun hb_=>?_)
     ·obtain ⟨r39,h40,h41,h42,r43,h44,h45,h⟩:=h.1 hb_;refine rda zcm 20 [(Pd.row (En.slice En.SItem) s0.w.heap.size 47 og28 out27),(Pd.rep (En.slice En.SItem) (s_.drop (1:Int).toNat)),(Pd.optr (En.int .i64) s0.w.heap.size (some g11) (1) e9.2.1),(Pi e9.2.1),(Pd.rep En.SItem r39),(Pd.optr (En.int .i64) s0.w.heap.size (some g7) (0) e4.1),(Pi e4.1),(Pd.optr (En.int .i64) s0.w.heap.size (some g7) (1) e4.2.1),(Pi e4.2.1),(Pd.optr (En.int .i64) s0.w.heap.size (some g7) (2) e4.2.2.1),(Pi e4.2.2.1),(Pi (e4.2.2.1-1)),(Pi (max (e4.2.2.1-1) 0)),(Pd.optr (En.int .i64) s0.w.heap.size (some g7) (3) e4.2.2.2),(Pi e4.2.2.2),(Pi (e4.2.2.2-1)),(Pd.rep En.SItem (e4.1,e4.2.1,(max (e4.2.2.1-1) 0),e4.2.2.2-1)),(Pd.rep (En.slice En.SItem) [r39,(e4.1,e4.2.1,(max (e4.2.2.1-1) 0),e4.2.2.2-1)]),(Pd.rep (En.slice En.SItem) r43),(Pd.rep (En.slice (En.slice En.SItem)) [r43])] L (by kernel_rfl) J J ?_ ?_
      ·refine z8.cons (zd (O 8 J) J J) ?_;refine z8.cons (zd (O 6 J) J J) (z8.cons (zbj (off:=1) (O 7 J) U68 J (ze (zm (zh _ _)) J) J ty3 J J) ?_);refine z8.cons (zp ty3 (O 53 J) J J) (z8.cons (zy (zes h40) (xs:=[.tmp 54]) (.cons (O 54 J) .nil) J J) ?_);refine z8.cons (zbj (off:=0) (O 5 J) U77 J (zm (zh _ _)) J ty3 J J) (z8.cons (zp ty3 (O 56 J) J J) ?_);refine z8.cons (zbj (off:=1) (O 5 J) U77 J (ze (zm (zh _ _)) J) J ty3 J J) (z8.cons (zp ty3 (O 58 J) J J) ?_);refine z8.cons (zbj (off:=2) (O 5 J) U77 J (ze (ze (zm (zh _ _)) J) J) J ty3 J J) (z8.cons (zp ty3 (O 60 J) J J) ?_);refine z8.cons (zdy (O 61 J) oI h41 J J) (z8.cons (t_max (O 62 J) oI J J) ?_);refine z8.cons (zbj (off:=3) (O 5 J) U77 J (ze (ze (ze (zh _ _) J) J) J) J ty3 J J) (z8.cons (zp ty3 (O 64 J) J J) ?_);refine z8.cons (zdy (O 65 J) oI h42 J J) (z8.cons (zcb (x:=(e4.1,e4.2.1,(max (e4.2.2.1-1) 0),e4.2.2.2-1)) (ps:=[(0,.tmp 57),(1,.tmp 59),(2,.tmp 63),(3,.tmp 66)]) zic J stt77 (.cons (i:=0) (O 57 J) J (zbi (zz _ _ _)) (.cons (i:=1) (O 59 J) J (zx (zbi (zz _ _ _)) J) (.cons (i:=2) (O 63 J) J (zx (zx (zbi (zz _ _ _)) J) J) (.cons (i:=3) (O 66 J) J (zx (zx (zx (zz _ _ _) J) J) J) .nil)))) J J) ?_);refine z8.cons (zec (xs:=[.tmp 55,.tmp 67]) (.cons (O 55 J) (.cons (O 67 J) .nil)) U46 zfk J J (by decide) J J) (z8.cons (zy ((zcp h44).frz) (xs:=[.tmp 52,.tmp 68]) (.cons (O 52 J) (.cons (O 68 J) .nil)) J J) ?_);refine z8.cons (zec (xs:=[.tmp 69]) (.cons (O 69 J) .nil) U25 zfv J J (by decide) J J) ?_;exact z8.nil
      intro a s _ L;refine zev (L':=[]) 71 L (O 51 J) (O 70 J) U25 zfv h45 J J J J .nil fun a s og46 hg_ L=>?_;refine sw 8 (zb (O 71 J) J J) L fun a s L=>en' ?_;exact J37 (out27++[r43]) og46 a s (L.keep (.cons (t:=8) J (fun _ _ h_=>h_) .nil)) h
     ·replace h:=h.2 hb_;refine wp_skip ?_;exact J37 out27 og28 a s (L.keep (.cons (t:=8) J (fun _ _ h_=>h_) .nil)) h
    refine cnd L J (fun hb_=>?_) (fun hb_=>?_)
    ·obtain ⟨r47,h48,h49,h⟩:=h.1 hb_;refine rg (sw 43 (zd (O 8 J) J J) L fun a s L=>?_);refine sw 44 (zd (O 6 J) J J) L fun a s L=>sw 45 (zy ((zcp h48).frz) (xs:=[.tmp 44,.const (.slice none 0 0)]) (.cons (O 44 J) (.cons o_nilr .nil)) J J) L fun a s L=>sw 46 (zec (xs:=[.tmp 45]) (.cons (O 45 J) .nil) U25 zfv J J (by decide) J J) L fun a s L=>?_;have lt_og50_0:=L.blt 5 rfl;have lt_og50_1:=L.blt 7 rfl;refine zev (L':=[(5,(Pd.box En.SItem s0.w.heap.size g7 e4)),(6,(Pd.rep (En.slice En.SItem) (s_.drop (1:Int).toNat))),(7,(Pd.box En.SNode s0.w.heap.size g11 e9)),(8,(Pd.row (En.slice En.SItem) s0.w.heap.size 47 none ([]:(List (List SItem)))))]) 47 L (O 43 J) (O 46 J) U25 zfv h49 J J J J (.cons (t:=5) J (Dis.bx (Dis.symm Dis.none)) (.k 6 (.cons (t:=7) J (Dis.bx (Dis.symm Dis.none)) (.cons (t:=8) J no_own .nil)))) fun a s og50 hg_ L=>?_;have d51:Dis og50 (some g7):=Dis.app hg_ Dis.none lt_og50_0;have d52:Dis og50 (some g11):=Dis.app hg_ Dis.none lt_og50_1;refine sw 8 (zb (O 47 J) J J) L fun a s L=>en' ?_;exact J29 (([]:(List (List SItem)))++[r47]) og50 a s (L.keep (.cons (t:=5) J (fun _ _ h_=>h_) (.k 6 (.cons (t:=7) J (fun _ _ h_=>h_) (.cons (t:=8) J (fun _ _ h_=>h_) .nil))))) (Dis.symm d12) (Dis.symm d51) (Dis.symm d52) h
    ·replace h:=h.2 hb_;refine wp_skip ?_;exact J29 ([]:(List (List SItem))) none a s (L.keep (.cons (t:=5) J (fun _ _ h_=>h_) (.k 6 (.cons (t:=7) J (fun _ _ h_=>h_) (.cons (t:=8) J (fun _ _ h_=>h_) .nil))))) (Dis.symm d12) (Dis.symm Dis.none) (Dis.symm Dis.none) h
   ·replace h:=h.2 hb_;refine wp_skip ?_;show K13 a s.w;refine H13 _ _ (wp_seq_k fun K53 H53=>?_);refine wp_seq_k fun K54 H54=>rg (sw 73 (zbj (off:=0) (O 7 J) U68 J (zm (zh _ _)) J ty3 J J) L fun a s L=>?_);refine sw 74 (zp ty3 (O 73 J) J J) L fun a s L=>en' (H54 _ _ ?_);refine wp_block (wp_seq_k fun K55 H55=>?_);refine rg (sw 76 (zbt (O 74 J) oI J J) L fun a s L=>?_);refine sw 75 (zb (O 76 J) J J) L fun a s L=>en' (H55 _ _ ?_);refine cnd L J (fun hb_=>?_) (fun hb_=>?_)
    ·replace h:=h.1 hb_;refine wp_seq_k fun K56 H56=>?_;obtain ⟨r57,h58,h⟩:=h;refine rg (sw 77 (zd (O 6 J) J J) L fun a s L=>?_);refine sw 78 (zy ((zcp h58).frz) (xs:=[.tmp 77,.const (.slice none 0 0)]) (.cons (O 77 J) (.cons o_nilr .nil)) J J) L fun a s L=>?_;have lt_d61:=L.blt 7 rfl;have lt_d60:=L.blt 5 rfl;refine zfp (xs:=[.tmp 78]) 79 L (.cons (O 78 J) .nil) U25 zfv J J (by decide) J J J J fun a s g59 hg_ L=>?_;have d60:Dis (some g59) (some g7):=Dis.newg hg_ lt_d60;have d61:Dis (some g59) (some g11):=Dis.newg hg_ lt_d61;refine sw 4 (zb (O 79 J) J J) L fun a s L=>en' (H56 _ _ ?_);subst h;exact wp_ret (zjn J L J)
    ·replace h:=h.2 hb_;refine wp_seq_k fun K62 H62=>rg (sw 81 (zbt (O 74 J) oI J J) L fun a s L=>?_);refine sw 80 (zb (O 81 J) J J) L fun a s L=>en' (H62 _ _ ?_);refine cnd L J (fun hb_=>?_) (fun hb_=>?_)
     ·replace h:=h.1 hb_;refine wp_seq_k fun K63 H63=>?_;obtain ⟨r64,h65,h⟩:=h;refine rg (sw 82 (zd (O 6 J) J J) L fun a s L=>?_);refine sw 83 (zbj (off:=1) (O 5 J) U77 J (ze (zm (zh _ _)) J) J ty3 J J) L fun a s L=>sw 84 (zp ty3 (O 83 J) J J) L fun a s L=>sw 85 (zcb (x:=(3,e4.2.1,0,0)) (ps:=[(0,.const (.int .i64 3)),(1,.tmp 84)]) zic J stt77 (.cons (i:=0) oI J (zbi (zz _ _ _)) (.cons (i:=1) (O 84 J) J (zx (zbi (zz _ _ _)) J) .nil)) J J) L fun a s L=>sw 86 (zec (xs:=[.tmp 85]) (.cons (O 85 J) .nil) U46 zfk J J (by decide) J J) L fun a s L=>sw 87 (zy ((zcp h65).frz) (xs:=[.tmp 82,.tmp 86]) (.cons (O 82 J) (.cons (O 86 J) .nil)) J J) L fun a s L=>?_;have lt_d68:=L.blt 7 rfl;have lt_d67:=L.blt 5 rfl;refine zfp (xs:=[.tmp 87]) 88 L (.cons (O 87 J) .nil) U25 zfv J J (by decide) J J J J fun a s g66 hg_ L=>?_;have d67:Dis (some g66) (some g7):=Dis.newg hg_ lt_d67;have d68:Dis (some g66) (some g11):=Dis.newg hg_ lt_d68;refine sw 4 (zb (O 88 J) J J) L fun a s L=>en' (H63 _ _ ?_);subst h;exact wp_ret (zjn J L J)
     ·replace h:=h.2 hb_;refine wp_seq_k fun K69 H69=>rg (sw 90 (zbt (O 74 J) oI J J) L fun a s L=>?_);refine sw 89 (zb (O 90 J) J J) L fun a s L=>en' (H69 _ _ ?_);refine cnd L J (fun hb_=>?_) (fun hb_=>?_)
      ·replace h:=h.1 hb_;refine wp_seq_k fun K70 H70=>?_;obtain ⟨r71,h72,r73,h74,r75,h76,h⟩:=h;refine rda zcm 9 [(Pd.rep (En.slice En.SItem) (s_.drop (1:Int).toNat)),(Pd.optr (En.int .i64) s0.w.heap.size (some g11) (1) e9.2.1),(Pi e9.2.1),(Pd.rep En.SItem r71),(Pd.optr (En.int .i64) s0.w.heap.size (some g11) (2) e9.2.2.1),(Pi e9.2.2.1),(Pd.rep En.SItem r73),(Pd.rep (En.slice En.SItem) [r71,r73]),(Pd.rep (En.slice En.SItem) r75)] L (by kernel_rfl) J J ?_ ?_
       ·refine z8.cons (zd (O 6 J) J J) ?_;refine z8.cons (zbj (off:=1) (O 7 J) U68 J (ze (zm (zh _ _)) J) J ty3 J J) (z8.cons (zp ty3 (O 92 J) J J) ?_);refine z8.cons (zy (zes h72) (xs:=[.tmp 93]) (.cons (O 93 J) .nil) J J) (z8.cons (zbj (off:=2) (O 7 J) U68 J (ze (ze (zm (zh _ _)) J) J) J ty3 J J) ?_);refine z8.cons (zp ty3 (O 95 J) J J) (z8.cons (zy (zes h74) (xs:=[.tmp 96]) (.cons (O 96 J) .nil) J J) ?_);refine z8.cons (zec (xs:=[.tmp 94,.tmp 97]) (.cons (O 94 J) (.cons (O 97 J) .nil)) U46 zfk J J (by decide) J J) (z8.cons (zy ((zcp h76).frz) (xs:=[.tmp 91,.tmp 98]) (.cons (O 91 J) (.cons (O 98 J) .nil)) J J) ?_);exact z8.nil
       intro a s _ L;have lt_d79:=L.blt 7 rfl;have lt_d78:=L.blt 5 rfl;refine zfp (xs:=[.tmp 99]) 100 L (.cons (O 99 J) .nil) U25 zfv J J (by decide) J J J J fun a s g77 hg_ L=>?_;have d78:Dis (some g77) (some g7):=Dis.newg hg_ lt_d78;have d79:Dis (some g77) (some g11):=Dis.newg hg_ lt_d79;refine sw 4 (zb (O 100 J) J J) L fun a s L=>en' (H70 _ _ ?_);subst h;exact wp_ret (zjn J L J)
      ·replace h:=h.2 hb_;refine wp_seq_k fun K80 H80=>rg (sw 102 (zbt (O 74 J) oI J J) L fun a s L=>?_);refine sw 101 (zb (O 102 J) J J) L fun a s L=>en' (H80 _ _ ?_);refine cnd L J (fun hb_=>?_) (fun hb_=>?_)
       ·replace h:=h.1 hb_;refine wp_seq_k fun K81 H81=>?_;obtain ⟨r82,h83,r84,h85,r86,h87,r88,h89,h⟩:=h;refine rda zcm 12 [(Pd.rep (En.slice En.SItem) (s_.drop (1:Int).toNat)),(Pd.optr (En.int .i64) s0.w.heap.size (some g11) (1) e9.2.1),(Pi e9.2.1),(Pd.rep En.SItem r82),(Pd.rep (En.slice En.SItem) [r82]),(Pd.rep (En.slice En.SItem) r84),(Pd.rep (En.slice En.SItem) (s_.drop (1:Int).toNat)),(Pd.optr (En.int .i64) s0.w.heap.size (some g11) (2) e9.2.2.1),(Pi e9.2.2.1),(Pd.rep En.SItem r86),(Pd.rep (En.slice En.SItem) [r86]),(Pd.rep (En.slice En.SItem) r88)] L (by kernel_rfl) J J ?_ ?_
        ·refine z8.cons (zd (O 6 J) J J) ?_;refine z8.cons (zbj (off:=1) (O 7 J) U68 J (ze (zm (zh _ _)) J) J ty3 J J) (z8.cons (zp ty3 (O 104 J) J J) ?_);refine z8.cons (zy (zes h83) (xs:=[.tmp 105]) (.cons (O 105 J) .nil) J J) (z8.cons (zec (xs:=[.tmp 106]) (.cons (O 106 J) .nil) U46 zfk J J (by decide) J J) ?_);refine z8.cons (zy ((zcp h85).frz) (xs:=[.tmp 103,.tmp 107]) (.cons (O 103 J) (.cons (O 107 J) .nil)) J J) (z8.cons (zd (O 6 J) J J) ?_);refine z8.cons (zbj (off:=2) (O 7 J) U68 J (ze (ze (zm (zh _ _)) J) J) J ty3 J J) (z8.cons (zp ty3 (O 110 J) J J) ?_);refine z8.cons (zy (zes h87) (xs:=[.tmp 111]) (.cons (O 111 J) .nil) J J) (z8.cons (zec (xs:=[.tmp 112]) (.cons (O 112 J) .nil) U46 zfk J J (by decide) J J) ?_);refine z8.cons (zy ((zcp h89).frz) (xs:=[.tmp 109,.tmp 113]) (.cons (O 109 J) (.cons (O 113 J) .nil)) J J) ?_;exact z8.nil
        intro a s _ L;have lt_d92:=L.blt 7 rfl;have lt_d91:=L.blt 5 rfl;refine zfp (xs:=[.tmp 108,.tmp 114]) 115 L (.cons (O 108 J) (.cons (O 114 J) .nil)) U25 zfv J J (by decide) J J J J fun a s g90 hg_ L=>?_;have d91:Dis (some g90) (some g7):=Dis.newg hg_ lt_d91;have d92:Dis (some g90) (some g11):=Dis.newg hg_ lt_d92;refine sw 4 (zb (O 115 J) J J) L fun a s L=>en' (H81 _ _ ?_);subst h;exact wp_ret (zjn J L J)
       ·replace h:=h.2 hb_;refine wp_seq_k fun K93 H93=>rg (sw 117 (zbt (O 74 J) oI J J) L fun a s L=>?_);refine sw 116 (zb (O 117 J) J J) L fun a s L=>en' (H93 _ _ ?_);refine cnd L J (fun hb_=>?_) (fun hb_=>?_)
        ·replace h:=h.1 hb_;refine wp_seq_k fun K94 H94=>?_;obtain ⟨r95,h96,r97,h98,r99,h100,h⟩:=h;refine rda zcm 9 [(Pd.rep (En.slice En.SItem) (s_.drop (1:Int).toNat)),(Pd.rep (En.slice En.SItem) r95),(Pd.rep (En.slice En.SItem) (s_.drop (1:Int).toNat)),(Pd.optr (En.int .i64) s0.w.heap.size (some g11) (1) e9.2.1),(Pi e9.2.1),(Pd.rep En.SItem r97),(Pd.rep En.SItem e4),(Pd.rep (En.slice En.SItem) [r97,e4]),(Pd.rep (En.slice En.SItem) r99)] L (by kernel_rfl) J J ?_ ?_
         ·refine z8.cons (zd (O 6 J) J J) ?_;refine z8.cons (zy ((zcp h96).frz) (xs:=[.tmp 118,.const (.slice none 0 0)]) (.cons (O 118 J) (.cons o_nilr .nil)) J J) (z8.cons (zd (O 6 J) J J) ?_);refine z8.cons (zbj (off:=1) (O 7 J) U68 J (ze (zm (zh _ _)) J) J ty3 J J) (z8.cons (zp ty3 (O 121 J) J J) ?_);refine z8.cons (zy (zes h98) (xs:=[.tmp 122]) (.cons (O 122 J) .nil) J J) (z8.cons (zbr zfk (O 5 J) J J) ?_);refine z8.cons (zec (xs:=[.tmp 123,.tmp 124]) (.cons (O 123 J) (.cons (O 124 J) .nil)) U46 zfk J J (by decide) J J) (z8.cons (zy ((zcp h100).frz) (xs:=[.tmp 120,.tmp 125]) (.cons (O 120 J) (.cons (O 125 J) .nil)) J J) ?_);exact z8.nil
         intro a s _ L;have lt_d103:=L.blt 7 rfl;have lt_d102:=L.blt 5 rfl;refine zfp (xs:=[.tmp 119,.tmp 126]) 127 L (.cons (O 119 J) (.cons (O 126 J) .nil)) U25 zfv J J (by decide) J J J J fun a s g101 hg_ L=>?_;have d102:Dis (some g101) (some g7):=Dis.newg hg_ lt_d102;have d103:Dis (some g101) (some g11):=Dis.newg hg_ lt_d103;refine sw 4 (zb (O 127 J) J J) L fun a s L=>en' (H94 _ _ ?_);subst h;exact wp_ret (zjn J L J)
        ·replace h:=h.2 hb_;refine wp_skip ?_;show K53 a s.w;refine H53 _ _ (wp_seq_k fun K104 H104=>?_);obtain ⟨r105,h106,h⟩:=h;refine rg (sw 128 (zd (O 6 J) J J) L fun a s L=>?_);refine sw 129 (zbj (off:=1) (O 5 J) U77 J (ze (zm (zh _ _)) J) J ty3 J J) L fun a s L=>sw 130 (zp ty3 (O 129 J) J J) L fun a s L=>sw 131 (zbj (off:=3) (O 7 J) U68 J (ze (ze (ze (zm (zh _ _)) J) J) J) J ty3 J J) L fun a s L=>sw 132 (zp ty3 (O 131 J) J J) L fun a s L=>sw 133 (zbj (off:=4) (O 7 J) U68 J (ze (ze (ze (ze (zm (zh _ _)) J) J) J) J) J ty3 J J) L fun a s L=>sw 134 (zp ty3 (O 133 J) J J) L fun a s L=>sw 135 (zcb (x:=(2,e4.2.1,e9.2.2.2.1,e9.2.2.2.2.1)) (ps:=[(0,.const (.int .i64 2)),(1,.tmp 130),(2,.tmp 132),(3,.tmp 134)]) zic J stt77 (.cons (i:=0) oI J (zbi (zz _ _ _)) (.cons (i:=1) (O 130 J) J (zx (zbi (zz _ _ _)) J) (.cons (i:=2) (O 132 J) J (zx (zx (zbi (zz _ _ _)) J) J) (.cons (i:=3) (O 134 J) J (zx (zx (zx (zz _ _ _) J) J) J) .nil)))) J J) L fun a s L=>sw 136 (zec (xs:=[.tmp 135]) (.cons (O 135 J) .nil) U46 zfk J J (by decide) J J) L fun a s L=>sw 137 (zy ((zcp h106).frz) (xs:=[.tmp 128,.tmp 136]) (.cons (O 128 J) (.cons (O 136 J) .nil)) J J) L fun a s L=>?_;have lt_d109:=L.blt 7 rfl;have lt_d108:=L.blt 5 rfl;refine zfp (xs:=[.tmp 137]) 138 L (.cons (O 137 J) .nil) U25 zfv J J (by decide) J J J J fun a s g107 hg_ L=>?_;have d108:Dis (some g107) (some g7):=Dis.newg hg_ lt_d108;have d109:Dis (some g107) (some g11):=Dis.newg hg_ lt_d109;refine sw 4 (zb (O 138 J) J J) L fun a s L=>en' (H104 _ _ ?_)
         subst h;exact wp_ret (zjn J L J)
end Go.Proofs.YtahgmdbioafmbaaGreatDoor.V
namespace Go.Proofs.YtahgmdbioafmbaaGreatDoor.VD
open Go
set_option linter.unusedVariables false
structure St where
 w:World
 X:Nat→Prop
 lt:∀b,X b→b<w.heap.size
def DR (w w':World):Prop:=w.drawn≤w'.drawn
theorem DR.eq {w w':World} (h:w'.drawn=w.drawn):DR w w':=Nat.le_of_eq h.symm
theorem DR.succ {w w':World} (h:w'.drawn=w.drawn+1):DR w w':=by unfold DR;omega
theorem DR.trans {a b c:World} (h:DR a b) (k:DR b c):DR a c:=Nat.le_trans h k
structure Mv (T:Nat→Prop) (s s':St):Prop where
 dr:DR s.w s'.w
 os:s'.w.os=s.w.os
 tape:s'.w.tape=s.w.tape
 output:s'.w.output=s.w.output
 size:s.w.heap.size≤s'.w.heap.size
 blk:∀b,b<s.w.heap.size→¬ T b→s'.w.heap[b]?=s.w.heap[b]?
 tx:∀b,T b→s.X b
 xx:∀b,s'.X b→s.X b∨s.w.heap.size≤b
structure Ex (s s':St):Prop where
 mv:Mv (fun _=>False) s s'
 keep:∀b,s.X b→s'.X b
theorem Mv.refl (T:Nat→Prop) (s:St) (h:∀b,T b→s.X b):Mv T s s:=⟨DR.eq rfl,rfl,rfl,rfl,Nat.le_refl _,fun _ _ _=>rfl,h,fun _ h=>.inl h⟩
theorem Ex.refl (s:St):Ex s s:=⟨Mv.refl _ s (fun _ h=>h.elim),fun _ h=>h⟩
theorem Ex.trans {a b c:St} (h:Ex a b) (k:Ex b c):Ex a c:=
 ⟨⟨h.mv.dr.trans k.mv.dr,k.mv.os.trans h.mv.os,k.mv.tape.trans h.mv.tape,k.mv.output.trans h.mv.output,Nat.le_trans h.mv.size k.mv.size,
  fun i hi hn=>(k.mv.blk i (Nat.lt_of_lt_of_le hi h.mv.size) hn).trans (h.mv.blk i hi hn),fun _ h=>h.elim,
  fun i hi=>(k.mv.xx i hi).elim (fun j=>h.mv.xx i j) (fun j=>.inr (Nat.le_trans h.mv.size j))⟩,fun i hi=>k.keep i (h.keep i hi)⟩
def Gl (s:St):Prop:=(∀p∈V.gtab,¬ s.X p.1∧∃t fr,s.w.heap[p.1]?=some (.cells p.2.toArray t fr)) ∧
 ∀p∈V.gmap,¬ s.X p.1∧∃m t fr es clock ys,s.w.heap[p.1]?=some (.cells #[.map (some m)] t fr)∧¬ s.X m∧s.w.heap[m]?=some (.map es clock)∧V.Fmst es clock ys∧ys.Perm p.2
theorem Gl.mv {T:Nat→Prop} {s s':St} (h:Gl s) (m:Mv T s s'):Gl s':=by
 have key:∀b o,¬ s.X b→s.w.heap[b]?=some o→¬ s'.X b∧s'.w.heap[b]?=some o:=fun b o h1 h2=>by
  have hlt:b<s.w.heap.size:=(Array.getElem?_eq_some_iff.1 h2).1;refine ⟨fun hx=>(m.xx _ hx).elim h1 (fun hk=>by omega), ?_⟩;rw [m.blk _ hlt (fun ht=>h1 (m.tx _ ht))];exact h2
 refine ⟨fun p hp=>?_,fun p hp=>?_⟩
 ·obtain ⟨h1,t,fr,h2⟩:=h.1 p hp;obtain ⟨k1,k2⟩:=key _ _ h1 h2;exact ⟨k1,t,fr,k2⟩
 ·obtain ⟨h1,b,t,fr,es,clock,ys,h2,h3,h4,h5,h6⟩:=h.2 p hp;obtain ⟨k1,k2⟩:=key _ _ h1 h2;obtain ⟨k3,k4⟩:=key _ _ h3 h4;exact ⟨k1,b,t,fr,es,clock,ys,k2,k3,k4,h5,h6⟩
abbrev N0:Nat→Prop:=fun _=>False
structure Fr (M:Nat→Prop) (s s':St):Prop where
 mv:Mv M s s'
 keep:∀b,s.X b→s'.X b
theorem Fr.ex {s s':St} (h:Fr N0 s s'):Ex s s':=⟨h.mv,h.keep⟩
theorem Fr.refl {M:Nat→Prop} {s:St} (h:∀b,M b→s.X b):Fr M s s:=⟨Mv.refl M s h,fun _ h=>h⟩
theorem Fr.trans {M:Nat→Prop} {a b c:St} (h:Fr M a b) (k:Ex b c):Fr M a c:=
 ⟨⟨h.mv.dr.trans k.mv.dr,k.mv.os.trans h.mv.os,k.mv.tape.trans h.mv.tape,k.mv.output.trans h.mv.output,Nat.le_trans h.mv.size k.mv.size,
  fun i hi hn=>(k.mv.blk i (Nat.lt_of_lt_of_le hi h.mv.size) (fun h=>h)).trans (h.mv.blk i hi hn),h.mv.tx,
  fun i hi=>(k.mv.xx i hi).elim (fun j=>h.mv.xx i j) (fun j=>.inr (Nat.le_trans h.mv.size j))⟩,fun i hi=>k.keep i (h.keep i hi)⟩
structure Pd where
 p:St→Value→Prop
 own:Nat→Prop
 mv:∀{T s s' v},Mv T s s'→(∀b,own b→¬ T b∧(s.X b→s'.X b))→p s v→p s' v
theorem Pd.ex {q:Pd} {s s':St} {v:Value} (h:Ex s s') (hq:q.p s v):q.p s' v:=q.mv h.mv (fun b _=>⟨id,h.keep b⟩) hq
abbrev Lst:=List (Nat × Pd)
def lk:Lst→Nat→Option Pd
 | [],_=>none
 | (d,q)::r,t=>bif Nat.beq d t then some q else lk r t
structure Has (M:Nat→Prop) (n:Nat) (s0:St) (a:Act) (s:St) (L:Lst):Prop where
 size:a.tmps.size=n
 defers:a.defers=[]
 ent:Fr M s0 s
 gl:Gl s0
 at_:∀t q,lk L t=some q→q.p s (a.eval (.tmp t))
theorem Has.gls {M:Nat→Prop} {n:Nat} {s0:St} {a:Act} {s:St} {L:Lst} (h:Has M n s0 a s L):Gl s:=h.gl.mv h.ent.mv
theorem Has.get {M:Nat→Prop} {n:Nat} {s0:St} {a:Act} {s:St} {L:Lst} (h:Has M n s0 a s L) (t:Nat) {q:Pd} (e:lk L t=some q):q.p s (a.eval (.tmp t)):=h.at_ t q e
theorem zd6 {a:Act} {d n:Nat} {v:Value} (hn:a.tmps.size=n) (hd:Nat.blt d n=true):(a.put (some d) v).eval (.tmp d)=v:=by
 have:d<a.tmps.size:=by rw [hn];exact Nat.le_of_ble_eq_true hd
 simp [Act.eval,Act.put,Array.getD,this]
theorem zel {a:Act} {d t:Nat} {v:Value} (h:d≠t):(a.put (some d) v).eval (.tmp t)=a.eval (.tmp t):=by
 simp [Act.eval,Act.put,Array.getElem?_setIfInBounds_ne h]
theorem zf9 {d t:Nat} (h:d≠t):Nat.beq d t=false:=by
 rw [← Bool.not_eq_true];exact fun e=>h (Nat.eq_of_beq_eq_true e)
theorem Has.put {M:Nat→Prop} {n:Nat} {s0:St} {a:Act} {s s':St} {L:Lst} (h:Has M n s0 a s L) (e:Ex s s') {d:Nat} (hd:Nat.blt d n=true) {v:Value} {q:Pd} (hq:q.p s' v):
  Has M n s0 (a.put (some d) v) s' ((d,q)::L) where
 size:=by simp [Act.put,h.size]
 defers:=h.defers
 ent:=h.ent.trans e
 gl:=h.gl
 at_:=by
  intro t q' hl;unfold lk at hl
  by_cases ht:d=t
  ·subst ht;simp at hl;subst hl;rw [zd6 h.size hd];exact hq
  ·have:Nat.beq d t=false:=zf9 ht;rw [this] at hl;rw [zel ht];exact Pd.ex e (h.at_ t q' hl)
theorem Has.ex {M:Nat→Prop} {n:Nat} {s0:St} {a:Act} {s s':St} {L:Lst} (h:Has M n s0 a s L) (e:Ex s s'):Has M n s0 a s' L where
 size:=h.size
 defers:=h.defers
 ent:=h.ent.trans e
 gl:=h.gl
 at_:=fun t q hl=>Pd.ex e (h.at_ t q hl)
theorem Has.sub {M:Nat→Prop} {n:Nat} {s0:St} {a:Act} {s:St} {L L':Lst} (h:Has M n s0 a s L) (hs:∀t q,lk L' t=some q→q.p s (a.eval (.tmp t))):Has M n s0 a s L':=
 ⟨h.size,h.defers,h.ent,h.gl,hs⟩
theorem Has.cons {M:Nat→Prop} {n:Nat} {s0:St} {a:Act} {s:St} {L:Lst} (h:Has M n s0 a s L) (d:Nat) {q:Pd} (hq:q.p s (a.eval (.tmp d))):Has M n s0 a s ((d,q)::L):=by
 refine ⟨h.size,h.defers,h.ent,h.gl,fun t q' hl=>?_⟩;unfold lk at hl
 by_cases ht:d=t
 ·subst ht;simp at hl;subst hl;exact hq
 ·have:Nat.beq d t=false:=zf9 ht;rw [this] at hl;exact h.at_ t q' hl
def OpR (P:Program) (ops:Array Oper) (o:Oper) (a:Act) (s:St) (K:Value→St→Prop):Prop:=
 ∀(Q:Exit→Act→World→Prop) (k:Act→World→Prop),(∀v s',K v s'→k (a.put o.dst v) s'.w) →
  (if Region.wanted o (yielded ops a.tmps) then o.wp P a s.w k Q else k (a.put o.dst undef) s.w)
def T (P:Program) (ops:Array Oper) (o:Oper) (L:Lst) (q:Pd):Prop:=
 ∀M n s0 a s,Has M n s0 a s L→OpR P ops o a s (fun v s'=>Ex s s'∧q.p s' v)
theorem OpR.of_run {P:Program} {ops:Array Oper} {o:Oper} {a:Act} {s:St} {K:Value→St→Prop} (hg:o.guard=none) {v:Value} {s':St}
  (h:(execOp a.eval o).run P s.w = .ok (.value v) s'.w) (hK:K v s'):OpR P ops o a s K:=by
 intro Q k hk;simp only [Region.wanted,hg,if_true];unfold Oper.wp;rw [h];exact hk v s' hK
theorem st {P:Program} {ops:Array Oper} {Q:Exit→Act→World→Prop} {rest:List Oper} {o:Oper} {M:Nat→Prop} {n:Nat} {s0:St} {a:Act} {s:St} {L:Lst} {q:Pd} (d:Nat)
  (h:T P ops o L q) (hd:o.dst=some d) (hn:Nat.blt d n=true) (hL:Has M n s0 a s L)
  (k:∀a' s',Ex s s'→Has M n s0 a' s' ((d,q)::L)→wpList P ops Q rest a' s'.w):wpList P ops Q (o::rest) a s.w:=by
 refine wpList_step fun K hK=>?_;refine h M n s0 a s hL Q K fun v s' ⟨e,hq⟩=>hK _ _ ?_;rw [hd];exact k _ s' e (hL.put e hn hq)
theorem sx {P:Program} {ops:Array Oper} {Q:Exit→Act→World→Prop} {rest:List Oper} {o:Oper} {M:Nat→Prop} {n:Nat} {s0:St} {a:Act} {s:St} {L:Lst} {q:Pd} (d:Nat)
  (h:T P ops o L q) (hL:Has M n s0 a s L) (k:∀a' s',Ex s s'→Has M n s0 a' s' ((d,q)::L)→wpList P ops Q rest a' s'.w) (hd:o.dst=some d:=by rfl) (hn:Nat.blt d n=true:=by rfl):wpList P ops Q (o::rest) a s.w:=st d h hd hn hL k
theorem sw {P:Program}{ops:Array Oper}{Q:Exit→Act→World→Prop}{rest:List Oper}{o:Oper}{M:Nat→Prop}{n:Nat}{s0:St}{a:Act}{s:St}{L:Lst}{q:Pd}(d:Nat)
  (h:T P ops o L q) (hL:Has M n s0 a s L) (k:∀a' s',Has M n s0 a' s' ((d,q)::L)→wpList P ops Q rest a' s'.w) (hd:o.dst=some d:=by rfl) (hn:Nat.blt d n=true:=by rfl):wpList P ops Q (o::rest) a s.w:=st d h hd hn hL fun a s _ h=>k a s h
theorem nE {p:Nat→Prop} (b:Nat) (h:False):p b:=h.elim
theorem en' {P:Program} {ops:Array Oper} {Q:Exit→Act→World→Prop} {a:Act} {w:World} (h:Q .normal a w):wpList P ops Q [] a w:=h
theorem rg {P:Program} {id:Nat} {l:List Oper} {Q:Exit→Act→World→Prop} {a:Act} {w:World} (h:wpList P l.toArray Q l a w):(Code.region id l.toArray false).wp P Q a w:=wp_region_lit h
def zh7 (ops:Array Oper) (qs:List Pd):List Edge→Lst→Lst
 | [],L=>L
 | e::r,L=>match Region.binds .any e,(ops[e.on]?).bind (·.dst),qs[e.on]? with
  | true,some d,some q=>(d,q)::zh7 ops qs r L
  | _,_,_=>zh7 ops qs r L
def zkg (ops:Array Oper):Nat→Nat→Nat→Bool
 | 0,_,_=>false
 | f+1,i,k=>match ops[i]? with
  | none=>false
  | some o=>(o.after.toList.any fun e=>Region.binds .any e&&Nat.beq e.on k)||(o.after.toList.any fun e=>Region.binds .any e&&zkg ops f e.on k)
theorem zd3 {ops:Array Oper} {p:Nat→Prop} (hp:∀i o,p i→ops[i]?=some o→∀e∈o.after.toList,Region.binds .any e=true→p e.on):
  ∀(f i k:Nat),zkg ops f i k=true→(∀o,ops[i]?=some o→∀e∈o.after.toList,Region.binds .any e=true→p e.on)→p k:=by
 intro f
 induction f with
 | zero=>intro i k h;cases h
 | succ f ih=>
  intro i k h hi;unfold zkg at h;cases ho:ops[i]? with
  | none=>rw [ho] at h;cases h
  | some o=>
   simp only [ho,Bool.or_eq_true,List.any_eq_true,Bool.and_eq_true] at h;rcases h with ⟨e,he,hb,hk⟩ | ⟨e,he,hb,hk⟩
   ·rw [← Nat.eq_of_beq_eq_true hk];exact hi o ho e he hb
   ·have:=hi o ho e he hb;exact ih e.on k hk fun o' ho'=>hp e.on o' this ho'
def zeh (ops:Array Oper) (m n:Nat) (ks:List Nat) (F:List Nat):Bool:=
 (F.all fun k=>Nat.blt k m) &&
 (List.range ops.size).all fun i=>match ops[i]? with
  | none=>false
  | some o=>(o.after.toList.all fun e=>!Region.binds .any e||Nat.blt e.on i) &&
   (if i<m then F.contains i||(match o.dst with
    | none=>false
    | some d=>Nat.blt d n&&ks.all (fun t=>!Nat.beq t d)&&(List.range m).all fun j=>Nat.beq j i||!((ops[j]?).bind (·.dst)==some d))
   else (List.range i).all fun k=>F.contains k||zkg ops ops.size i k)
theorem zdb {ops:Array Oper} {listed:Array Bool} {i:Nat}:i∈Region.ready .any ops listed ↔
  i<ops.size∧listed.getD i true=false∧∃o,ops[i]?=some o∧∀e∈o.after.toList,Region.binds .any e=true→listed.getD e.on false=true:=by
 unfold Region.ready;simp only [List.mem_filter,List.mem_range,Bool.and_eq_true,Bool.not_eq_true'];constructor
 ·rintro ⟨h1,h2,h3⟩;refine ⟨h1,h2, ?_⟩;cases ho:ops[i]? with
  | none=>simp [ho] at h3
  | some o=>
   refine ⟨o,rfl,fun e he hb=>?_⟩;simp only [ho,Option.map_some,Option.getD_some] at h3;rw [← Array.all_toList,List.all_eq_true] at h3;have:=h3 e he;simpa [hb] using this
 ·rintro ⟨h1,h2,o,ho,h3⟩;refine ⟨h1,h2, ?_⟩;simp only [ho,Option.map_some,Option.getD_some];rw [← Array.all_toList,List.all_eq_true];intro e he;cases hb:Region.binds .any e
  ·simp
  ·simp [h3 e he hb]
theorem zc7 {listed:Array Bool} {i k:Nat} {d:Bool} (h:i<listed.size):(listed.setIfInBounds i true).getD k d=if k=i then true else listed.getD k d:=by
 simp only [Array.getD_eq_getD_getElem?,Array.getElem?_setIfInBounds]
 by_cases hk:k=i
 ·subst hk;simp [h]
 ·simp [hk,Ne.symm hk]
theorem zfn {P:Program} {ops:Array Oper} {Q:Exit→Act→World→Prop} {m n:Nat} {ks F:List Nat} (hok:zeh ops m n ks F=true):
  ∀(f k:Nat) (listed:Array Bool) (a:Act) (w:World),k+f=ops.size→m≤k→listed.size=ops.size→(∀i,i<ops.size→listed.getD i true=decide (i<k)) →
   wpOps P ops Q (List.range' k f) a w→wpAny P .any ops Q f listed a w:=by
 unfold zeh at hok;rw [Bool.and_eq_true] at hok;obtain ⟨hF,hok⟩:=hok;rw [List.all_eq_true] at hok hF;intro f
 induction f with
 | zero=>
  intro k listed a w hk hm hs hl h;refine ⟨?_,h⟩;cases hr:Region.ready .any ops listed with
  | nil=>rfl
  | cons x xs=>
   have hx:x∈Region.ready .any ops listed:=by rw [hr];simp
   obtain ⟨h1,h2,_⟩:=zdb.1 hx;rw [hl x h1] at h2;simp at h2;omega
 | succ f ih=>
  intro k listed a w hk hm hs hl h;rw [List.range'_succ,wpOps_cons] at h;have hkr:k∈Region.ready .any ops listed:=by
   obtain ⟨o,ho⟩:∃o,ops[k]?=some o:=⟨ops[k]'(by omega),by simp⟩;refine zdb.2 ⟨by omega,by rw [hl k (by omega)];simp,o,ho,fun e he hb=>?_⟩;have:=hok k (by simp;omega);simp only [ho,Bool.and_eq_true] at this;have h1:=List.all_eq_true.1 this.1 e he;simp only [hb,Bool.not_true,Bool.false_or] at h1;have h2:e.on<k:=Nat.le_of_ble_eq_true h1;have h3:=hl e.on (by omega);have h4:listed.getD e.on false=listed.getD e.on true:=by simp [Array.getD,hs,show e.on<ops.size by omega]
   rw [h4,h3];simpa using h2
  refine ⟨fun he=>by rw [he] at hkr;simp at hkr,fun i hi=>?_⟩;obtain ⟨h1,h2,o,ho,h3⟩:=zdb.1 hi;have hik:¬ i<k:=by rw [hl i h1] at h2;simpa using h2
  have:i=k:=by
   rcases Nat.lt_or_ge k i with hlt | hge
   ·exfalso;have h5:=hok i (by simpa using h1);simp only [ho,Bool.and_eq_true] at h5;have h6:=h5.2;rw [if_neg (by omega),List.all_eq_true] at h6;have h7:=h6 k (by simpa using hlt);have hkF:F.contains k=false:=by
     cases hc:F.contains k
     ·rfl
     ·have:=hF k (by simpa using hc);have:k<m:=Nat.le_of_ble_eq_true this;omega
    rw [hkF,Bool.false_or] at h7;have h8:=zd3 (ops:=ops) (p:=fun j=>listed.getD j false=true) (fun j o' hj ho' e he hb=>by
     have hjs:j<ops.size:=by
      rcases Nat.lt_or_ge j ops.size with h | h
      ·exact h
      ·simp [Array.getElem?_eq_none h] at ho'
     have hjk:j<k:=by
      have:listed.getD j false=listed.getD j true:=by simp [Array.getD,hs,hjs]
      rw [this,hl j hjs] at hj;simpa using hj
     have hok2:=hok j (by simpa using hjs);simp only [ho',Bool.and_eq_true] at hok2;have h9:=List.all_eq_true.1 hok2.1 e he;simp only [hb,Bool.not_true,Bool.false_or] at h9;have h10:e.on<j:=Nat.le_of_ble_eq_true h9;have:listed.getD e.on false=listed.getD e.on true:=by simp [Array.getD,hs,show e.on<ops.size by omega]
     rw [this,hl e.on (by omega)];simp;omega) _ i k h7 (fun o' ho'=>by rw [ho] at ho';cases ho';exact h3)
    have h10:listed.getD k false=listed.getD k true:=by simp [Array.getD,hs,show k<ops.size by omega]
    rw [h10,hl k (by omega)] at h8;simp at h8
   ·omega
  subst this;refine wpOp_mono (fun a w hw=>ih (i+1) _ a w (by omega) (by omega) (by simpa using hs) (fun j hj=>?_) hw) h;rw [zc7 (by omega),hl j hj]
  by_cases hj':j=i
  ·simp [hj']
  ·simp only [if_neg hj',decide_eq_decide];omega
theorem zjg {ops:Array Oper} {qs:List Pd} {M:Nat→Prop} {n:Nat} {s0:St} {a:Act} {s:St} {L:Lst} (hL:Has M n s0 a s L):
  ∀(es:List Edge),(∀e∈es,Region.binds .any e=true→∀d q,(ops[e.on]?).bind (·.dst)=some d→qs[e.on]?=some q→q.p s (a.eval (.tmp d)))→Has M n s0 a s (zh7 ops qs es L)
 | [],_=>hL
 | e::r,h=>by
  have ih:=zjg hL r (fun e' he'=>h e' (by simp [he']));unfold zh7;split
  ·rename_i d q hb hd hq
   exact ih.cons d (h e (by simp) hb d q hd hq)
  ·exact ih
theorem zqn {L:Lst} {d:Nat} (h:(L.map (·.1)).all (fun t=>!Nat.beq t d)=true):lk L d=none:=by
 induction L with
 | nil=>rfl
 | cons x r ih=>
  simp only [List.map_cons,List.all_cons,Bool.and_eq_true,Bool.not_eq_true'] at h;unfold lk;rw [h.1];exact ih h.2
def znz (ops:Array Oper) (qs:List Pd):Nat→Lst→Lst
 | 0,L=>L
 | i+1,L=>match (ops[i]?).bind (·.dst),qs[i]? with
  | some d,some q=>(d,q)::znz ops qs i L
  | _,_=>znz ops qs i L
theorem zgb {ops:Array Oper} {qs:List Pd} {M:Nat→Prop} {n:Nat} {s0:St} {a:Act} {s:St} {L:Lst} (hL:Has M n s0 a s L):
  ∀m,(∀i,i<m→∀d q,(ops[i]?).bind (·.dst)=some d→qs[i]?=some q→q.p s (a.eval (.tmp d)))→Has M n s0 a s (znz ops qs m L)
 | 0,_=>hL
 | m+1,h=>by
  have ih:=zgb hL m (fun i hi=>h i (by omega));unfold znz;split
  ·rename_i d q hd hq
   exact ih.cons d (h m (by omega) d q hd hq)
  ·exact ih
theorem rd_key {P:Program} {ops:Array Oper} {Q:Exit→Act→World→Prop} {M:Nat→Prop} {n:Nat} {s0:St} {s:St} {L:Lst} (m:Nat) (qs:List Pd) (F:List Nat)
  (hok:zeh ops m n (L.map (·.1)) F=true) (hq:qs.length=m) (hm:m≤ops.size)
  (hT:∀i o q,i<m→ops[i]?=some o→qs[i]?=some q→F.contains i=false→T P ops o (zh7 ops qs o.after.toList L) q)
  (hB:∀a' s',Ex s s'→Has M n s0 a' s' (znz ops qs m L)→wpOps P ops Q (List.range' m (ops.size-m)) a' s'.w):
  ∀(f:Nat) (listed:Array Bool) (a:Act) (s':St),listed.size=ops.size→((List.range ops.size).filter (fun i=>!listed.getD i true)).length=f→Ex s s'→Has M n s0 a s' L →
   (∀i o,listed.getD i false=true→ops[i]?=some o→∀e∈o.after.toList,Region.binds .any e=true→listed.getD e.on false=true)→(∀i,i<ops.size→m≤i→listed.getD i true=false) →
   (∀i,i<m→listed.getD i true=true→∀d q,(ops[i]?).bind (·.dst)=some d→qs[i]?=some q→q.p s' (a.eval (.tmp d)))→(∀i∈F,listed.getD i true=true)→wpAny P .any ops Q f listed a s'.w:=by
 have hok':=hok;unfold zeh at hok';rw [Bool.and_eq_true] at hok';obtain ⟨hF,hok'⟩:=hok';rw [List.all_eq_true] at hok';intro f
 induction f with
 | zero=>
  intro listed a s' hs hc e hL' hcl hn hd hl0;have hall:∀i,i<ops.size→listed.getD i true=true:=by
   intro i hi;have:(List.range ops.size).filter (fun i=>!listed.getD i true)=[]:=List.length_eq_zero_iff.1 hc;rw [List.filter_eq_nil_iff] at this;have:=this i (by simpa using hi);simpa using this
  have hmm:m=ops.size:=by
   rcases Nat.lt_or_ge m ops.size with h | h
   ·have:=hn m h (Nat.le_refl _);rw [hall m h] at this;cases this
   ·omega
  refine zfn hok 0 ops.size listed a s'.w (by omega) (by omega) hs (fun i hi=>by rw [hall i hi];simp [hi]) ?_;have:=hB a s' e (zgb hL' m fun i hi=>hd i hi (hall i (by omega)));rw [hmm] at this;simpa using this
 | succ f ih=>
  intro listed a s' hs hc e hL' hcl hn hd hl0
  by_cases hdone:∀i,i<m→listed.getD i true=true
  ·-- the tail
   have hf:f+1=ops.size-m:=by
    rw [← hc];have h1:(List.range ops.size).filter (fun i=>!listed.getD i true)=List.range' m (ops.size-m):=by
     have e1:List.range ops.size=List.range' 0 m++List.range' m (ops.size-m):=by
      rw [List.range_eq_range',show ops.size=m+(ops.size-m) by omega,← List.range'_append_1];simp
     rw [e1,List.filter_append];have e2:(List.range' 0 m).filter (fun i=>!listed.getD i true)=[]:=by
      rw [List.filter_eq_nil_iff];intro i hi;simp at hi;simp [hdone i hi]
     have e3:(List.range' m (ops.size-m)).filter (fun i=>!listed.getD i true)=List.range' m (ops.size-m):=by
      rw [List.filter_eq_self];intro i hi;simp at hi;simp [hn i (by omega) (by omega)]
     rw [e2,e3,List.nil_append]
    rw [h1];simp
   refine zfn hok (f+1) m listed a s'.w (by omega) (Nat.le_refl _) hs (fun i hi=>?_) ?_
   ·by_cases h:i<m
    ·simp [h,hdone i h]
    ·simp [h,hn i hi (by omega)]
   ·rw [hf];exact hB a s' e (zgb hL' m fun i hi=>hd i hi (hdone i hi))
  ·have hex:∃i,i<m∧listed.getD i true=false:=by
    have h1:=Classical.not_forall.1 hdone;obtain ⟨i,hi⟩:=h1;rw [Classical.not_imp] at hi;exact ⟨i,hi.1,by simpa using hi.2⟩
   have hlow:∀i,i∈Region.ready .any ops listed→i<m:=by
    intro i hi;obtain ⟨h1,h2,o,ho,h3⟩:=zdb.1 hi;rcases Nat.lt_or_ge i m with h | h
    ·exact h
    ·exfalso;obtain ⟨k,hk,hkl⟩:=hex;have h5:=hok' i (by simpa using h1);simp only [ho,Bool.and_eq_true] at h5;have h6:=h5.2;rw [if_neg (by omega),List.all_eq_true] at h6;have h7:=h6 k (by simp;omega);have hkF:F.contains k=false:=by
      cases hc':F.contains k
      ·rfl
      ·have:=hl0 k (by simpa using hc');rw [this] at hkl;cases hkl
     rw [hkF,Bool.false_or] at h7;have h8:=zd3 (ops:=ops) (p:=fun j=>listed.getD j false=true) hcl _ i k h7 (fun o' ho'=>by rw [ho] at ho';cases ho';exact h3);have h10:listed.getD k false=listed.getD k true:=by simp [Array.getD,hs,show k<ops.size by omega]
     rw [h10,hkl] at h8;cases h8
   refine ⟨fun hnil=>?_,fun i hi=>?_⟩
   ·-- the least that isn't done is ready
    exfalso;obtain ⟨k,hk,hmin⟩:=exists_least (p:=fun i=>i<m∧listed.getD i true=false) hex;obtain ⟨o,ho⟩:∃o,ops[k]?=some o:=⟨ops[k]'(by omega),by simp⟩;have:k∈Region.ready .any ops listed:=by
     refine zdb.2 ⟨by omega,hk.2,o,ho,fun e he hb=>?_⟩;have h5:=hok' k (by simp;omega);simp only [ho,Bool.and_eq_true] at h5;have h1:=List.all_eq_true.1 h5.1 e he;simp only [hb,Bool.not_true,Bool.false_or] at h1;have h2:e.on<k:=Nat.le_of_ble_eq_true h1;have h4:listed.getD e.on false=listed.getD e.on true:=by simp [Array.getD,hs,show e.on<ops.size by omega]
     rw [h4]
     by_cases h6:listed.getD e.on true=true
     ·exact h6
     ·have:=hmin e.on ⟨by omega,by simpa using h6⟩;omega
    rw [hnil] at this;simp at this
   ·have him:=hlow i hi;obtain ⟨h1,h2,o,ho,h3⟩:=zdb.1 hi;obtain ⟨q,hqi⟩:∃q,qs[i]?=some q:=⟨qs[i]'(by omega),by simp⟩;have h5:=hok' i (by simpa using h1);have hiF:F.contains i=false:=by
     cases hc':F.contains i
     ·rfl
     ·have:=hl0 i (by simpa using hc');rw [this] at h2;cases h2
    simp only [ho,Bool.and_eq_true,if_pos him,hiF,Bool.false_or] at h5;obtain ⟨d,hdst⟩:∃d,o.dst=some d:=by
     cases hd':o.dst with
     | none=>rw [hd'] at h5;simp at h5
     | some d=>exact ⟨d,rfl⟩
    have h6:=h5.2;rw [hdst] at h6;simp only [Bool.and_eq_true] at h6;have hdep:Has M n s0 a s' (zh7 ops qs o.after.toList L):=by
     refine zjg hL' _ fun e' he' hb d' q' hd' hq'=>?_;have h7:=h3 e' he' hb;have h8:=List.all_eq_true.1 h5.1 e' he';simp only [hb,Bool.not_true,Bool.false_or] at h8;have h9:e'.on<i:=Nat.le_of_ble_eq_true h8;have h10:listed.getD e'.on false=listed.getD e'.on true:=by simp [Array.getD,hs,show e'.on<ops.size by omega]
     exact hd e'.on (by omega) (h10 ▸ h7) d' q' hd' hq'
    have hrun:=hT i o q him ho hqi hiF M n s0 a s' hdep Q (wpAny P .any ops Q f (listed.setIfInBounds i true)) ?_
    ·unfold wpOp;simp only [ho]
     by_cases hw:Region.wanted o (yielded ops a.tmps)=true
     ·rw [if_pos hw] at hrun ⊢;exact .inl hrun
     ·rw [if_neg hw] at hrun ⊢;exact hrun
    ·rintro v s'' ⟨e',hq'⟩;have hfresh:lk L d=none:=zqn h6.1.2;refine ih _ _ s'' (by simpa using hs) ?_ (e.trans e') ?_ ?_ ?_ ?_ ?_
     ·-- one fewer
      have hnd:((List.range ops.size).filter (fun j=>!listed.getD j true)).Nodup:=List.Nodup.sublist List.filter_sublist List.nodup_range;have hmem:i∈(List.range ops.size).filter (fun j=>!listed.getD j true):=List.mem_filter.2 ⟨by simpa using h1,by rw [h2];rfl⟩;have e1:(List.range ops.size).filter (fun j=>!(listed.setIfInBounds i true).getD j true)=((List.range ops.size).filter (fun j=>!listed.getD j true)).filter (fun j=>j != i):=by
       rw [List.filter_filter];refine List.filter_congr fun j hj=>?_;rw [zc7 (by omega)]
       by_cases hji:j=i <;> simp [hji]
      rw [e1,← List.Nodup.erase_eq_filter hnd,List.length_erase_of_mem hmem,hc];rfl
     ·have hp:=hL'.put e' (d:=d) h6.1.1 hq';rw [hdst];refine hp.sub fun t q'' hl=>hp.at_ t q'' ?_;unfold lk;have:d≠t:=fun he=>by rw [he] at hfresh;rw [hfresh] at hl;cases hl
      rw [zf9 this];exact hl
     ·intro j o' hj ho' e2 he2 hb2;rw [zc7 (by omega)] at hj ⊢;split
      ·rfl
      ·by_cases hji:j=i
       ·subst hji;rw [ho] at ho';cases ho';exact h3 e2 he2 hb2
       ·rw [if_neg hji] at hj;exact hcl j o' hj ho' e2 he2 hb2
     ·intro j hj hmj;rw [zc7 (by omega),if_neg (by omega)];exact hn j hj hmj
     ·intro j hj hlj d' q'' hd' hq'';rw [hdst]
      by_cases hji:j=i
      ·subst hji;rw [ho,Option.bind_some,hdst] at hd';cases hd';rw [hqi] at hq'';cases hq'';rw [zd6 hL'.size h6.1.1];exact hq'
      ·rw [zc7 (by omega),if_neg hji] at hlj;have h7:=List.all_eq_true.1 h6.2 j (by simpa using hj);have h8:Nat.beq j i=false:=zf9 hji;rw [h8,Bool.false_or,hd'] at h7;have:d≠d':=fun he=>by simp [he] at h7
       rw [zel this];exact Pd.ex e' (hd j hj hlj d' q'' hd' hq'')
     ·intro j hj;rw [zc7 (by omega)];split
      ·rfl
      ·exact hl0 j hj
theorem rd {P:Program} {id:Nat} {ops:Array Oper} {Q:Exit→Act→World→Prop} {M:Nat→Prop} {n:Nat} {s0:St} {a:Act} {s:St} {L:Lst} (hf:P.follows .mixedOrders=true) (m:Nat) (qs:List Pd)
  (hL:Has M n s0 a s L) (hok:zeh ops m n (L.map (·.1)) []=true) (hq:qs.length=m) (hm:m≤ops.size)
  (hT:∀i o q,i<m→ops[i]?=some o→qs[i]?=some q→T P ops o (zh7 ops qs o.after.toList L) q)
  (hB:∀a' s',Ex s s'→Has M n s0 a' s' (znz ops qs m L)→wpOps P ops Q (List.range' m (ops.size-m)) a' s'.w):(Code.region id ops true).wp P Q a s.w:=by
 refine wp_region_any hf ?_;have:=rd_key m qs [] hok hq hm (fun i o q h1 h2 h3 _=>hT i o q h1 h2 h3) hB ops.size (Array.replicate ops.size false) a ⟨{ s.w with drawn:=s.w.drawn+1 },s.X,s.lt⟩ (by simp) ?_ ⟨⟨DR.succ rfl,rfl,rfl,rfl,Nat.le_refl _,fun _ _ _=>rfl,fun _ h=>h.elim,fun _ h=>.inl h⟩,fun _ h=>h⟩ ?_ ?_ ?_ ?_ (fun i h=>by cases h)
 ·exact this
 ·rw [List.filter_eq_self.2]
  ·simp
  ·intro i hi;simp at hi;simp [hi]
 ·exact hL.ex ⟨⟨DR.succ rfl,rfl,rfl,rfl,Nat.le_refl _,fun _ _ _=>rfl,fun _ h=>h.elim,fun _ h=>.inl h⟩,fun _ h=>h⟩
 ·intro i o h;simp [Array.getD] at h
 ·intro i hi _;simp [hi]
 ·intro i hi h;simp [show i<ops.size by omega] at h
def ze4 (s:St):Nat→Prop:=fun b=>b<s.w.heap.size∧¬ s.X b
def Same (S:Nat→Prop) (w w':World):Prop:=∀b,S b→w'.heap[b]?=w.heap[b]?
structure En (α:Type) where
 sz:Nat
 agg:Bool
 R:World→(Nat→Prop)→List Value→α→Prop
 sc:agg=false→sz=1
 pos:0<sz
 len:∀{w S cs x},R w S cs x→cs.length=sz
 one:∀{w S cs x},R w S cs x→∀u∈cs,u.oneCell'=true
 mono:∀{w S S' cs x},(∀b,S b→S' b)→R w S cs x→R w S' cs x
 move:∀{w w' S cs x},Same S w w'→R w S cs x→R w' S cs x
def En.val {α:Type} (E:En α) (cs:List Value):Value:=bif E.agg then .agg cs.toArray else cs.headD undef
theorem En.val_cells {α:Type} {E:En α} {w S cs x} (h:E.R w S cs x):(E.val cs).cells=cs.toArray:=by
 unfold En.val;cases ha:E.agg
 ·have hl:=E.len h;rw [E.sc ha] at hl
  match cs,hl with
  | [u],_=>
   have h1:=E.one h u (by simp);simp only [cond_false,List.headD_cons];cases u <;> first | rfl | simp [Value.oneCell'] at h1
 ·rfl
theorem En.go {α:Type} (E:En α) {T:Nat→Prop} {s s':St} {cs:List Value} {x:α} (h:Mv T s s') (hR:E.R s.w (ze4 s) cs x):E.R s'.w (ze4 s') cs x:=
 E.mono (fun b hb=>⟨Nat.lt_of_lt_of_le hb.1 h.size,fun hx=>(h.xx b hx).elim hb.2 (fun hk=>by have:=hb.1;omega)⟩)
  (E.move (fun b hb=>h.blk b hb.1 (fun ht=>hb.2 (h.tx b ht))) hR)
def Pd.rep {α:Type} (E:En α) (x:α):Pd:=
 ⟨fun s v=>∃cs,v=E.val cs∧E.R s.w (ze4 s) cs x,fun _=>False,fun h _ ⟨cs,hv,hR⟩=>⟨cs,hv,E.go h hR⟩⟩
def zcy (w:World) (b o:Nat) (cs:List Value):Prop:=∀j u,cs[j]?=some u→w.cell? ⟨b,o+j,none⟩=some u
theorem zcy.same {w w':World} {b o:Nat} {cs:List Value} (h:zcy w b o cs) (hb:w'.heap[b]?=w.heap[b]?):zcy w' b o cs:=
 fun j u hu=>by rw [World.cell?_of_block (w:=w) hb];exact h j u hu
theorem zey (b o j:Nat):(⟨b,o,none⟩:Addr).add j=⟨b,o+j,none⟩:=by unfold Addr.add;split <;> simp_all
def Pd.ptr {α:Type} (E:En α) (x:α):Pd:=
 ⟨fun s v=>∃b o cs,v = .pointer (some ⟨b,o,none⟩)∧ze4 s b∧zcy s.w b o cs∧E.R s.w (ze4 s) cs x,fun _=>False,
  fun {T s s' v} h _ ⟨b,o,cs,hv,hb,hc,hR⟩=>⟨b,o,cs,hv,
   ⟨Nat.lt_of_lt_of_le hb.1 h.size,fun hx=>(h.xx b hx).elim hb.2 (fun hk=>by have:=hb.1;omega)⟩,
   hc.same (h.blk b hb.1 (fun ht=>hb.2 (h.tx b ht))),E.go h hR⟩⟩
def Pd.optr {α:Type} (E:En α) (N:Nat) (og:Option Nat) (o:Nat) (x:α):Pd:=
 ⟨fun s v=>∃g,og=some g∧v = .pointer (some ⟨g,o,none⟩)∧N≤g∧g<s.w.heap.size∧s.X g∧∃cs,zcy s.w g o cs∧E.R s.w (ze4 s) cs x,fun b=>og=some b,
  fun {T s s' v} h hb ⟨g,ho,hv,hN,hg,hx,cs,hc,hR⟩=>⟨g,ho,hv,hN,Nat.lt_of_lt_of_le hg h.size,(hb g ho).2 hx,cs,hc.same (h.blk g hg (hb g ho).1),E.go h hR⟩⟩
def Pd.box {α:Type} (E:En α) (N g:Nat) (x:α):Pd:=
 ⟨fun s v=>v = .pointer (some ⟨g,0,none⟩)∧N≤g∧s.X g∧∃cs t,s.w.heap[g]?=some (.cells cs.toArray t (0,0))∧E.R s.w (ze4 s) cs x,fun b=>b=g,
  fun {T s s' v} h hb ⟨hv,hN,hx,cs,t,hc,hR⟩=>⟨hv,hN,(hb g rfl).2 hx,cs,t,by
   rw [h.blk g (Array.getElem?_eq_some_iff.1 hc).1 (hb g rfl).1];exact hc,E.go h hR⟩⟩
def InR (k:IntKind) (x:Int):Prop:=k.min≤x∧x≤k.max
instance (k : IntKind) (x : Int) : Decidable (InR k x):=by unfold InR; infer_instance
def En.int (k:IntKind):En Int where
 sz:=1
 agg:=false
 R:=fun _ _ cs x=>cs=[.int k x]∧InR k x
 sc:=fun _=>rfl
 pos:=Nat.one_pos
 len:=by rintro _ _ _ _ ⟨rfl,_⟩;rfl
 one:=by rintro _ _ _ _ ⟨rfl,_⟩ u hu;simp at hu;subst hu;rfl
 mono:=fun _ h=>h
 move:=fun _ h=>h
def En.bool:En Bool where
 sz:=1
 agg:=false
 R:=fun _ _ cs x=>cs=[.bool x]
 sc:=fun _=>rfl
 pos:=Nat.one_pos
 len:=by rintro _ _ _ _ rfl;rfl
 one:=by rintro _ _ _ _ rfl u hu;simp at hu;subst hu;rfl
 mono:=fun _ h=>h
 move:=fun _ h=>h
theorem zbd {k:IntKind} {x:Int} {s:St} {v:Value}:(Pd.rep (En.int k) x).p s v↔v = .int k x∧InR k x:=
 ⟨fun ⟨_,hv,hc,hr⟩=>by subst hc;exact ⟨hv,hr⟩,fun ⟨hv,hr⟩=>⟨[.int k x],hv,rfl,hr⟩⟩
theorem zcn {x:Bool} {s:St} {v:Value}:(Pd.rep En.bool x).p s v↔v = .bool x:=
 ⟨fun ⟨_,hv,hc⟩=>by cases hc;exact hv,fun hv=>⟨[.bool x],hv,rfl⟩⟩
def Opn (L:Lst) (x:Operand) (q:Pd):Prop:=∀M n s0 a s,Has M n s0 a s L→q.p s (a.eval x)
theorem o_t {L:Lst} (t:Nat) {q:Pd} (h:lk L t=some q):Opn L (.tmp t) q:=fun _ _ _ _ _ hL=>hL.get t h
theorem O {L:Lst}(t:Nat){q:Pd}(h:lk L t=some q):Opn L (.tmp t) q:=o_t t h
theorem o_c {L:Lst} {v:Value} {q:Pd} (h:∀s,q.p s v):Opn L (.const v) q:=fun _ _ _ _ s _=>h s
theorem o_i {L:Lst} {k:IntKind} {x:Int} (h:InR k x):Opn L (.const (.int k x)) (Pd.rep (En.int k) x):=o_c fun _=>zbd.2 ⟨rfl,h⟩
abbrev U3:=Tryz.underlying3
abbrev U4:=Tryz.underlying4
abbrev U5:=Tryz.underlying5
abbrev U9:=Tryz.underlying9
abbrev U22:=Tryz.underlying22
abbrev U24:=Tryz.underlying24
abbrev U25:=Tryz.underlying25
abbrev U26:=Tryz.underlying26
abbrev U36:=Tryz.underlying36
abbrev U46:=Tryz.underlying46
abbrev U47:=Tryz.underlying47
abbrev U51:=Tryz.underlying51
abbrev U58:=Tryz.underlying58
abbrev U68:=Tryz.underlying68
abbrev U77:=Tryz.underlying77
abbrev U78:=Tryz.underlying78
abbrev U79:=Tryz.underlying79
abbrev U82:=Tryz.underlying82
abbrev U90:=Tryz.underlying90
abbrev U91:=Tryz.underlying91
abbrev U92:=Tryz.underlying92
abbrev U106:=Tryz.underlying106
abbrev U108:=Tryz.underlying108
abbrev U112:=Tryz.underlying112
abbrev U114:=Tryz.underlying114
abbrev U117:=Tryz.underlying117
abbrev U119:=Tryz.underlying119
abbrev U124:=Tryz.underlying124
abbrev U133:=Tryz.underlying133
abbrev U148:=Tryz.underlying148
abbrev U150:=Tryz.underlying150
abbrev U152:=Tryz.underlying152
abbrev U153:=Tryz.underlying153
abbrev U154:=Tryz.underlying154
abbrev U167:=Tryz.underlying167
abbrev U170:=Tryz.underlying170
abbrev U213:=Tryz.underlying213
theorem oI {L:Lst}{x:Int}(h:InR .i64 x:=by decide):Opn L (.const (.int .i64 x)) (Pd.rep (En.int .i64) x):=o_i h
abbrev Pi (x:Int):Pd:=Pd.rep (En.int .i64) x
theorem o_b {L:Lst} {x:Bool}:Opn L (.const (.bool x)) (Pd.rep En.bool x):=o_c fun _=>zcn.2 rfl
section
variable {P : Program} {ops : Array Oper} {o : Oper} {L : Lst}
theorem T.mk {q:Pd} (hg:o.guard=none) (h:∀M n s0 a s,Has M n s0 a s L→∃v s',(execOp a.eval o).run P s.w = .ok (.value v) s'.w∧Ex s s'∧q.p s' v):T P ops o L q:=
 fun M n s0 a s hL=>by
  obtain ⟨v,s',h1,h2,h3⟩:=h M n s0 a s hL;exact OpR.of_run hg h1 ⟨h2,h3⟩
theorem T.pure {q:Pd} (hg:o.guard=none) (h:∀M n s0 a s,Has M n s0 a s L→∃v,(execOp a.eval o).run P s.w = .ok (.value v) s.w∧q.p s v):T P ops o L q:=
 T.mk hg fun M n s0 a s hL=>let ⟨v,h1,h2⟩:=h M n s0 a s hL;⟨v,s,h1,Ex.refl s,h2⟩
theorem zd {x:Operand} {q:Pd} (h:Opn L x q) (ho:o.op = .move x) (hg:o.guard=none):T P ops o L q:=
 T.pure hg fun M n s0 a s hL=>⟨a.eval x,by unfold execOp;rw [ho];rfl,h M n s0 a s hL⟩
theorem zb {x:Operand} {q:Pd} (h:Opn L x q) (ho:o.op = .assign x) (hg:o.guard=none):T P ops o L q:=
 T.pure hg fun M n s0 a s hL=>⟨a.eval x,by unfold execOp;rw [ho];rfl,h M n s0 a s hL⟩
theorem zg2 {k:IntKind} {x:Int} (h:InR k x):k.wrap x=x:=by
 unfold InR at h;cases k <;> simp [IntKind.min,IntKind.max,IntKind.signed,IntKind.bits] at h <;> simp [IntKind.wrap,IntKind.signed,IntKind.bits] <;> omega
theorem zmq {k:IntKind} {x y:Operand} {a b:Int} (op:BinOp) (f:Int→Int→Int) (hf:∀a b,(Op.intArith op k a b:Sem Value)=Pure.pure (.int k (k.wrap (f a b)))) (hop:op = .add∨op = .sub∨op = .mul)
  (hx:Opn L x (Pd.rep (En.int k) a)) (hy:Opn L y (Pd.rep (En.int k) b)) (hr:InR k (f a b)) {t u:TypeId} (ho:o.op = .binOp op t x y u) (hg:o.guard=none):
  T P ops o L (Pd.rep (En.int k) (f a b)):=
 T.pure hg fun M n s0 ac s hL=>by
  have h1:=(zbd.1 (hx M n s0 ac s hL)).1;have h2:=(zbd.1 (hy M n s0 ac s hL)).1;refine ⟨.int k (f a b), ?_,zbd.2 ⟨rfl,hr⟩⟩;unfold execOp;rw [ho];simp only [h1,h2];rcases hop with rfl | rfl | rfl <;> simp [eqGuard,binOp,hf,zg2 hr]
theorem zbk {k:IntKind} {x y:Operand} {a b:Int} (hx:Opn L x (Pd.rep (En.int k) a)) (hy:Opn L y (Pd.rep (En.int k) b)) (hr:InR k (a+b)) {t u:TypeId} (ho:o.op = .binOp .add t x y u) (hg:o.guard=none):
  T P ops o L (Pd.rep (En.int k) (a+b)):=zmq .add (· + ·) (fun _ _=>rfl) (.inl rfl) hx hy hr ho hg
theorem zmp {k:IntKind} {x y:Operand} {a b:Int} (op:BinOp) (f:Int→Int→Bool) (hf:(fun a b=>(Op.intCmp op a b:Sem Value))=fun a b=>Pure.pure (.bool (f a b)))
  (hop:op = .lss∨op = .leq∨op = .gtr∨op = .geq∨op = .eql∨op = .neq)
  (hx:Opn L x (Pd.rep (En.int k) a)) (hy:Opn L y (Pd.rep (En.int k) b)) {t u:TypeId} (ho:o.op = .binOp op t x y u) (hg:o.guard=none):
  T P ops o L (Pd.rep En.bool (f a b)):=
 T.pure hg fun M n s0 ac s hL=>by
  have h1:=(zbd.1 (hx M n s0 ac s hL)).1;have h2:=(zbd.1 (hy M n s0 ac s hL)).1;have hf':(Op.intCmp op a b:Sem Value)=Pure.pure (.bool (f a b)):=congrFun (congrFun hf a) b;refine ⟨.bool (f a b), ?_,zcn.2 rfl⟩;unfold execOp;rw [ho];simp only [h1,h2];rcases hop with rfl | rfl | rfl | rfl | rfl | rfl <;> simp [eqGuard,binOp,hf']
theorem zbz {k:IntKind} {x y:Operand} {a b:Int} (hx:Opn L x (Pd.rep (En.int k) a)) (hy:Opn L y (Pd.rep (En.int k) b)) {t u:TypeId} (ho:o.op = .binOp .lss t x y u) (hg:o.guard=none):
  T P ops o L (Pd.rep En.bool (decide (a<b))):=zmp .lss (fun a b=>decide (a<b)) rfl (.inl rfl) hx hy ho hg
theorem zhd {k:IntKind} {x y:Operand} {a b:Int} (hx:Opn L x (Pd.rep (En.int k) a)) (hy:Opn L y (Pd.rep (En.int k) b)) {t u:TypeId} (ho:o.op = .binOp .gtr t x y u) (hg:o.guard=none):
  T P ops o L (Pd.rep En.bool (decide (b<a))):=zmp .gtr (fun a b=>decide (b<a)) rfl (.inr (.inr (.inl rfl))) hx hy ho hg
theorem zj5 {k:IntKind} {x y:Operand} {a b:Int} (hx:Opn L x (Pd.rep (En.int k) a)) (hy:Opn L y (Pd.rep (En.int k) b)) {t u:TypeId} (ho:o.op = .binOp .geq t x y u) (hg:o.guard=none):
  T P ops o L (Pd.rep En.bool (decide (b≤a))):=zmp .geq (fun a b=>decide (b≤a)) rfl (.inr (.inr (.inr (.inl rfl)))) hx hy ho hg
theorem zl1 {k:IntKind} {x y:Operand} {a b:Int} (hx:Opn L x (Pd.rep (En.int k) a)) (hy:Opn L y (Pd.rep (En.int k) b)) {t u:TypeId} (ho:o.op = .binOp .neq t x y u) (hg:o.guard=none):
  T P ops o L (Pd.rep En.bool (a != b)):=zmp .neq (fun a b=>a != b) rfl (.inr (.inr (.inr (.inr (.inr rfl))))) hx hy ho hg
structure Ty {α:Type} (P:Program) (t:TypeId) (E:En α):Prop where
 info:∃i z,P.info? t=some i∧i.size=E.sz∧i.zero=some z∧z.cells.size=E.sz∧i.bytes≤65536
 agg:∃d,P.underlying t=some d∧(match d with | .struct _ | .array _ _=>true | _=>false)=E.agg
theorem zhi {α:Type} {t:TypeId} {E:En α} (h:Ty P t E) (w:World):(isAgg t).run P w = .ok E.agg w:=by
 obtain ⟨d,hd,he⟩:=h.agg;unfold isAgg;simp only [Sem.run_bind,run_underlying hd,Result.andThen_ok];rw [← he];cases d <;> rfl
theorem zbq {α:Type} {t:TypeId} {E:En α} (h:Ty P t E) (w:World):(sizeOf t).run P w = .ok E.sz w:=by
 obtain ⟨i,z,hi,he,_⟩:=h.info;simp [sizeOf,typeInfo,hi,he]
theorem zeg {α:Type} {t:TypeId} {E:En α} (h:Ty P t E) {w w':World} {S:Nat→Prop} {cs:List Value} {x:α} (hR:E.R w' S cs x) {b o:Nat} (hc:zcy w b o cs):
  (loadVar t ⟨b,o,none⟩).run P w = .ok (E.val cs) w:=by
 unfold loadVar;simp only [Sem.run_bind,zhi h,Result.andThen_ok];have hl:=E.len hR;cases ha:E.agg
 ·have h1:=E.sc ha;rw [h1] at hl
  match cs,hl with
  | [u],_=>
   have:=hc 0 u rfl;simp [En.val,ha,show w.cell? ⟨b,o,none⟩=some u from this]
 ·simp only [if_true,Sem.run_bind,zbq h,Result.andThen_ok];have:(loadCells ⟨b,o,none⟩ E.sz).run P w = .ok cs.toArray w:=by
   rw [← hl];exact run_loadCells_list w ⟨b,o,none⟩ cs (fun j v hv=>by rw [zey];exact hc j v hv)
  simp [this,En.val,ha]
theorem zt {α:Type} {E:En α} {x:α} {y:Operand} {t:TypeId} (ht:Ty P t E) (hy:Opn L y (Pd.ptr E x)) (ho:o.op = .load t y) (hg:o.guard=none):T P ops o L (Pd.rep E x):=
 T.pure hg fun M n s0 ac s hL=>by
  obtain ⟨b,off,cs,hv,hb,hc,hR⟩:=hy M n s0 ac s hL;refine ⟨E.val cs, ?_,cs,rfl,hR⟩;unfold execOp;rw [ho];simp [hv,Instr.loadAt,Instr.sureAddr,zeg ht hR hc]
theorem zcg {w:World} {g:Nat} {cs:List Value} {t:TypeId} {fr:Nat × Nat} (h:w.heap[g]?=some (.cells cs.toArray t fr)):zcy w g 0 cs:=
 fun j u hu=>by rw [Nat.zero_add,cell_of_row w g j cs.toArray t fr h];simpa using hu
theorem zbr {α:Type} {E:En α} {x:α} {y:Operand} {t:TypeId} {N g:Nat} (ht:Ty P t E) (hy:Opn L y (Pd.box E N g x)) (ho:o.op = .load t y) (hg:o.guard=none):T P ops o L (Pd.rep E x):=
 T.pure hg fun M n s0 ac s hL=>by
  obtain ⟨hv,_,_,cs,t',hc,hR⟩:=hy M n s0 ac s hL;refine ⟨E.val cs, ?_,cs,rfl,hR⟩;unfold execOp;rw [ho];simp [hv,Instr.loadAt,Instr.sureAddr,zeg ht hR (zcg hc)]
def St.push (s:St) (ob:Obj):St:=⟨s.w.alloc ob,s.X,fun b hb=>Nat.lt_of_lt_of_le (s.lt b hb) (by simp)⟩
theorem Ex.push (s:St) (ob:Obj):Ex s (s.push ob):=
 ⟨⟨DR.eq rfl,rfl,rfl,rfl,by simp [St.push],fun b hb _=>Go.RowKit.Below.heap_alloc s.w ob b hb,fun _ h=>h.elim,fun _ h=>.inl h⟩,fun _ h=>h⟩
end
end Go.Proofs.YtahgmdbioafmbaaGreatDoor.VD
namespace Go.Proofs.YtahgmdbioafmbaaGreatDoor.VD
open Go
set_option linter.unusedVariables false
def at? {α:Type} (xs:List α) (i:Int):Option α:=if 0≤i then xs[i.toNat]? else none
def Els {α:Type} (E:En α) (w:World) (S:Nat→Prop) (css:List (List Value)) (xs:List α):Prop:=
 css.length=xs.length∧∀(i:Nat) (cs:List Value) (x:α),css[i]?=some cs→xs[i]?=some x→E.R w S cs x
theorem Els.lens {α:Type} {E:En α} {w S css} {xs:List α} (h:Els E w S css xs):∀cs∈css,cs.length=E.sz:=by
 intro cs hcs;obtain ⟨i,hi⟩:=List.getElem?_of_mem hcs;have hlt:i<css.length:=(List.getElem?_eq_some_iff.1 hi).1;have hx:xs[i]?=some (xs[i]'(h.1 ▸ hlt)):=by simp
 exact E.len (h.2 i cs _ hi hx)
theorem zg0 {css:List (List Value)} {n:Nat} (h:∀cs∈css,cs.length=n):∀{i:Nat} {cs:List Value} {j:Nat} {u:Value},css[i]?=some cs→cs[j]?=some u→css.flatten[i*n+j]?=some u:=by
 induction css with
 | nil=>intro i cs j u hi;simp at hi
 | cons c r ih=>
  intro i cs j u hi hj;have hc:c.length=n:=h c (by simp);cases i with
  | zero=>
   simp at hi;subst hi;rw [List.flatten_cons,Nat.zero_mul,Nat.zero_add,List.getElem?_append_left (List.getElem?_eq_some_iff.1 hj).1];exact hj
  | succ i=>
   simp at hi;rw [List.flatten_cons,List.getElem?_append_right (by rw [hc,Nat.succ_mul];omega)];rw [show (i+1)*n+j-c.length=i*n+j by rw [hc,Nat.succ_mul];omega];exact ih (fun x hx=>h x (by simp [hx])) hi hj
def lim:Nat:=9223372036854775807
def SlV {α:Type} (E:En α) (w:World) (S:Nat→Prop) (v:Value) (xs:List α):Prop:=
 ∃ad cap,v = .slice ad xs.length cap∧xs.length≤cap∧(ad=none→cap=0)∧xs.length≤lim ∧
  (xs≠[]→∃b off css,ad=some ⟨b,off,none⟩∧S b∧Els E w S css xs∧zcy w b off css.flatten)
def En.slice {α:Type} (E:En α):En (List α) where
 sz:=1
 agg:=false
 R:=fun w S cs xs=>∃v,cs=[v]∧SlV E w S v xs
 sc:=fun _=>rfl
 pos:=Nat.one_pos
 len:=by rintro _ _ _ _ ⟨v,rfl,_⟩;rfl
 one:=by rintro _ _ _ _ ⟨v,rfl,ad,cap,rfl,_⟩ u hu;simp at hu;subst hu;rfl
 mono:=by
  rintro w S S' cs xs h ⟨v,rfl,ad,cap,hv,h1,h2,h3,h4⟩
  refine ⟨v,rfl,ad,cap,hv,h1,h2,h3,fun hne=>?_⟩
  obtain ⟨b,off,css,e,hb,hE,hc⟩:=h4 hne
  exact ⟨b,off,css,e,h b hb,⟨hE.1,fun i cs x a b=>E.mono h (hE.2 i cs x a b)⟩,hc⟩
 move:=by
  rintro w w' S cs xs h ⟨v,rfl,ad,cap,hv,h1,h2,h3,h4⟩
  refine ⟨v,rfl,ad,cap,hv,h1,h2,h3,fun hne=>?_⟩
  obtain ⟨b,off,css,e,hb,hE,hc⟩:=h4 hne
  exact ⟨b,off,css,e,hb,⟨hE.1,fun i cs x a b=>E.move h (hE.2 i cs x a b)⟩,hc.same (h b hb)⟩
theorem zcf {α:Type} {E:En α} {xs:List α} {s:St} {v:Value}:(Pd.rep (En.slice E) xs).p s v↔SlV E s.w (ze4 s) v xs:=
 ⟨fun ⟨_,hv,u,hc,h⟩=>by subst hc;subst hv;exact h,fun h=>⟨[v],rfl,v,rfl,h⟩⟩
section
variable {P : Program} {ops : Array Oper} {o : Oper} {L : Lst}
theorem zc8 {α:Type} {E:En α} {xs:List α} {y:Operand} {t te:TypeId} (hy:Opn L y (Pd.rep (En.slice E) xs)) (ht:P.underlying t=some (.slice te)) (ho:o.op = .call { callee:=.builtin .len,args:=#[y],argTypes:=#[t] }) (hg:o.guard=none):
  T P ops o L (Pd.rep (En.int .i64) xs.length):=
 T.pure hg fun M n s0 ac s hL=>by
  obtain ⟨ad,cap,hv,h1,h2,h3,h4⟩:=zcf.1 (hy M n s0 ac s hL);refine ⟨.int .i64 xs.length, ?_,zbd.2 ⟨rfl, ?_⟩⟩
  ·unfold execOp;rw [ho];simp [resolve,invoke,builtin,hv,Builtin.len_,run_underlying ht,goInt]
  ·simp only [lim] at h3;simp [InR,IntKind.min,IntKind.max,IntKind.signed,IntKind.bits];omega
theorem zde {α:Type} {E:En α} {xs:List α} {e:α} {k:IntKind} {i:Int} {x y:Operand} {t te:TypeId} (hx:Opn L x (Pd.rep (En.slice E) xs)) (hy:Opn L y (Pd.rep (En.int k) i)) (he:at? xs i=some e)
  (ht:P.underlying t=some (.slice te)) (hE:Ty P te E) (ho:o.op = .indexAddr t x y) (hg:o.guard=none):T P ops o L (Pd.ptr E e):=
 T.pure hg fun M n s0 ac s hL=>by
  obtain ⟨ad,cap,hv,h1,h2,h3,h4⟩:=zcf.1 (hx M n s0 ac s hL);have hi:=(zbd.1 (hy M n s0 ac s hL)).1;unfold at? at he;split at he
  case isFalse=>cases he
  rename_i h0
  have hlt:i.toNat<xs.length:=(List.getElem?_eq_some_iff.1 he).1;obtain ⟨b,off,css,e1,hb,hEl,hc⟩:=h4 (by intro h;simp [h] at hlt);obtain ⟨cs,hcs⟩:∃cs,css[i.toNat]?=some cs:=⟨css[i.toNat]'(by rw [hEl.1];exact hlt),by simp⟩;refine ⟨.pointer (some ⟨b,off+i.toNat*E.sz,none⟩), ?_,b,off+i.toNat*E.sz,cs,rfl,hb, ?_,hEl.2 _ _ _ hcs he⟩
  ·unfold execOp;rw [ho];simp only [hv,hi,Instr.indexAt,asIntOf,Sem.run_bind,Sem.run_pure,Result.andThen_ok,run_underlying ht,e1];rw [if_pos (by omega)];simp [zbq hE,zey]
  ·intro j u hu;rw [Nat.add_assoc];exact hc _ u (zg0 hEl.lens hcs hu)
theorem En.psh {α:Type} (E:En α) {s:St} {ob:Obj} {cs:List Value} {x:α} (h:E.R s.w (ze4 s) cs x):E.R (s.push ob).w (ze4 (s.push ob)) cs x:=E.go (Ex.push s ob).mv h
theorem zgp (s:St) (cs:List Value) (t:TypeId):zcy (s.push (.cells cs.toArray t)).w s.w.heap.size 0 cs:=
 zcg (w:=(s.push (.cells cs.toArray t)).w) (t:=t) (fr:=(0,0)) (heap_alloc_new s.w _)
theorem zcu {α:Type} {E:En α} {x:α} {y:Operand} {t:TypeId} (hy:Opn L y (Pd.rep E x)) (ho:o.op = .box t y) (hg:o.guard=none):T P ops o L (Pd.ptr E x):=
 T.mk hg fun M n s0 ac s hL=>by
  obtain ⟨cs,hv,hR⟩:=hy M n s0 ac s hL;refine ⟨.pointer (some ⟨s.w.heap.size,0,none⟩),s.push (.cells cs.toArray t), ?_,Ex.push s _,s.w.heap.size,0,cs,rfl,⟨by simp [St.push],fun h=>by have:=s.lt _ h;omega⟩,zgp s cs t,E.psh hR⟩;unfold execOp;rw [ho];simp only [hv,Instr.box,newVar,newRow,En.val_cells hR,Sem.run_bind,run_newObj,Result.andThen_ok,Sem.run_pure];rfl
end
end Go.Proofs.YtahgmdbioafmbaaGreatDoor.VD
namespace Go.Proofs.YtahgmdbioafmbaaGreatDoor.VD
open Go
set_option linter.unusedVariables false
structure Ef (T:Nat→Prop) (s s':St):Prop where
 mv:Mv T s s'
 keep:∀b,s.X b→¬ T b→s'.X b
theorem Ef.ex {M T:Nat→Prop} {s0 s s':St} (h:Fr M s0 s) (e:Ef T s s') (hT:∀b,T b→s0.w.heap.size≤b):Fr M s0 s':=
 ⟨⟨h.mv.dr.trans e.mv.dr,e.mv.os.trans h.mv.os,e.mv.tape.trans h.mv.tape,e.mv.output.trans h.mv.output,Nat.le_trans h.mv.size e.mv.size,
  fun b hb hn=>(e.mv.blk b (Nat.lt_of_lt_of_le hb h.mv.size) (fun ht=>by have:=hT b ht;omega)).trans (h.mv.blk b hb hn),h.mv.tx,
  fun b hb=>(e.mv.xx b hb).elim (fun j=>h.mv.xx b j) (fun j=>.inr (Nat.le_trans h.mv.size j))⟩,
  fun b hb=>e.keep b (h.keep b hb) (fun ht=>by have:=hT b ht;have:=s0.lt b hb;omega)⟩
inductive Kp (T:Nat→Prop) (L:Lst):Lst→Prop
 | nil:Kp T L []
 | cons {t:Nat} {q:Pd} {r:Lst} (hl:lk L t=some q) (hq:∀b,q.own b→¬ T b) (hr:Kp T L r):Kp T L ((t,q)::r)
theorem Kp.k {T:Nat→Prop}{L:Lst}(t:Nat){q:Pd}{r:Lst}(hr:Kp T L r)(hl:lk L t=some q:=by exact rfl)(hq:∀b,q.own b→¬T b:=by exact nE):Kp T L ((t,q)::r):=.cons hl hq hr
theorem Kp.get {T:Nat→Prop} {L L':Lst} (h:Kp T L L'):∀t q,lk L' t=some q→lk L t=some q∧∀b,q.own b→¬ T b:=by
 induction h with
 | nil=>intro t q h;cases h
 | cons hl hq _ ih=>
  rename_i d q' r _
  intro t q h;unfold lk at h
  by_cases ht:d=t
  ·subst ht;simp at h;subst h;exact ⟨hl,hq⟩
  ·rw [zf9 ht] at h;exact ih t q h
theorem Has.ef {M:Nat→Prop} {n:Nat} {s0:St} {a:Act} {s s':St} {L L':Lst} {T:Nat→Prop} (h:Has M n s0 a s L) (e:Ef T s s') (hT:∀b,T b→s0.w.heap.size≤b) (hk:Kp T L L'):Has M n s0 a s' L' where
 size:=h.size
 defers:=h.defers
 ent:=e.ex h.ent hT
 gl:=h.gl
 at_:=fun t q hl=>let ⟨h1,h2⟩:=hk.get t q hl;q.mv e.mv (fun b hb=>⟨h2 b hb,fun hx=>e.keep b hx (h2 b hb)⟩) (h.at_ t q h1)
theorem Has.keep {M:Nat→Prop} {n:Nat} {s0:St} {a:Act} {s:St} {L L':Lst} (h:Has M n s0 a s L) (hk:Kp (fun _=>False) L L'):Has M n s0 a s L':=h.sub fun t q hl=>h.at_ t q (hk.get t q hl).1
section
variable {P : Program} {ops : Array Oper} {o : Oper} {L : Lst}
def spl (cells:List Value) (off:Nat) (cs:List Value):List Value:=cells.take off++cs++cells.drop (off+cs.length)
theorem zk8 {cells cs:List Value} {off:Nat} (h:off+cs.length≤cells.length):(spl cells off cs).length=cells.length:=by simp [spl];omega
theorem zks {place:Nat→Option (Nat × Nat)} {cells cs:List Value} {v:Value} {i off size:Nat} {rest:List (Nat × Value)} (hp:place i=some (off,size)) (hv:v.cells=cs.toArray) (hs:cs.length=size)
  (hl:off+size≤cells.length):Instr.fill place cells.toArray ((i,v)::rest)=Instr.fill place (spl cells off cs).toArray rest:=by
 conv=>lhs;unfold Instr.fill
 simp only [hp,hv];rw [if_neg (by simp [hs];omega)]
 congr 1
 apply Array.ext_getElem?;intro j;rw [← Array.foldl_toList,Array.toList_zipIdx];have key:∀(l:List Value) (k:Nat) (acc:Array Value),off+k+l.length≤acc.size→(List.foldl (fun cs (x:Value × Nat)=>match x with | (c,j)=>cs.setIfInBounds (off+j) c) acc (l.zipIdx k))[j]?=if off+k≤j∧j<off+k+l.length then l[j-(off+k)]? else acc[j]?:=by
  intro l
  induction l with
  | nil=>intro k acc _;simp;omega
  | cons u r ih=>
   intro k acc hk;simp only [List.zipIdx_cons,List.foldl_cons];rw [ih (k+1) _ (by simp at hk ⊢;omega)]
   by_cases h1:off+(k+1)≤j∧j<off+(k+1)+r.length
   ·rw [if_pos h1,if_pos (by simp;omega),show j-(off+k)=(j-(off+(k+1)))+1 by omega];simp
   ·rw [if_neg h1]
    by_cases h2:j=off+k
    ·subst h2;rw [if_pos (by simp)];simp at hk;simp [show off+k<acc.size by omega]
    ·rw [if_neg (by simp;omega),Array.getElem?_setIfInBounds_ne (Ne.symm h2)]
 rw [key cs 0 cells.toArray (by simp;omega)];simp only [Nat.add_zero,spl,List.getElem?_toArray]
 by_cases h1:j<off
 ·rw [if_neg (by omega),List.append_assoc,List.getElem?_append_left (by simp;omega),List.getElem?_take,if_pos h1]
 ·by_cases h2:j<off+cs.length
  ·rw [if_pos (by omega),List.append_assoc,List.getElem?_append_right (by simp;omega),List.getElem?_append_left (by simp;omega)]
   congr 1;simp;omega
  ·rw [if_neg (by omega),List.getElem?_append_right (by simp;omega),List.getElem?_drop]
   congr 1;simp;omega
inductive OpL {α:Type} (E:En α) (L:Lst):List Operand→List α→Prop
 | nil:OpL E L [] []
 | cons {x:Operand} {e:α} {xs:List Operand} {es:List α}:Opn L x (Pd.rep E e)→OpL E L xs es→OpL E L (x::xs) (e::es)
theorem zqz {α:Type} {E:En α} {M:Nat→Prop} {n:Nat} {s0:St} {ac:Act} {s:St} {L:Lst} (hL:Has M n s0 ac s L):∀{xs:List Operand} {es:List α},OpL E L xs es→∀(k:Nat) (pre:List Value) (cells:List Value),pre.length=k*E.sz→cells.length=(k+xs.length)*E.sz→cells.take (k*E.sz)=pre →
  ∃css,Els E s.w (ze4 s) css es∧Instr.fill (fun i=>some (i*E.sz,E.sz)) cells.toArray ((xs.zipIdx k).map fun (x,i)=>(i,ac.eval x))=some (pre++css.flatten).toArray:=by
 intro xs es h
 induction h with
 | nil=>
  intro k pre cells hp hc ht;refine ⟨[],⟨rfl,by simp⟩, ?_⟩;simp only [List.zipIdx_nil,List.map_nil,Instr.fill,List.flatten_nil,List.append_nil];rw [← ht,List.take_of_length_le (by simp at hc;omega)]
 | cons hx _ ih=>
  rename_i x e xs es _
  intro k pre cells hp hc ht;obtain ⟨cs,hv,hR⟩:=hx M n s0 ac s hL;have hlen:=E.len hR;have hsz:k*E.sz+E.sz≤cells.length:=by rw [hc,← Nat.succ_mul];exact Nat.mul_le_mul_right _ (by simp)
  obtain ⟨css,hE,hf⟩:=ih (k+1) (pre++cs) (spl cells (k*E.sz) cs) (by simp [hp,hlen,Nat.succ_mul]) (by rw [zk8 (by omega),hc];congr 1;simp;omega) (by
   rw [spl,ht];rw [List.take_append_of_le_length (by simp [hp,hlen,Nat.succ_mul])];rw [List.take_of_length_le (by simp [hp,hlen,Nat.succ_mul])])
  refine ⟨cs::css,⟨by simp [hE.1], ?_⟩, ?_⟩
  ·intro i c y hi hy;cases i with
   | zero=>simp at hi hy;subst hi;subst hy;exact hR
   | succ i=>simp at hi hy;exact hE.2 i c y hi hy
  ·simp only [List.zipIdx_cons,List.map_cons];rw [zks (cs:=cs) (off:=k*E.sz) (size:=E.sz) rfl (by rw [hv];exact En.val_cells hR) hlen hsz,hf];simp
theorem zla {α:Type} {E:En α} {t te:TypeId} {xs:List Operand} {es:List α} (hx:OpL E L xs es) (ht:P.underlying t=some (.slice te)) (hE:Ty P te E) {k:Nat} {parts:Array (Nat × Operand)} (hk:k=xs.length) (hp:parts=(xs.zipIdx.map fun (x,i)=>(i,x)).toArray)
  (hs:k*E.sz≤16777216) (ho:o.op = .buildSlice t k parts) {M:Nat→Prop} {n:Nat} {s0:St} {ac:Act} {s:St} (hL:Has M n s0 ac s L):es.length=xs.length∧∃css,Els E s.w (ze4 s) css es∧(execOp ac.eval o).run P s.w = .ok (.value (.slice (some ⟨s.w.heap.size,0,none⟩) es.length es.length)) (s.push (.cells css.flatten.toArray te)).w:=by
 obtain ⟨i,z,hi,he,hz,hzs,_⟩:=hE.info;have hlen:es.length=xs.length:=by clear hp hk hs ho;induction hx with | nil=>rfl | cons _ _ ih=>simp [ih]
 have hall:∀zero:Array Value,∃css,Els E s.w (ze4 s) css es∧Instr.fill (fun i=>some (i*E.sz,E.sz)) ((Array.range (k*E.sz)).map (zero[· % zero.size]!)) (parts.map fun (i,x)=>(i,ac.eval x)).toList=some css.flatten.toArray:=by
  intro zero;obtain ⟨css,hEl,hf⟩:=zqz hL hx 0 [] ((Array.range (k*E.sz)).map (zero[· % zero.size]!)).toList (by simp) (by simp [hk]) (by simp)
  refine ⟨css,hEl, ?_⟩;have e1:(parts.map fun (i,x)=>(i,ac.eval x)).toList=(xs.zipIdx 0).map fun (x,i)=>(i,ac.eval x):=by rw [hp];simp
  rw [e1];rw [Array.toArray_toList,List.nil_append] at hf;exact hf
 have hfin:∃css,Els E s.w (ze4 s) css es∧(execOp ac.eval o).run P s.w = .ok (.value (.slice (some ⟨s.w.heap.size,0,none⟩) es.length es.length)) (s.push (.cells css.flatten.toArray te)).w:=by
  by_cases h:k*E.sz=0
  ·obtain ⟨css,hEl,hf⟩:=hall #[];refine ⟨css,hEl, ?_⟩;unfold execOp;rw [ho];simp only [Instr.buildSlice,Sem.run_bind,run_underlying ht,Result.andThen_ok,zbq hE];rw [if_neg (by omega),if_pos h];simp only [Sem.run_bind,Sem.run_pure,Result.andThen_ok];rw [hf];simp [newRow,St.push,hlen,hk]
  ·obtain ⟨css,hEl,hf⟩:=hall z.cells;refine ⟨css,hEl, ?_⟩;unfold execOp;rw [ho];simp only [Instr.buildSlice,Sem.run_bind,run_underlying ht,Result.andThen_ok,zbq hE];rw [if_neg (by omega),if_neg h];have hzr:(zeroValue te).run P s.w = .ok z s.w:=by simp [zeroValue,typeInfo,hi,hz]
   simp only [Sem.run_bind,hzr,Sem.run_pure,Result.andThen_ok];rw [hf];simp [newRow,St.push,hlen,hk]
 exact ⟨hlen,hfin⟩
theorem zec {α:Type} {E:En α} {t te:TypeId} {xs:List Operand} {es:List α} (hx:OpL E L xs es) (ht:P.underlying t=some (.slice te)) (hE:Ty P te E) {k:Nat} {parts:Array (Nat × Operand)} (hk:k=xs.length) (hp:parts=(xs.zipIdx.map fun (x,i)=>(i,x)).toArray)
  (hs:k*E.sz≤16777216) (ho:o.op = .buildSlice t k parts) (hg:o.guard=none):T P ops o L (Pd.rep (En.slice E) es):=
 T.mk hg fun M n s0 ac s hL=>by
  obtain ⟨hlen,css,hEl,hr⟩:=zla hx ht hE hk hp hs ho hL;refine ⟨_,_,hr,Ex.push s _,zcf.2 ⟨some ⟨s.w.heap.size,0,none⟩,es.length,rfl,Nat.le_refl _,(fun h=>by cases h), ?_,fun _=>⟨s.w.heap.size,0,css,rfl,⟨by simp [St.push],fun h=>by have:=s.lt _ h;omega⟩,⟨hEl.1,fun i cs x a b=>E.psh (hEl.2 i cs x a b)⟩,zgp s _ te⟩⟩⟩;rw [hlen,← hk];have:k≤k*E.sz:=Nat.le_mul_of_pos_right k E.pos;simp only [lim];omega
end
end Go.Proofs.YtahgmdbioafmbaaGreatDoor.VD
namespace Go.Proofs.YtahgmdbioafmbaaGreatDoor.VD
open Go
set_option linter.unusedVariables false
def znx (s:St):List Pd→List Value→Prop
 | [],[]=>True
 | q::qs,v::vs=>q.p s v∧znx s qs vs
 | _,_=>False
structure Fn (P:Program) (f:FuncId) (qs:List Pd) (R:St→St→Value→Prop):Prop where
 call:∀(args:Array Value) (w:World),(callFunc f args).run P w = .ok (.enter f args) w
 run:∀s vs,Gl s→znx s qs vs→Calls P f vs.toArray s.w fun e w'=>∃v s',e = .returned v∧s'.w=w'∧Ex s s'∧R s s' v
def Rq (q:Pd):St→St→Value→Prop:=fun _ s' v=>q.p s' v
inductive zny (L:Lst):List Operand→List Pd→Prop
 | nil:zny L [] []
 | cons {x:Operand} {q:Pd} {xs:List Operand} {qs:List Pd}:Opn L x q→zny L xs qs→zny L (x::xs) (q::qs)
theorem zny.vals {L:Lst} {xs:List Operand} {qs:List Pd} (h:zny L xs qs) {M:Nat→Prop} {n:Nat} {s0:St} {a:Act} {s:St} (hL:Has M n s0 a s L):znx s qs (xs.map a.eval):=by
 induction h with
 | nil=>trivial
 | cons hx _ ih=>exact ⟨hx M n s0 a s hL,ih⟩
section
variable {P : Program} {ops : Array Oper} {o : Oper} {L : Lst}
theorem zhj {f:FuncId} {xs:List Operand} {ats:Array TypeId} {qs R} (hf:Fn P f qs R) (a:Act) (w:World) (ho:o.op = .call { callee:=.value (.func f),args:=xs.toArray,argTypes:=ats }):
  (execOp a.eval o).run P w = .ok (.enter f (xs.map a.eval).toArray) w:=by
 have h:=hf.call (xs.map a.eval).toArray w;have e:execOp a.eval o=callFunc f (#[]++(xs.toArray).map a.eval ++ #[]):=by unfold execOp;rw [ho];rfl
 rw [e];simpa using h
theorem zy {f:FuncId} {xs:List Operand} {qs:List Pd} {q:Pd} {ats:Array TypeId} (hf:Fn P f qs (Rq q)) (hx:zny L xs qs) (ho:o.op = .call { callee:=.value (.func f),args:=xs.toArray,argTypes:=ats }) (hg:o.guard=none):
  T P ops o L q:=fun M n s0 a s hL Q k hk=>by
 simp only [Region.wanted,hg,if_true];unfold Oper.wp;rw [zhj hf a s.w ho,Oper.upon_enter];refine (hf.run s _ hL.gls (hx.vals hL)).mono fun e w' ⟨v,s',he,hw,hx,hq⟩=>?_;subst he;subst hw;exact hk v s' ⟨hx,hq⟩
end
def num:Nat→List Pd→Lst
 | _,[]=>[]
 | k,q::qs=>(k,q)::num (k+1) qs
def Pst (M:Nat→Prop) (R:St→St→Value→Prop) (s0:St):Ending→World→Prop:=fun e w'=>∃v s',e = .returned v∧s'.w=w'∧Fr M s0 s'∧R s0 s' v
theorem zja {s:St}:∀{qs:List Pd} {vs:List Value} (h:znx s qs vs) (k t:Nat) (q:Pd),lk (num k qs) t=some q→∃v,k≤t∧vs[t-k]?=some v∧q.p s v
 | [],_,_,k,t,q,hl=>by cases hl
 | q'::qs,[],h,_,_,_,_=>h.elim
 | q'::qs,v::vs,h,k,t,q,hl=>by
  unfold num lk at hl
  by_cases ht:k=t
  ·subst ht;simp at hl;subst hl;exact ⟨v,Nat.le_refl _,by simp,h.1⟩
  ·rw [zf9 ht] at hl;obtain ⟨u,h1,h2,h3⟩:=zja h.2 (k+1) t q hl;refine ⟨u,by omega, ?_,h3⟩;rw [show t-k=(t-(k+1))+1 by omega];simpa using h2
theorem ziz {s:St}:∀{qs:List Pd} {vs:List Value},znx s qs vs→vs.length=qs.length
 | [],[],_=>rfl
 | [],_::_,h=>h.elim
 | _::_,[],h=>h.elim
 | _::_,_::_,h=>by simp [ziz h.2]
structure Fm (P:Program) (f:FuncId) (M:Nat→Prop) (qs:List Pd) (R:St→St→Value→Prop):Prop where
 call:∀(args:Array Value) (w:World),(callFunc f args).run P w = .ok (.enter f args) w
 run:∀s vs,Gl s→(∀b,M b→s.X b)→znx s qs vs→Calls P f vs.toArray s.w fun e w'=>∃v s',e = .returned v∧s'.w=w'∧Fr M s s'∧R s s' v
theorem zom {P:Program} {f:FuncId} {fn:Func} {c:Code} {n:Nat} {M:Nat→Prop} {qs:List Pd} {R:St→St→Value→Prop} (hf:P.funcs[f]?=some fn) (hb:fn.body=some c) (hn:fn.ntmps=n) (hm:(fn.name == "runtime.NumGoroutine")=false) (hq:qs.length≤n)
  (h:∀s0 a,Has M n s0 a s0 (num 0 qs)→c.wp P (bodyPost P fn (Pst M R s0)) a s0.w):Fm P f M qs R where
 call:=fun args w=>by
  have hm':¬ fn.name = "runtime.NumGoroutine":=by simpa using hm
  simp [callFunc,hf,hm',hb]
 run:=fun s vs hg hM hv=>by
  refine calls_of_wp hf hb ?_;have hl:=ziz hv;refine h s _ ⟨?_,rfl,Fr.refl hM,hg,fun t q ht=>?_⟩
  ·simp [hn,hl];omega
  ·obtain ⟨v,_,h2,h3⟩:=zja hv 0 t q ht;have:(({ tmps:=vs.toArray++Array.replicate (fn.ntmps-vs.toArray.size) undef,defers:=[] }:Act).eval (.tmp t))=v:=by
    simp only [Nat.sub_zero] at h2;have hlt:t<vs.length:=(List.getElem?_eq_some_iff.1 h2).1;simp only [Act.eval];rw [Array.getD_eq_getD_getElem?,Array.getElem?_append_left (by simpa using hlt)];simp [h2]
   rw [this];exact h3
theorem Fm.fn {P:Program} {f:FuncId} {qs:List Pd} {R:St→St→Value→Prop} (h:Fm P f N0 qs R):Fn P f qs R:=
 ⟨h.call,fun s vs hg hv=>(h.run s vs hg (fun _ h=>h.elim) hv).mono fun e w' ⟨v,s',he,hw,hx,hr⟩=>⟨v,s',he,hw,hx.ex,hr⟩⟩
theorem zbx {P:Program} {f:FuncId} {fn:Func} {c:Code} {n:Nat} {qs:List Pd} {R:St→St→Value→Prop} (hf:P.funcs[f]?=some fn) (hb:fn.body=some c) (hn:fn.ntmps=n) (hm:(fn.name == "runtime.NumGoroutine")=false) (hq:qs.length≤n)
  (h:∀s0 a,Has N0 n s0 a s0 (num 0 qs)→c.wp P (bodyPost P fn (Pst N0 R s0)) a s0.w):Fn P f qs R:=(zom hf hb hn hm hq h).fn
section
variable {P : Program} {fn : Func} {M : Nat → Prop} {n : Nat} {s0 : St} {a : Act} {s : St} {L : Lst} {R : St → St → Value → Prop}
theorem ret1 {t:Nat} (hr:fn.results = #[.tmp t]) (hL:Has M n s0 a s L) (hR:R s0 s (a.eval (.tmp t))):bodyPost P fn (Pst M R s0) .ret a s.w:=
 ⟨hL.defers,_,results_tmp hr a.tmps P s.w,_,s,rfl,rfl,hL.ent,hR⟩
theorem zdu {t:Nat} {q:Pd} (hr:fn.results = #[.tmp t]) (hL:Has M n s0 a s L) (hl:lk L t=some q):bodyPost P fn (Pst M (Rq q) s0) .ret a s.w:=ret1 hr hL (hL.get t hl)
end
section
variable {P : Program} {Q : Exit → Act → World → Prop} {M : Nat → Prop} {n : Nat} {s0 : St} {a : Act} {s : St} {L : Lst}
theorem cnd {t:Nat} {b:Bool} {x y:Code} (hL:Has M n s0 a s L) (hl:lk L t=some (Pd.rep En.bool b)) (h1:b=true→x.wp P Q a s.w) (h2:b=false→y.wp P Q a s.w):(Code.cond (.tmp t) x y).wp P Q a s.w:=
 wp_cond_split (zcn.1 (hL.get t hl)) h1 h2
theorem lpg {c:Code} (I:Nat→Act→St→Prop) (k0:Nat) (h0:I k0 a s)
  (round:∀k a s,I k a s→∀K:Act→World→Prop,(∀k' a' s',k' < k→I k' a' s'→K a' s'.w)→c.wp P (Exit.then K Q) a s.w):(Code.loop c).wp P Q a s.w:=by
 refine wp_loop_ghost (fun k a w=>∃s,s.w=w∧I k a s) k0 ⟨s,rfl,h0⟩ ?_;rintro k a w ⟨s,rfl,hI⟩;exact round k a s hI _ fun k' a' s' hk hI'=>⟨k',hk,s',rfl,hI'⟩
end
end Go.Proofs.YtahgmdbioafmbaaGreatDoor.VD
namespace Go.Proofs.YtahgmdbioafmbaaGreatDoor.VD
open Go
set_option linter.unusedVariables false
structure TyZ {α:Type} (P:Program) (t:TypeId) (E:En α) (z:α):Prop where
 zero:∃i v cs,P.info? t=some i∧i.zero=some v∧v.cells=cs.toArray∧∀w S,E.R w S cs z
def Sub {α β:Type} (E:En α) (off:Nat) (E':En β) (x x':α) (y:β):Prop:=
 off+E'.sz≤E.sz∧∀w S cs cs',E.R w S cs x→E'.R w S cs' y→E.R w S (spl cs off cs') x'
theorem zz {α:Type} (E:En α) (x y:α):Sub E 0 E x y y:=
 ⟨by simp,fun w S cs cs' h h'=>by
  have:spl cs 0 cs'=cs':=by
   have h1:=E.len h;have h2:=E.len h';simp [spl,List.drop_of_length_le (show cs.length≤cs'.length by omega)]
  rw [this];exact h'⟩
def St.pushX (s:St) (ob:Obj):St:=⟨s.w.alloc ob,fun b=>s.X b∨b=s.w.heap.size,fun b hb=>hb.elim (fun h=>Nat.lt_of_lt_of_le (s.lt b h) (by simp)) (fun h=>by subst h;simp)⟩
theorem Ex.pushX (s:St) (ob:Obj):Ex s (s.pushX ob):=
 ⟨⟨DR.eq rfl,rfl,rfl,rfl,by simp [St.pushX],fun b hb _=>Go.RowKit.Below.heap_alloc s.w _ b hb,fun _ h=>h.elim,fun b hb=>hb.imp id (fun h=>Nat.le_of_eq h.symm)⟩,fun b hb=>.inl hb⟩
section
variable {P : Program} {ops : Array Oper} {o : Oper} {L L' : Lst} {Q : Exit → Act → World → Prop} {rest : List Oper} {M : Nat → Prop} {n : Nat} {s0 : St} {a : Act} {s : St}
theorem zbf {α:Type} (E:En α) {z:α} {t:TypeId} (d:Nat) (hL:Has M n s0 a s L) (hz:TyZ P t E z) (ho:o.op = .alloc t) (hg:o.guard=none) (hd:o.dst=some d) (hn:Nat.blt d n=true)
  (k:∀a' s' g,s.w.heap.size≤g→Has M n s0 a' s' ((d,Pd.box E s0.w.heap.size g z)::L)→wpList P ops Q rest a' s'.w):wpList P ops Q (o::rest) a s.w:=by
 obtain ⟨i,v,cs,h1,h2,h3,h4⟩:=hz.zero;have hr:(execOp a.eval o).run P s.w = .ok (.value (.pointer (some ⟨s.w.heap.size,0,none⟩))) (s.pushX (.cells cs.toArray t)).w:=by
  unfold execOp;rw [ho];simp [Instr.alloc,zeroValue,typeInfo,h1,h2,newVar,newRow,h3,St.pushX]
 refine wpList_plain hg fun K hK=>?_;unfold Oper.wp;rw [hr];refine hK _ _ ?_;simp only [hd];exact k _ _ s.w.heap.size (Nat.le_refl _) (hL.put (Ex.pushX s _) hn ⟨rfl,hL.ent.mv.size,.inr rfl,cs,t,heap_alloc_new s.w _,h4 _ _⟩)
theorem zi4 {α:Type} {E:En α} {x:α} {t:TypeId} (ht:Ty P t E) {w w':World} {S:Nat→Prop} {cs:List Value} (hR:E.R w' S cs x) {g off:Nat} {cur:List Value} {te:TypeId} (hg:w.heap[g]?=some (.cells cur.toArray te (0,0))) (hl:off+E.sz≤cur.length):
  (Instr.storeAt t (.pointer (some ⟨g,off,none⟩)) (E.val cs)).run P w = .ok () (w.setRow g (spl cur off cs).toArray):=by
 have hlen:=E.len hR;have:=run_storeCells_at P g off te cs 0 cur.toArray w hg (by simp;omega) (E.one hR);simp only [Instr.storeAt,Instr.sureAddr,Sem.run_bind,Sem.run_pure,Result.andThen_ok,storeVar,zbq ht,En.val_cells hR];rw [if_neg (by simp [hlen])];simpa [spl] using this
def St.set (s:St) (g:Nat) (cs:List Value):St:=⟨s.w.setRow g cs.toArray,s.X,fun b hb=>by simpa [World.setRow] using s.lt b hb⟩
theorem Ef.set (s:St) {g:Nat} (cs:List Value) {T:Nat→Prop} (hT:∀b,T b↔b=g) (hx:s.X g):Ef T s (s.set g cs):=
 ⟨⟨DR.eq rfl,rfl,rfl,rfl,by simp [St.set,World.setRow],fun b _ hn=>setRow_other s.w g b _ (fun e=>hn ((hT b).2 e)),fun b hb=>by rw [(hT b).1 hb];exact hx,fun b hb=>.inl hb⟩,fun b hb _=>hb⟩
theorem zl7 {t:TypeId} {x y:Operand} {w':World} (hr:(Instr.storeAt t (a.eval x) (a.eval y)).run P s.w = .ok () w') (ho:o.op = .store t x y) (hg:o.guard=none) (hd:o.dst=none) (k:wpList P ops Q rest a w'):wpList P ops Q (o::rest) a s.w:=by
 refine wpList_plain hg fun K hK=>?_;unfold Oper.wp execOp;simp only [ho,Sem.run_bind,hr,Result.andThen_ok,Sem.run_pure];refine hK _ _ ?_;simp only [hd];exact k
theorem zed {α β:Type} {E:En α} {E':En β} {x0 x1:α} {y0 y1:β} {g off:Nat} {x y:Operand} {t:TypeId} (c:Nat) (hL:Has M n s0 a s L) (hc:lk L c=some (Pd.box E s0.w.heap.size g x0)) (hx:Opn L x (Pd.optr E' s0.w.heap.size (some g) off y0)) (hy:Opn L y (Pd.rep E' y1))
  (hs:Sub E off E' x0 x1 y1) (ht:Ty P t E') (ho:o.op = .store t x y) (hg:o.guard=none) (hd:o.dst=none) (hk:Kp (fun b=>some g=some b) L L')
  (k:∀s',Has M n s0 a s' ((c,Pd.box E s0.w.heap.size g x1)::L')→wpList P ops Q rest a s'.w):wpList P ops Q (o::rest) a s.w:=by
 obtain ⟨hv,hN,hX,cur,te,hgb,hR⟩:=hL.get c hc;obtain ⟨g',hgg,hxv,_⟩:=hx M n s0 a s hL;cases hgg;obtain ⟨cs,hyv,hR'⟩:=hy M n s0 a s hL;have hlen:=E.len hR;have hr:=zi4 (P:=P) ht hR' (g:=g) (off:=off) hgb (by rw [hlen];exact hs.1);refine zl7 (s:=s) (by rw [hxv,hyv];exact hr) ho hg hd ?_;have e:Ef (fun b=>some g=some b) s (s.set g (spl cur off cs)):=Ef.set s _ (fun b=>by simp [eq_comm]) hX;refine k (s.set g (spl cur off cs)) ((hL.ef e (fun b hb=>by cases hb;exact hN) hk).cons c ⟨hv,hN,hX,_,te,setRow_heap s.w g _ _ te (0,0) hgb, ?_⟩);exact E.go e.mv (hs.2 _ _ _ _ hR hR')
theorem zby {α:Type} {E:En α} {x0 x1:α} {g:Nat} {y:Operand} {t:TypeId} (c:Nat) (hL:Has M n s0 a s L) (hc:lk L c=some (Pd.box E s0.w.heap.size g x0)) (hy:Opn L y (Pd.rep E x1))
  (ht:Ty P t E) (ho:o.op = .store t (.tmp c) y) (hg:o.guard=none) (hd:o.dst=none) (hk:Kp (fun b=>some g=some b) L L')
  (k:∀s',Has M n s0 a s' ((c,Pd.box E s0.w.heap.size g x1)::L')→wpList P ops Q rest a s'.w):wpList P ops Q (o::rest) a s.w:=by
 refine zed (off:=0) (y0:=x0) (E':=E) c hL hc ?_ hy (zz E x0 x1) ht ho hg hd hk k;intro M' n' s0' a' s' hL';obtain ⟨hv,hN,hX,cur,te,hgb,hR⟩:=hL'.get c hc;exact ⟨g,rfl,hv,hN,(Array.getElem?_eq_some_iff.1 hgb).1,hX,cur,zcg hgb,hR⟩
end
def Dis (a b:Option Nat):Prop:=∀k,a=some k→b=some k→False
theorem Dis.symm {a b:Option Nat} (h:Dis a b):Dis b a:=fun k h1 h2=>h k h2 h1
theorem Dis.bx {g:Nat} {b:Option Nat} (h:Dis (some g) b):∀k,k=g→¬ b=some k:=fun k h1 h2=>h k (by rw [h1]) h2
theorem Dis.newg {g:Nat} {b:Option Nat} {N:Nat} (h:N≤g) (hb:∀k,b=some k→k<N):Dis (some g) b:=fun k h1 h2=>by cases h1;have:=hb g h2;omega
theorem Has.blt {α:Type} {E:En α} {N g:Nat} {x:α} {M:Nat→Prop} {n:Nat} {s0:St} {a:Act} {s:St} {L:Lst} (h:Has M n s0 a s L) (t:Nat) (hl:lk L t=some (Pd.box E N g x)):∀k,some g=some k→k<s.w.heap.size:=fun k hk=>by
 cases hk;obtain ⟨_,_,_,_,_,hc,_⟩:=h.get t hl;exact (Array.getElem?_eq_some_iff.1 hc).1
theorem rdl {P:Program} {id:Nat} {l:List Oper} {Q:Exit→Act→World→Prop} {M:Nat→Prop} {n:Nat} {s0:St} {a:Act} {s:St} {L:Lst} (hf:P.follows .mixedOrders=true) (m:Nat) (qs:List Pd)
  (hL:Has M n s0 a s L) (hok:zeh l.toArray m n (L.map (·.1)) []=true) (hq:qs.length=m) (hm:m≤l.length)
  (hT:∀i o q,i<m→l[i]?=some o→qs[i]?=some q→T P l.toArray o (zh7 l.toArray qs o.after.toList L) q)
  (hB:∀a' s',Ex s s'→Has M n s0 a' s' (znz l.toArray qs m L)→wpList P l.toArray Q (l.drop m) a' s'.w):(Code.region id l.toArray true).wp P Q a s.w:=by
 refine rd hf m qs hL hok hq (by simpa using hm) (fun i o q hi ho=>hT i o q hi (by simpa using ho)) fun a' s' e h=>?_;have:=hB a' s' e h;rw [← wpOps_eq_wpList (l.drop m) m (fun j=>by simp)] at this;simpa using this
def z8 (P:Program) (ops:Array Oper) (qs0:List Pd) (L:Lst):List Oper→List Pd→Prop
 | _,[]=>True
 | [],_::_=>False
 | o::l,q::qs=>T P ops o (zh7 ops qs0 o.after.toList L) q∧z8 P ops qs0 L l qs
theorem z8.at {P:Program} {ops:Array Oper} {qs0:List Pd} {L:Lst}:∀(l:List Oper) (qs:List Pd),z8 P ops qs0 L l qs→∀(i:Nat) (o:Oper) (q:Pd),l[i]?=some o→qs[i]?=some q→T P ops o (zh7 ops qs0 o.after.toList L) q
 | _,[],_,i,o,q,_,hq=>by simp at hq
 | [],_::_,h,_,_,_,_,_=>h.elim
 | o'::l,q'::qs,h,i,o,q,ho,hq=>by
  cases i with
  | zero=>simp only [List.getElem?_cons_zero,Option.some.injEq] at ho hq;subst ho;subst hq;exact h.1
  | succ i=>simp only [List.getElem?_cons_succ] at ho hq;exact z8.at l qs h.2 i o q ho hq
theorem z8.cons {P:Program} {ops:Array Oper} {qs0:List Pd} {L:Lst} {o:Oper} {l:List Oper} {q:Pd} {qs:List Pd} (h:T P ops o (zh7 ops qs0 o.after.toList L) q) (h2:z8 P ops qs0 L l qs):z8 P ops qs0 L (o::l) (q::qs):=⟨h,h2⟩
theorem z8.nil {P:Program} {ops:Array Oper} {qs0:List Pd} {L:Lst} {l:List Oper}:z8 P ops qs0 L l []:=by cases l <;> trivial
theorem rda {P:Program} {id:Nat} {l:List Oper} {Q:Exit→Act→World→Prop} {M:Nat→Prop} {n:Nat} {s0:St} {a:Act} {s:St} {L:Lst} (hf:P.follows .mixedOrders=true) (m:Nat) (qs:List Pd)
  (hL:Has M n s0 a s L) (hok:zeh l.toArray m n (L.map (·.1)) []=true) (hq:Nat.beq qs.length m=true) (hm:Nat.ble m l.length=true)
  (hT:z8 P l.toArray qs L l qs)
  (hB:∀a' s',Ex s s'→Has M n s0 a' s' (znz l.toArray qs m L)→wpList P l.toArray Q (l.drop m) a' s'.w):(Code.region id l.toArray true).wp P Q a s.w:=
 rdl hf m qs hL hok (Nat.eq_of_beq_eq_true hq) (Nat.le_of_ble_eq_true hm) (fun i o q _ ho hq=>z8.at l qs hT i o q ho hq) hB
section
variable {P : Program} {ops : Array Oper} {o : Oper} {L : Lst}
end
end Go.Proofs.YtahgmdbioafmbaaGreatDoor.VD
namespace Go.Proofs.YtahgmdbioafmbaaGreatDoor.VD
open Go
set_option linter.unusedVariables false
section
variable {P : Program} {ops : Array Oper} {o : Oper} {L L' : Lst} {Q : Exit → Act → World → Prop} {rest : List Oper} {M : Nat → Prop} {n : Nat} {s0 : St} {a : Act} {s : St}
end
def En.fun (P:Program) {β:Type} (qs:β→List Pd) (R:β→St→St→Value→Prop):En (β→Prop) where
 sz:=1
 agg:=false
 R:=fun w S cs F=>(cs=[.nilFunc]∧∀q,¬ F q)∨∃(f:FuncId) (first cap:Array Value),cs=[.func (.func f) first cap]∧(∀(args:Array Value) (w:World),(callFunc f args).run P w = .ok (.enter f args) w) ∧
  ∀s:St,Gl s→(∀b,S b→ze4 s b)→Same S w s.w→∀q,F q→∀vs,znx s (qs q) vs→Calls P f (first++vs.toArray++cap) s.w fun e w'=>∃(v:Value) (s':St),e = .returned v∧s'.w=w'∧Ex s s'∧R q s s' v
 sc:=fun _=>rfl
 pos:=Nat.one_pos
 len:=by rintro _ _ _ _ (⟨rfl,_⟩ | ⟨_,_,_,rfl,_⟩) <;> rfl
 one:=by rintro _ _ _ _ (⟨rfl,_⟩ | ⟨_,_,_,rfl,_⟩) u hu <;> (simp at hu;subst hu;rfl)
 mono:=by
  rintro w S S' cs F h (h0 | ⟨f,first,cap,hc,h1,h2⟩)
  ·exact .inl h0
  ·exact .inr ⟨f,first,cap,hc,h1,fun s hg ha hb=>h2 s hg (fun b hS=>ha b (h b hS)) fun b hS=>hb b (h b hS)⟩
 move:=by
  rintro w w' S cs F h (h0 | ⟨f,first,cap,hc,h1,h2⟩)
  ·exact .inl h0
  ·exact .inr ⟨f,first,cap,hc,h1,fun s hg ha hb=>h2 s hg ha fun b hS=>(hb b hS).trans (h b hS)⟩
section
variable {P : Program} {ops : Array Oper} {o : Oper} {L : Lst} {β : Type} {qs : β → List Pd} {R : β → St → St → Value → Prop} {F : β → Prop}
theorem o_fun {f:FuncId} (hc:∀(args:Array Value) (w:World),(callFunc f args).run P w = .ok (.enter f args) w) (h:∀q,F q→Fn P f (qs q) (R q)):Opn L (.func f) (Pd.rep (En.fun P qs R) F):=
 fun M n s0 a s hL=>⟨[.func (.func f) #[] #[]],rfl,.inr ⟨f,#[],#[],rfl,hc,fun s1 hgl _ _ q hq vs hv=>by simpa using (h q hq).run s1 vs hgl hv⟩⟩
theorem zfo {t:Nat} {xs:List Operand} {q:β} {q':Pd} {ats:Array TypeId} (hf:Opn L (.tmp t) (Pd.rep (En.fun P qs R) F)) (hq:F q) (hx:zny L xs (qs q)) (hR:∀s s' v,R q s s' v→q'.p s' v)
  (ho:o.op = .call { callee:=.value (.tmp t),args:=xs.toArray,argTypes:=ats }) (hg:o.guard=none):T P ops o L q':=fun M n s0 a s hL Q k hk=>by
 simp only [Region.wanted,hg,if_true];obtain ⟨cs,hv,h⟩:=hf M n s0 a s hL;rcases h with ⟨_,h0⟩ | ⟨f,first,cap,hcs,hc,hr⟩
 ·exact (h0 q hq).elim
 subst hcs;have hv:a.eval (.tmp t) = .func (.func f) first cap:=hv
 have e:(execOp a.eval o).run P s.w = .ok (.enter f (first++(xs.map a.eval).toArray++cap)) s.w:=by
  have e1:execOp a.eval o=(do let d ← Deferred.ofValue (a.eval (.tmp t)) (xs.toArray.map a.eval);invoke d.target d.args):=by
   unfold execOp;rw [ho];rfl
  rw [e1,hv];have:=hc (first++(xs.map a.eval).toArray++cap) s.w;simpa [Deferred.ofValue,invoke] using this
 unfold Oper.wp;rw [e,Oper.upon_enter];refine (hr s hL.gls (fun _ h=>h) (fun _ _=>rfl) q hq _ (hx.vals hL)).mono fun e w' ⟨v,s',he,hw,hx,hq⟩=>?_;subst he;subst hw;exact hk v s' ⟨hx,hR _ _ _ hq⟩
end
theorem ze6 {P:Program} {f:FuncId} {fn:Func} {c:Code} (hf:P.funcs[f]?=some fn) (hb:fn.body=some c) (hm:(fn.name == "runtime.NumGoroutine")=false):∀(args:Array Value) (w:World),(callFunc f args).run P w = .ok (.enter f args) w:=fun args w=>by
 have hm':¬ fn.name = "runtime.NumGoroutine":=by simpa using hm
 simp [callFunc,hf,hm',hb]
theorem o_q {L:Lst} {x:Operand} (q:Pd) (h:Opn L x q):Opn L x q:=h
end Go.Proofs.YtahgmdbioafmbaaGreatDoor.VD
namespace Go.Proofs.YtahgmdbioafmbaaGreatDoor.V
open Go Go.Shelf Go.Sort
set_option linter.unusedVariables false
theorem grow_of {w w':World} (hd:w.drawn≤w'.drawn) (ho:w'.os=w.os) (ht:w'.tape=w.tape) (hu:w'.output=w.output) (hs:w.heap.size≤w'.heap.size) (hb:∀b,b<w.heap.size→w'.heap[b]?=w.heap[b]?):∃q os,w'=Sort.grow (w.drewN q) os:=by
 refine ⟨w'.drawn-w.drawn,w'.heap.extract w.heap.size w'.heap.size, ?_⟩;have hh:w'.heap=w.heap++w'.heap.extract w.heap.size w'.heap.size:=by
  apply Array.ext_getElem?;intro i;rw [Array.getElem?_append];split
  ·exact hb i ‹_›
  ·rw [Array.getElem?_extract]
   rename_i h
   by_cases hi:i<w'.heap.size
   ·rw [if_pos (by omega)];congr 1;omega
   ·rw [if_neg (by omega),Array.getElem?_eq_none (by omega)]
 have hd2:w'.drawn=w.drawn+(w'.drawn-w.drawn):=by omega
 obtain ⟨h1,t1,d1,o1,u1⟩:=w';obtain ⟨h0,t0,d0,o0,u0⟩:=w;simp only at *;subst ho ht hu;unfold Sort.grow World.drewN;simp only;rw [← hh,← hd2]
theorem cmp_grow {P:Program} {g:FuncId} {α:Type} {E':VD.En α} {x y:α} {c:Int} (hc:VD.Fn P g [VD.Pd.rep E' x,VD.Pd.rep E' y] (VD.Rq (VD.Pd.rep (VD.En.int .i64) c))) (s:VD.St) (hg:VD.Gl s) {cx cy:List Value} (hx:E'.R s.w (VD.ze4 s) cx x) (hy:E'.R s.w (VD.ze4 s) cy y):
  Calls P g #[E'.val cx,E'.val cy] s.w fun e w'=>e = .returned (.int .i64 c)∧∃q os',w'=Sort.grow (s.w.drewN q) os':=
 (hc.run s [E'.val cx,E'.val cy] hg ⟨⟨cx,rfl,hx⟩,⟨cy,rfl,hy⟩,trivial⟩).mono fun e w' ⟨v,s',he,hw,hX,hq⟩=>by
  subst he;subst hw;refine ⟨by rw [(VD.zbd.1 hq).1],grow_of hX.mv.dr hX.mv.os hX.mv.tape hX.mv.output hX.mv.size fun b hb=>hX.mv.blk b hb id⟩
theorem swo_cmp {α:Type} {cf:α→α→Int} (h0:∀x,cf x x=0) (ha:∀x y,cf y x = -cf x y) (ht:∀x y z,cf x y≤0→cf y z≤0→cf x z≤0):SWO (Go.Proofs.ltOf cf) where
 irrefl x:=by unfold Go.Proofs.ltOf;rw [h0];rfl
 trans x y z h1 h2:=by
  unfold Go.Proofs.ltOf at *;simp only [decide_eq_true_eq] at *;have a1:=ha x y;have a2:=ha y z;have a3:=ha x z;rcases Int.lt_or_le (cf x z) 0 with h | h
  ·exact h
  ·have:=ht z x y (by omega) (by omega);omega
 ntrans x y z h1 h2:=by
  unfold Go.Proofs.ltOf at *;simp only [decide_eq_false_iff_not,Int.not_lt] at *;have a1:=ha x y;have a2:=ha y z;have a3:=ha x z;have:=ht z y x (by omega) (by omega);omega
theorem put_block {w:World} {b:Nat} {cur:Array Value} {te:TypeId} {F:Array Value} (m:Nat) (os:Array Obj) (hb:w.heap[b]?=some (.cells cur te (0,0))):
  (Sort.grow (putRow id (Sort.ahead w m) b 0 F) os).heap[b]?=some (.cells (putCells id 0 F cur) te (0,0)):=by
 have hlt:=(Array.getElem?_eq_some_iff.1 hb).1;unfold Sort.grow putRow mapBlock;simp only;rw [Array.getElem?_append_left (by simpa [Sort.ahead] using hlt),Array.getElem?_modify,if_pos rfl];show Option.map _ (w.heap[b]?)=_;rw [hb];rfl
theorem put_other {w:World} {b c:Nat} {F:Array Value} (m:Nat) (os:Array Obj) (hc:c<w.heap.size) (hne:c≠b):(Sort.grow (putRow id (Sort.ahead w m) b 0 F) os).heap[c]?=w.heap[c]?:=by
 unfold Sort.grow putRow mapBlock;simp only;rw [Array.getElem?_append_left (by simpa [Sort.ahead] using hc),Array.getElem?_modify,if_neg (Ne.symm hne)];rfl
theorem flat_idx {css:List (List Value)} {k:Nat} (hk:0<k) (h:∀cs∈css,cs.length=k) (j:Nat):css.flatten[j]?=(css[j / k]?).bind (fun cs=>cs[j % k]?):=by
 cases hi:css[j / k]? with
 | none=>
  rw [Option.bind_none,List.getElem?_eq_none];rw [zgz h];have:=List.getElem?_eq_none_iff.1 hi;have h2:=Nat.div_add_mod j k;have h3:css.length*k≤(j / k)*k:=Nat.mul_le_mul_right _ this;rw [Nat.mul_comm] at h2;omega
 | some cs=>
  have hc:cs.length=k:=h cs (List.mem_of_getElem? hi);have hm:=Nat.mod_lt j hk;have e:cs[j % k]?=some cs[j % k]:=List.getElem?_eq_getElem (by omega);have:=zg0 h hi e;rw [Nat.mul_comm,Nat.div_add_mod] at this;rw [this,Option.bind_some,e]
theorem fm_sort {P:Program} {ρ:Ren} (L:Go.Proofs.SlLaysF0.n6 P ρ) {α:Type} {E:En α} {E':VD.En α} {te:TypeId} {g:FuncId} {cf:α→α→Int} (ht24:ρ.t 24=te) (hE:Ty P te E) (hA:E.agg=true) (hA':E'.agg=true) (hR:∀{w S cs x},E.R w S cs x→E'.R w S cs x)
  (hf:∀(args:Array Value) (w:World),(callFunc (ρ.f 6) args).run P w = .ok (.enter (ρ.f 6) args) w) (eg:∀(args:Array Value) (w:World),(callFunc g args).run P w = .ok (.enter g args) w) (hO:SWO (Go.Proofs.ltOf cf)) {xs:List α} (hlen:xs.length≤2147483648)
  (hc:∀x∈xs,∀y∈xs,VD.Fn P g [VD.Pd.rep E' x,VD.Pd.rep E' y] (VD.Rq (VD.Pd.rep (VD.En.int .i64) (cf x y)))) (v0:Value):
  Fm P (ρ.f 6) (fun b=>v0.ownBlock=some b) [Pd.prow E te v0 xs,Pd.is (.func (.func g) #[] #[])] (fun _ s' _=>∃ys:List α,ys.Perm xs∧ys.Pairwise (fun a b=>¬ cf b a<0)∧(Pd.prow E te v0 ys).p s' v0):=by
 refine ⟨hf,fun s vs hgl hX hv=>?_⟩
 match vs,hv with
 | [v,fv],⟨⟨hv0,hrow⟩,hfv,_⟩=>
 have hfv:fv = .func (.func g) #[] #[]:=hfv;subst hfv;subst hv0;obtain ⟨h1,h2,h3,css,hEl,how⟩:=hrow
 by_cases hx0:xs=[]
 ·subst hx0;obtain ⟨p,cap,rfl⟩:∃p cap,v = .slice p 0 cap:=by
   rcases how.2 with ⟨e,_⟩ | ⟨b,cap,cur,e,_⟩
   ·exact ⟨none,0,e⟩
   ·exact ⟨_,cap,e⟩
  refine (Go.Proofs.AnyF.slices_SortFunc_none L p cap _ s.w).mono fun e w' ⟨he,hw⟩=>?_;subst he;subst hw;exact ⟨_,s,rfl,rfl,Fr.refl hX,[],.refl _,List.Pairwise.nil,rfl,h1,h2,h3,css,hEl,how⟩
 have hpos:0<xs.length:=List.length_pos_iff.2 hx0;rcases how.2 with ⟨e,hn⟩ | ⟨b,cap,cur,hvb,hN,hgb,hnc,hcm,hcs,htk⟩
 ·omega
 subst hvb;have hlens:=hEl.lens;have hXb:s.X b:=h2 b rfl;have hblt:b<s.w.heap.size:=s.lt b hXb
 let α':={p:List Value × α // E.R s.w (ze4 s) p.1 p.2∧p.2∈xs}
 have hel:∀i:Fin xs.length,E.R s.w (ze4 s) (css[i.1]'(by rw [hEl.1];exact i.2)) xs[i.1]∧xs[i.1]∈xs:=fun i=>⟨hEl.2 i.1 _ _ (List.getElem?_eq_getElem _) (List.getElem?_eq_getElem _),List.getElem_mem _⟩
 let d:Array α':=Array.ofFn fun i:Fin xs.length=>⟨(css[i.1]'(by rw [hEl.1];exact i.2),xs[i.1]),hel i⟩
 have hdn:d.size=xs.length:=by simp [d]
 haveI:Inhabited α':=⟨d[0]'(by rw [hdn];exact hpos)⟩
 let enc:α'→List Value:=fun p=>p.1.1
 have hk:∀x:α',(enc x).length=E.sz:=fun x=>E.len x.2.1;have hone:∀x:α',∀u∈enc x,u.oneCell'=true:=fun x=>E.one x.2.1;have hdl:d.toList.map (fun p=>p.1.1)=css:=by
  apply List.ext_getElem?;intro i;simp only [d,List.getElem?_map,Array.toList_ofFn,List.getElem?_ofFn]
  by_cases hi:i<xs.length
  ·rw [dif_pos hi,Option.map_some,List.getElem?_eq_getElem (by rw [hEl.1];exact hi)]
  ·rw [dif_neg hi,Option.map_none,List.getElem?_eq_none (by rw [hEl.1];omega)]
 have hdx:d.toList.map (fun p=>p.1.2)=xs:=by
  apply List.ext_getElem?;intro i;simp only [d,List.getElem?_map,Array.toList_ofFn,List.getElem?_ofFn]
  by_cases hi:i<xs.length
  ·rw [dif_pos hi,Option.map_some,List.getElem?_eq_getElem hi]
  ·rw [dif_neg hi,Option.map_none,List.getElem?_eq_none (by omega)]
 have hflat:∀(q:Array α') (j:Nat),j<q.size*E.sz→(q.toList.map (fun p=>p.1.1)).flatten[j]?=some (flatK enc E.sz q)[j]!:=by
  intro q j hj;have hjk:j / E.sz<q.size:=Nat.div_lt_of_lt_mul (by rw [Nat.mul_comm];exact hj);rw [flat_idx E.pos (fun cs hcs=>by obtain ⟨p,hp,rfl⟩:=List.mem_map.1 hcs;exact E.len p.2.1),get_flatK _ _ _ _ hj,List.getElem?_map,Array.getElem?_toList,Array.getElem?_eq_getElem hjk];simp only [Option.map_some,Option.bind_some];rw [getElem!_pos q (j / E.sz) hjk];have hm:j % E.sz<(enc q[j / E.sz]).length:=by rw [hk];exact Nat.mod_lt _ E.pos
  rw [getElem!_pos (enc q[j / E.sz]) _ hm];exact List.getElem?_eq_getElem hm
 have hH:HoldsK enc E.sz s.w b 0 d:=by
  intro j hj;rw [size_flatK] at hj;have hf:=hflat d j hj;rw [hdl] at hf;have hcj:cur[j]?=some (flatK enc E.sz d)[j]!:=by
   rw [← htk,List.getElem?_take] at hf;split at hf
   ·simpa using hf
   ·cases hf
  refine ⟨?_, ?_⟩
  ·rw [Nat.zero_add,cell_of_row s.w b j cur te (0,0) hgb];exact hcj
  ·unfold World.frozen?;simp [hgb]
 have hO':SWO (Go.Proofs.ltOf fun p q:α'=>cf p.1.2 q.1.2):=⟨fun x=>hO.irrefl x.1.2,fun x y z=>hO.trans x.1.2 y.1.2 z.1.2,fun x y z=>hO.ntrans x.1.2 y.1.2 z.1.2⟩;have hcmp:Go.Proofs.CmpLays P g #[] enc E.sz (fun p q:α'=>cf p.1.2 q.1.2) b 0 d.size s.w:=by
  intro m os dk hdk x y;have hsz:s.w.heap.size≤(sortWorldK enc E.sz s.w b 0 m dk os).heap.size:=Go.Proofs.size_sortWorldK_c enc E.sz s.w b 0 m dk os;have hoth:∀c,c<s.w.heap.size→c≠b→(sortWorldK enc E.sz s.w b 0 m dk os).heap[c]?=s.w.heap[c]?:=fun c hc hne=>put_other m os hc hne
  let sd:VD.St:=⟨sortWorldK enc E.sz s.w b 0 m dk os,fun c=>c=b,fun c hc=>by subst hc;omega⟩
  have hgd:VD.Gl sd:=by
   have key:∀c o,¬ s.X c→s.w.heap[c]?=some o→c≠b∧sd.w.heap[c]?=some o:=fun c o k1 k2=>by
    have hpb:c≠b:=fun e=>k1 (e ▸ hXb);exact ⟨hpb,(hoth c (Array.getElem?_eq_some_iff.1 k2).1 hpb).trans k2⟩
   refine ⟨fun p hp=>?_,fun p hp=>?_⟩
   ·obtain ⟨k1,t,fr,k2⟩:=hgl.1 p hp;obtain ⟨k3,k4⟩:=key _ _ k1 k2;exact ⟨k3,t,fr,k4⟩
   ·obtain ⟨k1,m',t,fr,es,clock,ys,k2,k3,k4,k5,k6⟩:=hgl.2 p hp;obtain ⟨j1,j2⟩:=key _ _ k1 k2;obtain ⟨j3,j4⟩:=key _ _ k3 k4;exact ⟨j1,m',t,fr,es,clock,ys,j2,j3,j4,k5,k6⟩
  have hfoot:∀c,ze4 s c→VD.ze4 sd c:=fun c hc=>⟨Nat.lt_of_lt_of_le hc.1 hsz,fun e=>hc.2 (e ▸ hXb)⟩;have conv:∀z:α',E'.R sd.w (VD.ze4 sd) (enc z) z.1.2:=fun z=>E'.mono hfoot (E'.move (fun c hc=>hoth c hc.1 (fun e=>hc.2 (e ▸ hXb))) (hR z.2.1))
  have:=cmp_grow (hc _ x.2.2 _ y.2.2) sd hgd (conv x) (conv y);have hval:∀z:α',E'.val (enc z) = .agg (enc z).toArray:=fun z=>by unfold VD.En.val;rw [hA'];rfl
  rw [hval,hval] at this;exact this
 have hmain:=Go.Proofs.AnyQ.slices_SortFunc L E.sz (fun w=>by rw [ht24,← hA];exact zhi hE w) (fun w=>by rw [ht24];exact zbq hE w) enc hk hone (fun p q:α'=>cf p.1.2 q.1.2) hO' g #[] b 0 cap d s.w eg hcmp hH hblt (by rw [hdn];omega);rw [hdn] at hmain;refine hmain.mono fun e w' ⟨he,d',m,os,hP,hS,hw⟩=>?_;subst he;subst hw;have hd'n:d'.size=xs.length:=hP.1.trans hdn;have hsz:s.w.heap.size≤(sortWorldK enc E.sz s.w b 0 m d' os).heap.size:=Go.Proofs.size_sortWorldK_c enc E.sz s.w b 0 m d' os
 let s':St:=⟨sortWorldK enc E.sz s.w b 0 m d' os,s.X,fun c hc=>Nat.lt_of_lt_of_le (s.lt c hc) hsz⟩
 have hmv:Mv (fun c=>(Value.slice (some ⟨b,0,none⟩) xs.length cap).ownBlock=some c) s s':=
  ⟨trivial,rfl,rfl,rfl,hsz,fun c hc hne=>put_other m os hc (fun e=>hne (by rw [e];rfl)),fun c hc=>hX c hc,fun c hc=>.inl hc⟩
 refine ⟨_,s',rfl,rfl,⟨hmv,fun c hc=>hc⟩,d'.toList.map (fun p=>p.1.2), ?_, ?_,rfl,rfl,fun c hc=>h2 c hc,by simp [hd'n];exact h3,d'.toList.map (fun p=>p.1.1),⟨by simp,fun i cs x hi hx=>?_⟩, ?_⟩
 ·have hp:=(hP.2.2).map (fun p:α'=>p.1.2);have e1:(d'.extract 0 xs.length).toList=d'.toList:=by rw [← hd'n];simp
  have e2:(d.extract 0 xs.length).toList=d.toList:=by rw [← hdn];simp
  rw [e1,e2,hdx] at hp;exact hp
 ·rw [List.pairwise_iff_getElem];intro i j hi hj hij;simp only [List.length_map,Array.length_toList] at hi hj;have:=hS i j (Nat.zero_le _) hij (by omega);unfold Go.Proofs.ltOf at this;rw [getElem!_pos d' i hi,getElem!_pos d' j hj] at this;simpa using this
 ·simp only [List.getElem?_map,Array.getElem?_toList] at hi hx;cases hq:d'[i]? with
  | none=>rw [hq] at hi;cases hi
  | some q=>
   rw [hq] at hi hx;simp only [Option.map_some,Option.some.injEq] at hi hx;subst hi;subst hx;exact E.go hmv q.2.1
 ·have hfl:(d'.toList.map (fun p=>p.1.1)).flatten.length=d'.size*E.sz:=by
   rw [zgz (fun cs hcs=>by obtain ⟨p,hp,rfl⟩:=List.mem_map.1 hcs;exact E.len p.2.1)];simp
  have hle:d'.size*E.sz≤cur.size:=by rw [hcs,hd'n];exact Nat.mul_le_mul_right _ hnc
  refine ⟨by rw [hfl];simp,.inr ⟨b,cap,_,by simp [hd'n],Nat.zero_le _,put_block m os hgb,by simp [hd'n];exact hnc,hcm,by simp [putCells];exact hcs, ?_⟩⟩;apply List.ext_getElem?;intro j;rw [List.getElem?_take];simp only [List.length_map,Array.length_toList];split
  ·rename_i hj
   rw [hflat d' j hj,Array.getElem?_toList];unfold putCells;rw [Array.getElem?_mapIdx,Array.getElem?_eq_getElem (by omega)];simp only [Option.map_some,id];rw [if_pos ⟨Nat.zero_le _,by rw [size_flatK];omega⟩,Nat.sub_zero]
  ·rename_i hj
   rw [List.getElem?_eq_none (by rw [hfl];omega)]
end Go.Proofs.YtahgmdbioafmbaaGreatDoor.V
namespace Go.Proofs.YtahgmdbioafmbaaGreatDoor.V
open Go
set_option linter.unusedVariables false
theorem dt {p:Prop} [Decidable p] (h:decide p=true):p:=of_decide_eq_true h
theorem df {p:Prop} [Decidable p] (h:decide p=false):¬ p:=of_decide_eq_false h
theorem zhq {σ:Type} {P:Nat→σ→Int→Prop} (n:Nat) (I:Nat→σ→Prop)
  (hs:∀i s,i<n→I i s→(∀k,P (k+1) s (i:Int))∨∃s',I (i+1) s'∧∀k,P k s' ((i:Int)+1)→P (k+1) s (i:Int))
  (hx:∀s,I n s→∀k,P (k+1) s (n:Int)) (s:σ) (h:I 0 s):∃k,P k s 0:=by
 have:∀m i s,i+m=n→I i s→∃k,P k s (i:Int):=by
  intro m
  induction m with
  | zero=>intro i s hi hI;have:i=n:=by omega
          subst this;exact ⟨1,hx s hI 0⟩
  | succ m ih=>
   intro i s hi hI;rcases hs i s (by omega) hI with h | ⟨s',h1,h2⟩
   ·exact ⟨1,h 0⟩
   ·obtain ⟨k,hk⟩:=ih (i+1) s' (by omega) h1;exact ⟨k+1,h2 k (by simpa using hk)⟩
 simpa using this n 0 s (by omega) h
theorem run {σ:Type} {P:Nat→σ→Prop} (I:σ→Prop) (μ:σ→Nat) (h:∀s,I s→(∀k,P (k+1) s)∨∃s',I s'∧μ s' < μ s∧∀k,P k s'→P (k+1) s) (s:σ) (hI:I s):∃k,P k s:=by
 have:∀m s,μ s<m→I s→∃k,P k s:=by
  intro m
  induction m with
  | zero=>intro s hs;omega
  | succ m ih=>
   intro s hs hI;rcases h s hI with h1 | ⟨s',h1,h2,h3⟩
   ·exact ⟨1,h1 0⟩
   ·obtain ⟨k,hk⟩:=ih s' (by omega) h1;exact ⟨k+1,h3 k hk⟩
 exact this (μ s+1) s (by omega) hI
theorem zl {x:Int} (h1:-9223372036854775808≤x) (h2:x≤9223372036854775807):InR .i64 x:=zir.2 ⟨h1,h2⟩
theorem zb2 {α:Type} {xs:List α} {i:Nat}:at? xs (i:Int)=xs[i]?:=by
 unfold at?;rw [if_pos (by omega)];simp
def Cl.put (a:Cl) (n:Nat):Cl:=a ||| BitVec.twoPow 256 n
theorem has_put {a:Cl} {n m:Nat} (hn:n<256):(a.put n).has m=(a.has m||decide (n=m)):=by
 unfold Cl.put Cl.has;rw [BitVec.getLsbD_or,BitVec.getLsbD_twoPow];simp [hn]
theorem zjz {a b:Cl} {m:Nat}:(a &&& b).has m=(a.has m&&b.has m):=BitVec.getLsbD_and
theorem znn {a:Cl} {m:Nat} (h:m<256):(~~~ a).has m = !a.has m:=by
 unfold Cl.has;rw [BitVec.getLsbD_not];simp [h]
theorem has_zero {m:Nat}:Cl.has (0#256) m=false:=by simp [Cl.has]
theorem w_nat (a:Cl) (i:Int):(Cl.w a i).toNat=a.word i.toNat:=by simp [Cl.w]
theorem has_w {a:Cl} {n:Nat} (h:n<256):a.has n=(a.word (n / 64)).testBit (n % 64):=by
 rw [Cl.word_bit];simp [Nat.mod_lt,Nat.div_add_mod]
theorem zmy {a:Cl} {i:Nat} {v:Int} (hv:v.toNat<2 ^ 64) (j:Nat) (hj:j<4):(a.setw (i:Int) v).word j=if j=i then v.toNat else a.word j:=by
 unfold Cl.setw;have hw:∀k,a.word k<2 ^ 64:=a.word_lt;have hb:∀(c:Prop) [Decidable c] (k:Nat),(if c then v.toNat else a.word k)<2 ^ 64:=fun c _ k=>by split <;> simp_all
 obtain ⟨h0,h1,h2,h3⟩:=Cl.ofWords_word (hb ((i:Int)=0) 0) (hb ((i:Int)=1) 1) (hb ((i:Int)=2) 2) (hb ((i:Int)=3) 3)
 match j,hj with
 | 0,_=>rw [h0];split <;> split <;> first | rfl | omega
 | 1,_=>rw [h1];split <;> split <;> first | rfl | omega
 | 2,_=>rw [h2];split <;> split <;> first | rfl | omega
 | 3,_=>rw [h3];split <;> split <;> first | rfl | omega
theorem has_setw {a:Cl} {i:Nat} {v:Int} (hv:v.toNat<2 ^ 64) {n:Nat} (hn:n<256):(a.setw (i:Int) v).has n=if n / 64=i then v.toNat.testBit (n % 64) else a.has n:=by
 rw [has_w hn,zmy hv _ (by omega),has_w hn];split <;> rfl
theorem shr_bit {w k:Nat} (hk:k<64):(andI (shrI (w:Int) (k:Int)) 1==1)=w.testBit k:=by
 unfold andI shrI;rw [show min ((k:Int)).toNat 64=k by simp;omega];have h:((w:Int) / 2 ^ k).toNat=w / 2 ^ k:=by
  rw [show ((2:Int) ^ k)=((2 ^ k:Nat):Int) by simp,← Int.natCast_ediv];exact Int.toNat_natCast _
 rw [h];simp only [Int.toNat_one,Nat.and_one_is_mod,Nat.testBit_eq_decide_div_mod_eq];have:=Nat.mod_two_eq_zero_or_one (w / 2 ^ k);rcases this with h | h <;> rw [h] <;> rfl
theorem shl_one {k:Nat} (hk:k<64):shlI 1 (k:Int)=((2 ^ k:Nat):Int):=by
 unfold shlI;rw [show min ((k:Int)).toNat 64=k by simp;omega,Int.one_mul];have:2 ^ k<2 ^ 64:=Nat.pow_lt_pow_right (by omega) hk;rw [show ((2:Int) ^ k)=((2 ^ k:Nat):Int) by simp];generalize 2 ^ k=q at *;omega
theorem put_words {a:Cl} {n:Nat} (hn:n<256):a.setw ((n / 64:Nat):Int) (orI (Cl.w a ((n / 64:Nat):Int)) (shlI 1 ((n % 64:Nat):Int)))=a.put n:=by
 apply Cl.ext;intro c hc;have hlt:(orI (Cl.w a ((n / 64:Nat):Int)) (shlI 1 ((n % 64:Nat):Int))).toNat=a.word (n / 64) ||| 2 ^ (n % 64):=by
  rw [shl_one (Nat.mod_lt _ (by omega))];unfold orI;rw [w_nat,Int.toNat_natCast,Int.toNat_natCast,Int.toNat_natCast]
 have hb:a.word (n / 64) ||| 2 ^ (n % 64)<2 ^ 64:=Nat.or_lt_two_pow (a.word_lt _) (Nat.pow_lt_pow_right (by omega) (Nat.mod_lt _ (by omega)))
 rw [has_setw (by rw [hlt];exact hb) hc,hlt,has_put hn];split
 ·rename_i h
  rw [Nat.testBit_or,Nat.testBit_two_pow,← h,← has_w hc]
  congr 1
  apply decide_eq_decide.2;omega
 ·rename_i h
  rw [show decide (n=c)=false by simp;intro e;subst e;exact h rfl];simp
def Cl.row (f t:Int):Cl:=Cl.of fun n=>decide (f≤(n:Int))&&decide ((n:Int)≤t)
theorem has_row {f t:Int} {n:Nat} (h:n<256):(Cl.row f t).has n=(decide (f≤(n:Int))&&decide ((n:Int)≤t)):=Cl.of_has _ h
def Cl.least (a:Cl):Int × Bool:=match (List.range 256).find? a.has with
 | some n=>((n:Int),true)
 | none=>(0,false)
def Cl.count (a:Cl):Nat:=(List.range 256).countP a.has
def Cl.addL (a:Cl) (l:List Int):Cl:=l.foldl (fun a c=>a.put c.toNat) a
theorem u8_of {c:Int} (h:InR .u8 c):∃n:Nat,n<256∧c=n:=by
 rw [zgy] at h;exact ⟨c.toNat,by omega,by omega⟩
theorem u8_nat {n:Nat} (h:n<256):InR .u8 (n:Int):=zgy.2 ⟨by omega,by omega⟩
theorem least_some {a:Cl} {n:Nat} (h:a.least=((n:Int),true)):n<256∧a.has n=true∧∀m,m<n→a.has m=false:=by
 unfold Cl.least at h;split at h
 ·rename_i k hk
  have e:k=n:=by have h2:=(Prod.mk.inj h).1;omega
  subst e;rw [List.find?_eq_some_iff_getElem] at hk;obtain ⟨h1,i,h2,h3,h4⟩:=hk;simp at h2 h3;subst h3;refine ⟨h2,h1,fun m hm=>?_⟩;have:=h4 m hm;simpa using this
 ·simp at h
theorem least_none {a:Cl} (h:a.least.2=false):∀m,m<256→a.has m=false:=by
 unfold Cl.least at h;split at h
 ·simp at h
 ·rename_i hk
  intro m hm;have:=List.find?_eq_none.1 hk m (by simpa using hm);simpa using this
theorem least_of {a:Cl} {n:Nat} (hn:n<256) (h1:a.has n=true) (h2:∀m,m<n→a.has m=false):a.least=((n:Int),true):=by
 have:(List.range 256).find? a.has=some n:=by
  rw [List.find?_eq_some_iff_getElem];exact ⟨h1,n,by simpa using hn,by simp,fun j hj=>by simp [h2 j hj]⟩
 simp [Cl.least,this]
theorem zhz {a:Cl} (h:∀m,m<256→a.has m=false):a.least=(0,false):=by
 have:(List.range 256).find? a.has=none:=by
  rw [List.find?_eq_none];intro m hm;simp [h m (by simpa using hm)]
 simp [Cl.least,this]
def Cl.ofL (l:List Bool):Cl:=Cl.of fun n=>l.getD n false
theorem has_ofL {l:List Bool} {n:Nat} (h:n<256):(Cl.ofL l).has n=l.getD n false:=Cl.of_has _ h
theorem dig10:∀d:Fin 10,(UInt8.ofNat (48+d.1)).toNat=48+d.1:=by decide
theorem dec_ge (u:Nat):∀c∈Lib.decDigits u,48≤c.toNat∧c.toNat≤57:=by
 induction u using Nat.strongRecOn with
 | ind u ih=>
  intro c hc;have hd:∀d,d<10→(UInt8.ofNat (48+d)).toNat=48+d:=fun d hd=>dig10 ⟨d,hd⟩;rw [Lib.decDigits] at hc;split at hc
  ·rename_i h
   rw [List.mem_singleton.1 hc,hd u h];omega
  ·rename_i h
   rcases List.mem_append.1 hc with hc | hc
   ·exact ih (u / 10) (by omega) c hc
   ·rw [List.mem_singleton.1 hc,hd _ (Nat.mod_lt _ (by omega))];omega
def valD (l:List UInt8):Nat:=l.foldl (fun a c=>10*a+(c.toNat-48)) 0
theorem zl8 (u:Nat):valD (Lib.decDigits u)=u:=by
 induction u using Nat.strongRecOn with
 | ind u ih=>
  have hd:∀d,d<10→(UInt8.ofNat (48+d)).toNat=48+d:=fun d hd=>dig10 ⟨d,hd⟩;rw [Lib.decDigits];split
  ·rename_i h
   simp only [valD,List.foldl_cons,List.foldl_nil,hd u h];omega
  ·rename_i h
   have:=ih (u / 10) (by omega);unfold valD at this ⊢;rw [List.foldl_append,this];simp only [List.foldl_cons,List.foldl_nil,hd _ (Nat.mod_lt u (show 10 > 0 by omega))];omega
theorem zpe (n:Int):∀c∈Lib.itoa n,c≠32:=by
 intro c hc he;subst he;unfold Lib.itoa at hc;split at hc
 ·rcases List.mem_cons.1 hc with h | h
  ·exact absurd h (by decide)
  ·have:=(dec_ge _ _ h).1;exact absurd this (by decide)
 ·have:=(dec_ge _ _ hc).1;exact absurd this (by decide)
theorem itoa_inj {n m:Int} (h:Lib.itoa n=Lib.itoa m):n=m:=by
 have no45:∀u (l:List UInt8),Lib.decDigits u≠45::l:=fun u l he=>by
  have:=(dec_ge u 45 (by rw [he];simp)).1;exact absurd this (by decide)
 unfold Lib.itoa at h;split at h <;> split at h
 ·have:=congrArg valD (List.cons.inj h).2;rw [zl8,zl8] at this;omega
 ·exact absurd h.symm (no45 _ _)
 ·exact absurd h (no45 _ _)
 ·have:=congrArg valD h;rw [zl8,zl8] at this;omega
theorem at_none {α:Type} {xs:List α} {i:Int} (h:i<0∨(xs.length:Int)≤i):at? xs i=none:=by
 unfold at?;split
 ·exact List.getElem?_eq_none (by omega)
 ·rfl
theorem zoq {α:Type} {xs:List α} {i:Int} (h0:0≤i) (h1:i<(xs.length:Int)):∃x,at? xs i=some x∧x∈xs:=by
 refine ⟨xs[i.toNat]'(by omega), ?_,List.getElem_mem _⟩;unfold at?;rw [if_pos h0];exact List.getElem?_eq_getElem _
theorem uptoK {σ:Type} {P:Nat→σ→Int→Prop} (n:Nat) (I:Nat→σ→Prop)
  (hs:∀i s k,i<n→I i s→(∀s',I (i+1) s'→P k s' ((i:Int)+1))→P (k+1) s (i:Int))
  (hx:∀s,I n s→∀k,P (k+1) s (n:Int)) (s:σ) (h:I 0 s):∃k,P k s 0:=by
 have:∀m i s,i+m=n→I i s→P (m+1) s (i:Int):=by
  intro m
  induction m with
  | zero=>intro i s hi hI;have:i=n:=by omega
          subst this;exact hx s hI 0
  | succ m ih=>
   intro i s hi hI;exact hs i s (m+1) (by omega) hI fun s' h'=>by simpa using ih (i+1) s' (by omega) h'
 exact ⟨n+1,by simpa using this n 0 s (by omega) h⟩
theorem zqj {κ ν:Type} [DecidableEq κ] (k:κ) (z:ν):zea ([]:List (κ × ν)) k z=z:=rfl
theorem zij {κ ν:Type} [DecidableEq κ] (p:κ × ν) (xs:List (κ × ν)) (k:κ) (z:ν):zea (p::xs) k z=if p.1=k then p.2 else zea xs k z:=by
 unfold zea;rw [List.find?_cons]
 by_cases h:p.1=k
 ·subst h;simp
 ·have h':(p.1==k)=false:=by simpa using h
  rw [h',if_neg h]
theorem zng {κ ν:Type} [DecidableEq κ] (xs:List (κ × ν)) (k k':κ) (v z:ν):zea (zfa xs k v) k' z=if k=k' then v else zea xs k' z:=by
 have hmap:∀xs:List (κ × ν),zea (xs.map (fun p=>bif p.1==k then (k,v) else p)) k' z=if k=k' then (if zhr xs k=true then v else z) else zea xs k' z:=by
  intro xs
  induction xs with
  | nil=>simp [zqj,zhr]
  | cons p xs ih=>
   rw [List.map_cons,zij,ih,zij]
   by_cases hp:p.1=k
   ·subst hp
    by_cases hk:p.1=k' <;> simp [hk,zhr]
   ·have:(p.1==k)=false:=by simpa using hp
    rw [this]
    by_cases hk:k=k'
    ·subst hk;simp only [zhr,List.any_cons,this,Bool.false_or,cond_false,if_neg hp];rfl
    ·simp [hk]
 have happ:∀xs:List (κ × ν),zhr xs k=false→zea (xs++[(k,v)]) k' z=if k=k' then v else zea xs k' z:=by
  intro xs
  induction xs with
  | nil=>intro _;rw [List.nil_append,zij,zqj]
  | cons p xs ih=>
   intro h;simp only [zhr,List.any_cons,Bool.or_eq_false_iff] at h;rw [List.cons_append,zij,ih h.2,zij];have hp:p.1≠k:=by simpa using h.1
   by_cases hk:k=k'
   ·subst hk;simp [hp]
   ·simp [hk]
 unfold zfa;cases h:zhr xs k
 ·exact happ xs h
 ·rw [cond_true,hmap,h];simp
theorem znk (x y:Int) (a b:List Int):zhs (x::a) (y::b)=if sgnI x y≠0 then sgnI x y else zhs a b:=by
 unfold sgnI;rw [zhs]
 by_cases h1:x<y
 ·simp [h1]
 ·by_cases h2:y<x
  ·simp [h1,h2]
  ·simp [h1,h2]
theorem zd5 (b:List Int):zhs [] b=0:=by cases b <;> rfl
theorem zg9 (a:List Int):zhs a []=0:=by cases a <;> rfl
theorem cmpItem_lex (x y:SItem):cmpItem x y=zhs (zdn x) (zdn y):=by
 unfold cmpItem zdn;simp only [znk,zqy,zd5]
theorem lexI_app {a b:List Int} (h:a.length=b.length) (u v:List Int):zhs (a++u) (b++v)=if zhs a b≠0 then zhs a b else zhs u v:=by
 induction a generalizing b with
 | nil=>
  cases b with
  | nil=>simp [zd5]
  | cons y b=>simp at h
 | cons x a ih=>
  cases b with
  | nil=>simp at h
  | cons y b=>
   simp only [List.cons_append,znk];rw [ih (by simpa using h)];split <;> simp_all
theorem lexI_self (a:List Int):zhs a a=0:=by
 induction a with
 | nil=>rfl
 | cons x a ih=>rw [zhs,if_neg (by omega),if_neg (by omega),ih]
theorem lexI_anti (a b:List Int):zhs b a = -zhs a b:=by
 induction a generalizing b with
 | nil=>rw [zd5,zg9];rfl
 | cons x a ih=>
  cases b with
  | nil=>rw [zd5,zg9];rfl
  | cons y b=>
   rw [zhs,zhs]
   by_cases h1:x<y
   ·rw [if_neg (by omega),if_pos h1,if_pos h1];rfl
   ·by_cases h2:y<x
    ·rw [if_pos h2,if_neg h1,if_pos h2]
    ·rw [if_neg h2,if_neg h1,if_neg h1,if_neg h2,ih]
theorem lexI_zero {a b:List Int} (hl:a.length=b.length) (h:zhs a b=0):a=b:=by
 induction a generalizing b with
 | nil=>cases b with
  | nil=>rfl
  | cons y b=>simp at hl
 | cons x a ih=>
  cases b with
  | nil=>simp at hl
  | cons y b=>
   rw [zhs] at h
   by_cases h1:x<y
   ·rw [if_pos h1] at h;cases h
   ·by_cases h2:y<x
    ·rw [if_neg h1,if_pos h2] at h;cases h
    ·rw [if_neg h1,if_neg h2] at h;rw [ih (by simpa using hl) h,show x=y by omega]
theorem lexI_trans {a b c:List Int} (h1:a.length=b.length) (h2:b.length=c.length) (h:zhs a b<0) (k:zhs b c<0):zhs a c<0:=by
 induction a generalizing b c with
 | nil=>rw [zd5] at h;omega
 | cons x a ih=>
  cases b with
  | nil=>simp at h1
  | cons y b=>
   cases c with
   | nil=>simp at h2
   | cons z c=>
    rw [zhs] at h k ⊢
    by_cases e1:x<y
    ·by_cases e2:y<z
     ·rw [if_pos (by omega)];omega
     ·by_cases e3:z<y
      ·rw [if_neg e2,if_pos e3] at k;omega
      ·rw [if_pos (by omega)];omega
    ·by_cases e2:y<x
     ·rw [if_neg e1,if_pos e2] at h;omega
     ·rw [if_neg e1,if_neg e2] at h
      by_cases e3:y<z
      ·rw [if_pos (by omega)];omega
      ·by_cases e4:z<y
       ·rw [if_neg e3,if_pos e4] at k;omega
       ·rw [if_neg e3,if_neg e4] at k;rw [if_neg (by omega),if_neg (by omega)];exact ih (by simpa using h1) (by simpa using h2) h k
theorem zfr (x:SItem) (s:List SItem):ze0 (x::s)=zdn x++ze0 s:=by simp [ze0]
theorem zd4 (l:List SItem):(ze0 l).length=4*l.length:=by
 induction l with
 | nil=>rfl
 | cons x l ih=>rw [zfr,List.length_append,ih];simp [zdn];omega
theorem numsS_inj {s t:List SItem} (h:ze0 s=ze0 t):s=t:=by
 induction s generalizing t with
 | nil=>
  cases t with
  | nil=>rfl
  | cons y t=>rw [zfr] at h;simp [ze0,zdn] at h
 | cons x s ih=>
  cases t with
  | nil=>rw [zfr] at h;simp [ze0,zdn] at h
  | cons y t=>
   rw [zfr,zfr] at h;obtain ⟨x1,x2,x3,x4⟩:=x;obtain ⟨y1,y2,y3,y4⟩:=y;simp only [zdn,List.cons_append,List.nil_append,List.cons.injEq] at h;obtain ⟨rfl,rfl,rfl,rfl,h⟩:=h;rw [ih h]
theorem zem {a b:List SItem}:ze1 a b=0↔a=b:=by
 constructor
 ·intro h;unfold ze1 numsL at h;rw [zhs] at h
  by_cases h1:(a.length:Int)<(b.length:Int)
  ·rw [if_pos h1] at h;cases h
  ·by_cases h2:(b.length:Int)<(a.length:Int)
   ·rw [if_neg h1,if_pos h2] at h;cases h
   ·rw [if_neg h1,if_neg h2] at h;exact numsS_inj (lexI_zero (by rw [zd4,zd4];omega) h)
 ·rintro rfl;exact lexI_self _
theorem zf3 (a b:List SItem):ze1 b a = -ze1 a b:=lexI_anti _ _
theorem zge {a b c:List SItem} (h:ze1 a b<0) (k:ze1 b c<0):ze1 a c<0:=by
 unfold ze1 numsL at *;rw [zhs] at h k ⊢
 by_cases e1:(a.length:Int)<(b.length:Int)
 ·by_cases e2:(b.length:Int)<(c.length:Int)
  ·rw [if_pos (by omega)];omega
  ·by_cases e3:(c.length:Int)<(b.length:Int)
   ·rw [if_neg e2,if_pos e3] at k;omega
   ·rw [if_pos (by omega)];omega
 ·by_cases e2:(b.length:Int)<(a.length:Int)
  ·rw [if_neg e1,if_pos e2] at h;omega
  ·rw [if_neg e1,if_neg e2] at h
   by_cases e3:(b.length:Int)<(c.length:Int)
   ·rw [if_pos (by omega)];omega
   ·by_cases e4:(c.length:Int)<(b.length:Int)
    ·rw [if_neg e3,if_pos e4] at k;omega
    ·rw [if_neg e3,if_neg e4] at k;rw [if_neg (by omega),if_neg (by omega)];exact lexI_trans (by rw [zd4,zd4];omega) (by rw [zd4,zd4];omega) h k
theorem cut32 {a b:List UInt8} (ha:∀c∈a,c≠32) (hb:∀c∈b,c≠32) {u v:List UInt8} (h:a++32::u=b++32::v):a=b∧u=v:=by
 induction a generalizing b with
 | nil=>
  cases b with
  | nil=>exact ⟨rfl,(List.cons.inj h).2⟩
  | cons y b=>exact absurd (List.cons.inj h).1.symm (hb y (by simp))
 | cons x a ih=>
  cases b with
  | nil=>exact absurd (List.cons.inj h).1 (ha x (by simp))
  | cons y b=>
   obtain ⟨h1,h2⟩:=List.cons.inj h;obtain ⟨h3,h4⟩:=ih (fun c hc=>ha c (by simp [hc])) (fun c hc=>hb c (by simp [hc])) h2;exact ⟨by rw [h1,h3],h4⟩
theorem zin (z:Int) (l:List Int):zko (z::l)=Lib.itoa z++32::zko l:=by simp [zko]
theorem keyN_inj {l m:List Int} (h:zko l=zko m):l=m:=by
 induction l generalizing m with
 | nil=>
  cases m with
  | nil=>rfl
  | cons y m=>rw [zin] at h;simp [zko] at h
 | cons z l ih=>
  cases m with
  | nil=>rw [zin] at h;simp [zko] at h
  | cons y m=>
   rw [zin,zin] at h;obtain ⟨h1,h2⟩:=cut32 (zpe z) (zpe y) h;rw [itoa_inj h1,ih h2]
theorem zgc {s t:List SItem}:keyS s=keyS t↔s=t:=⟨fun h=>numsS_inj (keyN_inj h),fun h=>by rw [h]⟩
def zky (x:SItem):Bool:=x.1==5&&decide (x.2.2.1≤0)
def zkz (x:SItem):SItem:=if x.1=5 then (x.1,x.2.1,x.2.2.1-1,x.2.2.2) else x
def zeb (s:List SItem):List SItem × Bool:=if s.any zky=true then ([],false) else (s.map zkz,true)
theorem znh {α β:Type} {f g:α→Option β} (h:∀a b,f a=some b→g a=some b):∀(l:List α) (r:List β),l.mapM f=some r→l.mapM g=some r
 | [],r,hr=>by simpa using hr
 | a::l,r,hr=>by
  rw [List.mapM_cons] at hr ⊢;cases ha:f a with
  | none=>rw [ha] at hr;simp at hr
  | some b=>
   rw [ha] at hr;cases hl:l.mapM f with
   | none=>rw [hl] at hr;simp at hr
   | some bs=>
    rw [hl] at hr;rw [h a b ha,znh h l bs hl];exact hr
theorem lv_mono1 (d:List SNode):∀(h:Nat) (s:List SItem) (l:List (List SItem)),lv d h s=some l→lv d (h+1) s=some l
 | 0,_,_,hl=>by simp [lv] at hl
 | h+1,s,l,hl=>by
  unfold lv at hl ⊢
  by_cases hr:rdy d s=true
  ·rw [if_pos hr] at hl ⊢;exact hl
  ·rw [if_neg hr] at hl ⊢;obtain ⟨ls,h1,h2⟩:=Option.map_eq_some_iff.1 hl;rw [znh (lv_mono1 d h) _ _ h1,← h2];rfl
theorem zik {d:List SNode} {h h':Nat} (hh:h≤h') {s:List SItem} {l:List (List SItem)} (hl:lv d h s=some l):lv d h' s=some l:=by
 obtain ⟨k,rfl⟩:∃k,h'=h+k:=⟨h' - h,by omega⟩;clear hh
 induction k with
 | zero=>exact hl
 | succ k ih=>exact lv_mono1 d (h+k) s l ih
theorem nzL_aux (d:List SNode):∀(l:List Bool),(d.foldl (fun l n=>l++[nzN l n]) l).length=l.length+d.length∧l <+: d.foldl (fun l n=>l++[nzN l n]) l:=by
 induction d with
 | nil=>intro l;exact ⟨by simp,List.prefix_refl _⟩
 | cons n d ih=>
  intro l;obtain ⟨h1,h2⟩:=ih (l++[nzN l n]);exact ⟨by rw [List.foldl_cons,h1];simp;omega,(List.prefix_append _ _).trans h2⟩
theorem nzL_at {d:List SNode} {i:Nat} {n:SNode} (h:d[i]?=some n):(nzL d)[i]?=some (nzN ((nzL d).take i) n):=by
 have hi:=(List.getElem?_eq_some_iff.1 h).1;have hd:d=d.take i++n::d.drop (i+1):=by
  have hn:d[i]=n:=by rw [List.getElem?_eq_getElem hi] at h;exact Option.some.inj h
  rw [← hn,List.getElem_cons_drop,List.take_append_drop]
 have e:nzL d=(d.drop (i+1)).foldl (fun l n=>l++[nzN l n]) (nzL (d.take i)++[nzN (nzL (d.take i)) n]):=by
  unfold nzL
  conv=>lhs;rw [hd]
  rw [List.foldl_append,List.foldl_cons]
 have hl:(nzL (d.take i)).length=i:=by
  have:=(nzL_aux (d.take i) []).1;unfold nzL;rw [this];simp;omega
 have hp:=(nzL_aux (d.drop (i+1)) (nzL (d.take i)++[nzN (nzL (d.take i)) n])).2;rw [← e] at hp;obtain ⟨r,hr⟩:=hp;have ht:(nzL d).take i=nzL (d.take i):=by rw [← hr,List.append_assoc,List.take_append_of_le_length (by omega),List.take_of_length_le (by omega)]
 rw [ht,← hr,List.append_assoc,List.getElem?_append_right (by omega),hl];simp
theorem zhc {α:Type} {l:List α} {i:Nat} {k:Int} (h0:0≤k) (h1:k<(i:Int)):at? (l.take i) k=at? l k:=by
 unfold at?;rw [if_pos h0,if_pos h0,List.getElem?_take,if_pos (by omega)]
theorem znt {α:Type} {l:List α} {i:Int} {x:α} (h:at? l i=some x):∃k:Nat,i=(k:Int)∧l[k]?=some x:=by
 unfold at? at h;split at h
 ·exact ⟨i.toNat,by omega,h⟩
 ·cases h
theorem nz_at {d:List SNode} (hd:ROk d) {i:Int} {n:SNode} (h:at? d i=some n):nz d i =
  (if n.1=1 then true else if n.1=4 then nz d n.2.1&&nz d n.2.2.1 else if n.1=5 then nz d n.2.1||nz d n.2.2.1 else if n.1=6 then true else if n.1=7 then decide (n.2.2.2.1=0) else false):=by
 obtain ⟨k,rfl,hk⟩:=znt h;have e:=nzL_at hk;have e2:nz d (k:Int)=nzN ((nzL d).take k) n:=by unfold nz;rw [zb2,e];rfl
 rw [e2];unfold nzN
 by_cases h1:n.1=1
 ·simp [h1]
 ·by_cases h4:n.1=4
  ·obtain ⟨⟨a,b⟩,c,e⟩:=hd.two _ n h (.inl h4);rw [if_neg h1,if_pos h4,if_neg h1,if_pos h4,zhc a b,zhc c e];rfl
  ·by_cases h5:n.1=5
   ·obtain ⟨⟨a,b⟩,c,e⟩:=hd.two _ n h (.inr h5);rw [if_neg h1,if_neg h4,if_pos h5,if_neg h1,if_neg h4,if_pos h5,zhc a b,zhc c e];rfl
   ·by_cases h6:n.1=6
    ·simp [h6]
    ·by_cases h7:n.1=7
     ·obtain ⟨a,b⟩:=hd.one _ n h (.inr (.inl h7));have:=hd.nn _ n h (.inr h7);unfold nz at this;rw [if_neg h1,if_neg h4,if_neg h5,if_neg h6,if_pos h7,if_neg h1,if_neg h4,if_neg h5,if_neg h6,if_pos h7,zhc a b,this,Bool.or_false]
     ·simp [h1,h4,h5,h6,h7]
theorem zis (a:List SItem):ze1 a a=0:=zem.2 rfl
theorem zg1 {a:List SItem} (h:ze1 a a<0):False:=by rw [zis] at h;omega
theorem Can.nil:Can (fun _=>0) []:=⟨List.Pairwise.nil,by simp⟩
theorem sat_ne {a b:Nat} (h:sat a=sat b):(a≠0↔b≠0):=by unfold sat at h;omega
theorem Can.congr {f g:List SItem→Nat} {B:List SBranch} (h:Can f B) (e:∀t,sat (f t)=sat (g t)):Can g B:=
 ⟨h.srt,fun t m=>by rw [h.mem,sat_ne (e t),e t]⟩
theorem zj9:∀{B C:List SBranch},B.Pairwise (fun a b=>ze1 a.1 b.1<0)→C.Pairwise (fun a b=>ze1 a.1 b.1<0)→(∀x,x∈B↔x∈C)→B=C
 | [],[],_,_,_=>rfl
 | [],c::C,_,_,h=>by have:=(h c).2 (by simp);cases this
 | b::B,[],_,_,h=>by have:=(h b).1 (by simp);cases this
 | b::B,c::C,hB,hC,h=>by
  rw [List.pairwise_cons] at hB hC;have e:b=c:=by
   rcases List.mem_cons.1 ((h b).1 (by simp)) with e | hb
   ·exact e
   ·rcases List.mem_cons.1 ((h c).2 (by simp)) with e | hc
    ·exact e.symm
    ·exact (zg1 (zge (hB.1 c hc) (hC.1 b hb))).elim
  subst e
  congr 1
  refine zj9 hB.2 hC.2 fun x=>⟨fun hx=>?_,fun hx=>?_⟩
  ·rcases List.mem_cons.1 ((h x).1 (by simp [hx])) with e | hh
   ·subst e;exact (zg1 (hB.1 _ hx)).elim
   ·exact hh
  ·rcases List.mem_cons.1 ((h x).2 (by simp [hx])) with e | hh
   ·subst e;exact (zg1 (hC.1 _ hx)).elim
   ·exact hh
theorem Can.uniq {f:List SItem→Nat} {B C:List SBranch} (hB:Can f B) (hC:Can f C):B=C:=zj9 hB.srt hC.srt fun ⟨t,m⟩=>by rw [hB.mem,hC.mem]
theorem Can.keys {f:List SItem→Nat} {B:List SBranch} (h:Can f B) (t:List SItem):t∈B.map (·.1)↔f t≠0:=by
 rw [List.mem_map];exact ⟨fun ⟨⟨t',m⟩,h1,h2⟩=>by subst h2;exact ((h.mem _ _).1 h1).1,fun h1=>⟨(t,sat (f t)),(h.mem _ _).2 ⟨h1,rfl⟩,rfl⟩⟩
theorem Can.nodup {f:List SItem→Nat} {B:List SBranch} (h:Can f B):(B.map (·.1)).Nodup:=by
 unfold List.Nodup;rw [List.pairwise_map];exact h.srt.imp fun {a b} hab e=>by rw [e] at hab;exact zg1 hab
theorem Can.many {f:List SItem→Nat} {B:List SBranch} (h:Can f B) {b:SBranch} (hb:b∈B):b.2=sat (f b.1)∧f b.1≠0∧1≤b.2∧b.2≤2:=by
 obtain ⟨h1,h2⟩:=(h.mem b.1 b.2).1 hb;exact ⟨h2,h1,by unfold sat at h2;omega,by unfold sat at h2;omega⟩
def zlz (s:List SItem) (many:Int):List SBranch→List SBranch
 | []=>[(s,many)]
 | b::l=>if ze1 s b.1=0 then (s,min 2 (b.2+many))::l else if ze1 s b.1<0 then (s,many)::b::l else b::zlz s many l
theorem addB_mem {s:List SItem} {many:Int}:∀{l:List SBranch} {x:SBranch},x∈zlz s many l→x.1=s∨x∈l
 | [],x,h=>by simp only [zlz,List.mem_singleton] at h;subst h;exact .inl rfl
 | b::l,x,h=>by
  unfold zlz at h;split at h
  ·rcases List.mem_cons.1 h with rfl | h
   ·exact .inl rfl
   ·exact .inr (by simp [h])
  ·split at h
   ·rcases List.mem_cons.1 h with rfl | h
    ·exact .inl rfl
    ·exact .inr h
   ·rcases List.mem_cons.1 h with rfl | h
    ·exact .inr (by simp)
    ·exact (addB_mem h).imp id fun h=>by simp [h]
theorem addB_len (s:List SItem) (many:Int) (l:List SBranch):(zlz s many l).length≤l.length+1:=by
 induction l with
 | nil=>simp [zlz]
 | cons b l ih=>unfold zlz;split;· simp
                split <;> simp;omega
theorem addB_srt {s:List SItem} {many:Int}:∀{l:List SBranch},l.Pairwise (fun a b=>ze1 a.1 b.1<0)→(zlz s many l).Pairwise (fun a b=>ze1 a.1 b.1<0)
 | [],_=>by simp [zlz]
 | b::l,h=>by
  rw [List.pairwise_cons] at h;unfold zlz;split
  ·rename_i h0
   have e:=zem.1 h0;subst e;exact List.pairwise_cons.2 ⟨h.1,h.2⟩
  ·split
   ·rename_i h1
    refine List.pairwise_cons.2 ⟨fun c hc=>?_,List.pairwise_cons.2 h⟩;rcases List.mem_cons.1 hc with rfl | hc
    ·exact h1
    ·exact zge h1 (h.1 c hc)
   ·rename_i h0 h1
    refine List.pairwise_cons.2 ⟨fun c hc=>?_,addB_srt h.2⟩;rcases addB_mem hc with e | hc
    ·rw [e];have:=zf3 s b.1;omega
    ·exact h.1 c hc
theorem addB_no {s:List SItem} {many:Int}:∀{l:List SBranch},(∀b∈l,b.1≠s)→l.Pairwise (fun a b=>ze1 a.1 b.1<0)→∀x,x∈zlz s many l↔x=(s,many)∨x∈l
 | [],_,_,x=>by simp [zlz]
 | b::l,hn,h,x=>by
  rw [List.pairwise_cons] at h;unfold zlz;rw [if_neg fun h0=>hn b (by simp) (zem.1 h0).symm];split
  ·simp
  ·rw [List.mem_cons,addB_no (fun c hc=>hn c (by simp [hc])) h.2,List.mem_cons];constructor
   ·rintro (h | h | h) <;> simp [h]
   ·rintro (h | h | h) <;> simp [h]
theorem addB_yes {s:List SItem} {many m:Int}:∀{l:List SBranch},(s,m)∈l→l.Pairwise (fun a b=>ze1 a.1 b.1<0)→∀x,x∈zlz s many l↔x=(s,min 2 (m+many))∨(x∈l∧x.1≠s)
 | b::l,hm,h,x=>by
  rw [List.pairwise_cons] at h;unfold zlz
  by_cases hb:ze1 s b.1=0
  ·rw [if_pos hb];have e:=zem.1 hb;have hbm:b=(s,m):=by
    rcases List.mem_cons.1 hm with e' | hm
    ·exact e'.symm
    ·have:=h.1 _ hm;rw [← e] at this;exact (zg1 this).elim
   subst hbm;rw [List.mem_cons,List.mem_cons];constructor
   ·rintro (h' | h')
    ·exact .inl h'
    ·refine .inr ⟨.inr h',fun e'=>?_⟩;have:=h.1 _ h';rw [e'] at this;exact zg1 this
   ·rintro (h' | ⟨h' | h',h''⟩)
    ·exact .inl h'
    ·subst h';exact absurd rfl h''
    ·exact .inr h'
  ·rw [if_neg hb];have hml:(s,m)∈l:=(List.mem_cons.1 hm).resolve_left fun e=>hb (by rw [← e];exact zis _);have hlt:=h.1 _ hml;rw [if_neg fun h'=>by have:=zf3 s b.1;have h2:ze1 b.1 s<0:=hlt;omega];rw [List.mem_cons,addB_yes hml h.2,List.mem_cons];have hne:b.1≠s:=fun e=>hb (by rw [e];exact zis _);constructor
   ·rintro (h' | h' | ⟨h',h''⟩)
    ·subst h';exact .inr ⟨.inl rfl,hne⟩
    ·exact .inl h'
    ·exact .inr ⟨.inr h',h''⟩
   ·rintro (h' | ⟨h' | h',h''⟩)
    ·exact .inr (.inl h')
    ·exact .inl h'
    ·exact .inr (.inr ⟨h',h''⟩)
theorem Can.add {f:List SItem→Nat} {B:List SBranch} (h:Can f B) (s:List SItem) {n:Nat} (h1:n≠0):Can (fun t=>f t+if t=s then n else 0) (zlz s (sat n) B):=by
 refine ⟨addB_srt h.srt,fun t m=>?_⟩
 by_cases hs:f s=0
 ·rw [addB_no (fun b hb e=>by have:=(h.many hb).2.1;rw [e] at this;exact this hs) h.srt,h.mem,Prod.mk.injEq]
  by_cases ht:t=s
  ·subst ht;simp [hs,h1]
  ·simp [ht]
 ·rw [addB_yes ((h.mem s _).2 ⟨hs,rfl⟩) h.srt,h.mem,Prod.mk.injEq]
  by_cases ht:t=s
  ·subst ht;simp only [true_and,if_true,ne_eq,not_true_eq_false,and_false,or_false];have:min 2 (sat (f t)+sat n)=sat (f t+n):=by unfold sat;omega
   rw [this];exact ⟨fun e=>⟨by omega,e⟩,fun e=>e.2⟩
  ·simp [ht]
theorem zim {α:Type} [DecidableEq α]:∀{l U:List α},l.Nodup→(∀t∈l,t∈U)→l.length≤U.length
 | [],_,_,_=>Nat.zero_le _
 | x::l,U,hn,h=>by
  rw [List.nodup_cons] at hn;have hx:=h x (by simp);have:=zim (l:=l) (U:=U.erase x) hn.2 fun t ht=>(List.mem_erase_of_ne (fun e=>hn.1 (by rw [← e];exact ht))).2 (h t (by simp [ht]));rw [List.length_erase_of_mem hx] at this;have:=List.length_pos_of_mem hx;simp only [List.length_cons];omega
theorem zq4 {f:List SItem→Nat} {B:List SBranch} (h:Can f B) {U:List (List SItem)} (hU:∀t,f t≠0→t∈U):B.length≤U.length:=by
 have:(B.map (·.1)).length≤U.length:=zim h.nodup fun t ht=>hU t ((h.keys t).1 ht);simpa using this
theorem cmp_in {x y:Int}:zc5 x y (sgnI x y):=by
 refine ⟨false,by simp [zeu],false,by simp [zeu],(fun h=>by cases h),fun _=>⟨(fun h=>by cases h),fun _=>⟨fun h=>?_,fun h=>⟨fun h2=>?_,fun h2=>?_⟩⟩⟩⟩
 ·unfold sgnI;rw [if_pos (dt h)]
 ·unfold sgnI;rw [if_neg (df h),if_pos (dt h2)]
 ·unfold sgnI;rw [if_neg (df h),if_neg (df h2)]
theorem or_in {l:List Int} (hl:l.length<1000000):zcx l (zqy l):=by
 refine zhq (P:=fun k (_:Unit) v=>zcx.l1 l (zqy l) _ k v) l.length (fun i _=>zqy l=zqy (l.drop i)) ?_ ?_ () (by simp)
 ·intro i _ hi h;have hat:at? l (i:Int)=some l[i]:=by rw [zb2];simp [hi]
  rw [List.drop_eq_getElem_cons hi] at h
  by_cases hz:l[i]=0
  ·rw [zqy,if_neg (by simpa using hz)] at h;exact .inr ⟨(),h,fun k hk=>⟨fun _=>⟨_,hat,fun hb=>by simp [hz] at hb,fun _=>⟨zl (by omega) (by omega),hk⟩⟩,fun h=>absurd (by omega) (df h)⟩⟩
  ·rw [zqy,if_pos hz] at h;exact .inl fun k=>⟨fun _=>⟨_,hat,fun _=>h,fun hb=>by simp at hb;exact absurd hb hz⟩,fun h=>absurd (by omega) (df h)⟩
 ·intro _ h k;refine ⟨fun h=>absurd (dt h) (by omega),fun _=>?_⟩;rw [List.drop_length] at h;exact h
theorem cmp1_in {x y:SItem}:zdv x y (zhs (zdn x) (zdn y)):=by
 rw [← cmpItem_lex];exact ⟨_,cmp_in,_,cmp_in,_,cmp_in,_,cmp_in,_,or_in (by simp),rfl⟩
theorem cmpFunc_in {a b:List SItem} (hl:a.length=b.length) (hs:a.length≤1000):zi a b (fun q_=>zdv q_.1 q_.2.1 q_.2.2) (zhs (ze0 a) (ze0 b)):=by
 refine zhq (P:=fun k (_:Unit) v=>zi.l1 a b (fun q_=>zdv q_.1 q_.2.1 q_.2.2) (zhs (ze0 a) (ze0 b)) _ k v) a.length (fun i _=>zhs (ze0 a) (ze0 b)=zhs (ze0 (a.drop i)) (ze0 (b.drop i))) ?_ ?_ () (by simp)
 ·intro i _ hi h;have ha:at? a (i:Int)=some a[i]:=by rw [zb2];simp [hi]
  have hb:at? b (i:Int)=some (b[i]'(by omega)):=by rw [zb2];simp [show i<b.length by omega]
  rw [List.drop_eq_getElem_cons hi,List.drop_eq_getElem_cons (show i<b.length by omega),zfr,zfr,lexI_app (by simp [zdn])] at h
  by_cases hz:zhs (zdn a[i]) (zdn (b[i]'(by omega)))=0
  ·rw [if_neg (by simpa using hz)] at h;refine .inr ⟨(),h,fun k hk=>⟨fun _=>⟨_,ha,fun h2=>absurd (dt h2) (by omega),fun _=>⟨_,hb,zhs (zdn a[i]) (zdn (b[i]'(by omega))),cmp1_in,fun h3=>?_,fun _=>⟨zl (by omega) (by omega),hk⟩⟩⟩,fun h=>absurd (by omega) (df h)⟩⟩;rw [hz] at h3;simp at h3
  ·rw [if_pos hz] at h;refine .inl fun k=>⟨fun _=>⟨_,ha,fun h2=>absurd (dt h2) (by omega),fun _=>⟨_,hb,zhs (zdn a[i]) (zdn (b[i]'(by omega))),cmp1_in,fun _=>h,fun h3=>?_⟩⟩,fun h=>absurd (by omega) (df h)⟩;simp at h3;exact absurd h3 hz
 ·intro _ h k;refine ⟨fun h=>absurd (dt h) (by omega),fun _=>⟨fun h2=>absurd (dt h2) (by omega),fun _=>?_⟩⟩;rw [h,List.drop_length];exact zd5 _
theorem zgo {a b:List SItem} (hs:a.length≤1000):zf1 a b (ze1 a b):=by
 have e:ze1 a b=if sgnI (a.length:Int) (b.length:Int)≠0 then sgnI (a.length:Int) (b.length:Int) else zhs (ze0 a) (ze0 b):=by unfold ze1 numsL;rw [znk]
 refine ⟨_,cmp_in,fun h=>?_,fun h=>?_⟩
 ·rw [e,if_pos (by simpa using h)]
 ·have h0:sgnI (a.length:Int) (b.length:Int)=0:=by simpa using h
  have hl:a.length=b.length:=by
   unfold sgnI at h0
   by_cases h1:(a.length:Int)<(b.length:Int)
   ·rw [if_pos h1] at h0;cases h0
   ·by_cases h2:(b.length:Int)<(a.length:Int)
    ·rw [if_neg h1,if_pos h2] at h0;cases h0
    ·omega
  refine ⟨_,cmpFunc_in hl hs, ?_⟩;rw [e,if_neg (by simpa using h0)]
theorem numsS_snoc (s:List SItem) (x:SItem):ze0 (s++[x])=ze0 s++zdn x:=by simp [ze0]
theorem zh6 {s:List SItem} (hs:s.length≤1000):zdf s (numsL s):=by
 refine zhq (P:=fun k (t:List Int) v=>zdf.l1 s _ k t v) s.length (fun i t=>t=(s.length:Int)::ze0 (s.take i)) ?_ ?_ _ (by simp [ze0])
 ·rintro i t hi rfl;have hat:at? s (i:Int)=some s[i]:=by rw [zb2];simp [hi]
  have hl:=zd4 (s.take i);simp only [List.length_take] at hl;refine .inr ⟨_,rfl,fun k h=>⟨fun _=>⟨_,hat,_,hat,_,hat,_,hat,by simp only [List.length_cons,List.length_nil];omega,zl (by omega) (by omega), ?_⟩,fun h=>absurd (by omega) (df h)⟩⟩;rw [List.take_succ_eq_append_getElem hi,numsS_snoc] at h;exact h
 ·rintro t rfl k;refine ⟨fun h=>absurd (dt h) (by omega),fun _=>?_⟩;rw [List.take_length];rfl
theorem zl3 {a b:List SItem} (ha:a.length≤1000) (hb:b.length≤1000):zc2 a b (ze1 a b):=by
 refine ⟨_,zh6 ha,_,zh6 hb, ?_⟩;have la:(numsL a).length≤4001:=by unfold numsL;rw [List.length_cons,zd4];omega
 show ∃k,zc2.l1 (numsL a) (numsL b) (ze1 a b) (zc2.j1 (ze1 a b)) k 0;unfold ze1;generalize numsL a=X at *;generalize numsL b=Y at *;refine zhq (P:=fun k (_:Unit) v=>zc2.l1 X Y (zhs X Y) _ k v) (min X.length Y.length) (fun i _=>zhs X Y=zhs (X.drop i) (Y.drop i)) ?_ ?_ () (by simp)
 ·intro i _ hi h;have hx:i<X.length:=by omega
  have hy:i<Y.length:=by omega
  have hax:at? X (i:Int)=some X[i]:=by rw [zb2];simp [hx]
  have hay:at? Y (i:Int)=some Y[i]:=by rw [zb2];simp [hy]
  have hb:(true:Bool)=((decide ((i:Int)<(X.length:Int)))&&(decide ((i:Int)<(Y.length:Int)))):=by simp;omega
  rw [List.drop_eq_getElem_cons hx,List.drop_eq_getElem_cons hy,zhs] at h
  by_cases h1:X[i] < Y[i]
  ·rw [if_pos h1] at h;exact .inl fun k=>⟨true,hb,fun _=>⟨_,hax,_,hay,fun _=>h,fun h2=>absurd h1 (df h2)⟩,(fun h=>by cases h)⟩
  ·by_cases h2:Y[i] < X[i]
   ·rw [if_neg h1,if_pos h2] at h;exact .inl fun k=>⟨true,hb,fun _=>⟨_,hax,_,hay,fun h3=>absurd (dt h3) h1,fun _=>⟨_,hax,_,hay,fun _=>h,fun h3=>absurd h2 (df h3)⟩⟩,(fun h=>by cases h)⟩
   ·rw [if_neg h1,if_neg h2] at h;exact .inr ⟨(),h,fun k hk=>⟨true,hb,fun _=>⟨_,hax,_,hay,fun h3=>absurd (dt h3) h1,fun _=>⟨_,hax,_,hay,fun h3=>absurd (dt h3) h2,fun _=>⟨zl (by omega) (by omega),hk⟩⟩⟩,(fun h=>by cases h)⟩⟩
 ·intro _ h k;refine ⟨false,by simp;omega,(fun h=>by cases h),fun _=>?_⟩;show zhs X Y=0;rw [h];rcases Nat.le_total X.length Y.length with hle | hle
  ·rw [Nat.min_eq_left hle,List.drop_length];exact zd5 _
  ·rw [Nat.min_eq_right hle,List.drop_length];exact zg9 _
def ItR (x:SItem):Prop:=InR .i64 x.1∧InR .i64 x.2.1∧InR .i64 x.2.2.1∧InR .i64 x.2.2.2
theorem clone_in {s:List SItem} (hs:s.length≤1000):zb9 s s:=fun b hb=>⟨fun h=>hb h,fun _=>⟨by simp;omega,by simp⟩⟩
theorem zmg {s:List SItem} {i:Nat} (hi:i<s.length):(s.take (i+1)).any zky=((s.take i).any zky||zky s[i]):=by
 rw [List.take_succ_eq_append_getElem hi,List.any_append];simp
theorem any_of {s:List SItem} {i:Nat} (hi:i<s.length) (h:zky s[i]=true):s.any zky=true:=List.any_eq_true.2 ⟨_,List.getElem_mem hi,h⟩
theorem znl {s:List SItem} (hs:s.length≤1000):zkq s (keyS s):=⟨hs,rfl⟩
theorem at0 {α:Type} (x:α) (l:List α):at? (x::l) 0=some x:=rfl
theorem zph {a b:List SItem} (ha:a.length≤100000) (hb:b.length≤100000):zk [a,b] (a++b):=by
 refine ⟨3,⟨fun _=>⟨a,rfl,zl (by omega) (by omega),fun h=>absurd (dt h) (by omega),fun _=>⟨zl (by omega) (by omega), ?_⟩⟩,fun h=>absurd h (by simp)⟩⟩;refine ⟨fun _=>⟨b,rfl,zl (by omega) (by omega),fun h=>absurd (dt h) (by omega),fun _=>⟨zl (by omega) (by omega), ?_⟩⟩,fun h=>absurd h (by simp)⟩;refine ⟨fun h=>absurd h (by simp),fun _=>?_⟩;refine ⟨[],⟨by omega,by omega,rfl⟩,3, ?_⟩;refine ⟨fun _=>⟨a,rfl,by simp;omega,zl (by omega) (by omega), ?_⟩,fun h=>absurd h (by simp)⟩;refine ⟨fun _=>⟨b,rfl,by simp;omega,zl (by omega) (by omega), ?_⟩,fun h=>absurd h (by simp)⟩;refine ⟨fun h=>absurd h (by simp),fun _=>?_⟩;show a++b=[]++a++b;simp
theorem with_in {rest list:List SItem} (ha:list.length≤100000) (hb:rest.length≤100000):zcs rest list (list++rest):=⟨_,zph ha hb,rfl⟩
theorem zq6 {rest list:List SItem} (ha:list.length≤100000) (hb:rest.length≤100000):zck list rest (list++rest):=⟨by simp;omega,by simp;omega,by simp⟩
theorem zdx {d:List SNode} {x:SItem} {s:List SItem} (h:zej d (x::s)=true):ze9 d x=true∧zej d s=true:=by simpa [zej] using h
theorem zf2 {d:List SNode} {x:SItem} (h:ze9 d x=true) (h5:x.1≠5):∃n,at? d x.2.1=some n∧(x.1=1∨(x.1=2∧n.1=7)∨(x.1=3∧n.1=3)∨(x.1=4∧n.1=9)):=by
 unfold ze9 at h;rw [if_neg h5] at h;cases hn:at? d x.2.1 with
 | none=>rw [hn] at h;cases h
 | some n=>
  rw [hn] at h;refine ⟨n,rfl, ?_⟩;simp only at h
  by_cases h1:x.1=1
  ·exact .inl h1
  ·rw [if_neg h1] at h
   by_cases h2:x.1=2
   ·rw [if_pos h2] at h;simp at h;exact .inr (.inl ⟨h2,h.1.1.1⟩)
   ·rw [if_neg h2] at h
    by_cases h3:x.1=3
    ·rw [if_pos h3] at h;simp at h;exact .inr (.inr (.inl ⟨h3,h.1.1.1⟩))
    ·rw [if_neg h3] at h
     by_cases h4:x.1=4
     ·rw [if_pos h4] at h;simp at h;exact .inr (.inr (.inr ⟨h4,h.1.1.1⟩))
     ·rw [if_neg h4] at h;cases h
theorem kinds9 {k:Int} (h:1≤k∧k≤9):k=1∨k=2∨k=3∨k=4∨k=5∨k=6∨k=7∨k=8∨k=9:=by omega
theorem zol {d:List SNode} (hd:ROk d) {s:List SItem} (hf:zej d s=true):zjy d s (rdy d s):=by
 cases s with
 | nil=>exact ⟨fun _=>rfl,fun h=>absurd h (by simp)⟩
 | cons x s=>
  refine ⟨fun h=>absurd h (by simp;omega),fun _=>⟨x,at0 x s,fun h1=>?_,fun h1=>⟨fun h3=>⟨fun _=>by simp only [rdy,h3,Bool.true_or],fun h=>absurd h3 (by rw [h];simp)⟩,fun h3=>⟨fun h4=>by simp only [rdy,h4,Bool.true_or,Bool.or_true],fun h4=>by simp only [rdy,h1,h3,h4,Bool.false_and,Bool.or_false]⟩⟩⟩⟩;have e1:x.1=1:=by simpa using h1
  obtain ⟨n,hn,_⟩:=zf2 (zdx hf).1 (by omega);have hk:=hd.kind _ n hn;refine ⟨n,hn,(n.1==2||n.1==8||n.1==9),fun _=>?_, ?_⟩
  ·rcases kinds9 hk with e | e | e | e | e | e | e | e | e <;> rw [e] <;> rfl
  ·simp only [rdy,hn,e1];have:decide (n.1<10)=true:=by simp;omega
   rw [this];simp
theorem zjo {d:List SNode} {s:List SItem} (hf:zej d s=true) (hd0:∃n,at? d 0=some n):zm4 d s (rdy d s):=by
 cases s with
 | nil=>exact ⟨(0,0,0,0),fun h=>absurd h (by simp),(0,0,0,0),fun h=>absurd h (by simp),true,by simp,fun _=>rfl,fun h=>by cases h⟩
 | cons x s=>
  refine ⟨x,fun _=>at0 x s,x,fun _=>at0 x s,_,rfl,fun h=>?_,fun h=>?_⟩
  ·simp only [List.length_cons,Bool.or_eq_true,beq_iff_eq] at h;have:x.1=3∨x.1=4:=by omega
   rcases this with e | e <;> simp [rdy,e]
  ·simp only [List.length_cons,Bool.or_eq_false_iff] at h;have hnode:∃n,at? d x.2.1=some n:=by
    by_cases h5:x.1=5
    ·have:=(zdx hf).1;unfold ze9 at this;rw [if_pos h5] at this;simp at this;rw [this.1.1];exact hd0
    ·obtain ⟨n,hn,_⟩:=zf2 (zdx hf).1 h5;exact ⟨n,hn⟩
   obtain ⟨n,hn⟩:=hnode;refine ⟨x,at0 x s,n,hn,x,at0 x s,_,rfl, ?_⟩;simp only [rdy,hn,h.1.2,h.2,Bool.false_or]
theorem opn_len {d:List SNode} (s:List SItem):(opn d s).length≤2:=by
 cases s with
 | nil=>simp [opn]
 | cons x s=>
  simp only [opn]
  by_cases h5:x.1=5
  ·rw [if_pos h5];split <;> simp
  ·rw [if_neg h5];cases at? d x.2.1 with
   | none=>simp
   | some n=>
    simp only
    by_cases h2:x.1=2
    ·rw [if_pos h2];split <;> split <;> simp
    ·rw [if_neg h2]
     by_cases h1:n.1=1
     ·simp [h1]
     ·by_cases h3:n.1=3
      ·simp [h3]
      ·by_cases h4:n.1=4
       ·simp [h4]
       ·by_cases h5:n.1=5
        ·simp [h5]
        ·by_cases h6:n.1=6
         ·simp [h6]
         ·simp [h1,h3,h4,h5,h6]
theorem zqx {d:List SNode} (hd:ROk d) {s:List SItem} (hf:zej d s=true) (hr:rdy d s=false) (hl:s.length≤10000) (hd0:∃n,at? d 0=some n):zc6 d s (opn d s):=by
 cases s with
 | nil=>simp [rdy] at hr
 | cons x s=>
  simp only [List.length_cons] at hl;have hdrop:(x::s).drop (1:Int).toNat=s:=rfl;have w0:zcs s [] s:=with_in (by simp) (by omega);have wl:∀l:List SItem,l.length≤2→zcs s l (l++s):=fun l h=>with_in (by omega) (by omega);have hx:=(zdx hf).1
  by_cases h5:x.1=5
  ·obtain ⟨n0,hn0⟩:=hd0;have hx':=hx;unfold ze9 at hx';rw [if_pos h5] at hx';simp at hx';refine ⟨x,at0 x s,⟨by omega,by simp;omega⟩,n0,by rw [hx'.1.1];exact hn0,fun h=>⟨s,w0, ?_⟩,fun h=>⟨fun _=>?_,fun h'=>absurd h' (by simp [h5])⟩⟩
   ·simp at h;simp [opn,h5,h.2]
   ·simp [h5] at h;simp [opn,h5,h]
  ·obtain ⟨n,hn,hk⟩:=zf2 hx h5;refine ⟨x,at0 x s,⟨by omega,by simp;omega⟩,n,hn,fun h=>absurd h (by simp [h5]),fun _=>⟨fun h=>absurd h (by simp [h5]),fun _=>⟨fun h2=>?_,fun h2=>?_⟩⟩⟩
   ·have e2:x.1=2:=by simpa using h2
    have hlo:0≤x.2.2.1∧x.2.2.1≤x.2.2.2∧x.2.2.2≤255:=by
     have hx':=hx;unfold ze9 at hx';rw [if_neg h5,hn] at hx';simp [e2] at hx';have:=hd.rep _ n hn hx'.1.1.1;omega
    have hj:∀out:List (List SItem),out.length≤1→∀r,r=out++(if 0<x.2.2.2 then [(1,n.2.1,0,0)::(2,x.2.1,max (x.2.2.1-1) 0,x.2.2.2-1)::s] else [])→zc6.j2 (x::s) r x n out:=by
     intro out hout r hrr;refine ⟨fun h=>⟨(1,n.2.1,0,0),rfl,zl (by omega) (by omega),zl (by omega) (by omega),_,wl _ (by simp),by simp;omega, ?_⟩,fun h=>?_⟩
     ·have:0<x.2.2.2:=dt h;show r=_;rw [hrr,if_pos this,e2];rfl
     ·have:¬ 0<x.2.2.2:=df h;show r=_;rw [hrr,if_neg this,List.append_nil]
    refine ⟨fun h=>⟨s,w0,by simp,hj _ (by simp) _ ?_⟩,fun h=>hj _ (by simp) _ ?_⟩
    ·have e0:x.2.2.1=0:=by simpa using h
     simp [opn,hn,e2,e0]
    ·have e0:¬ x.2.2.1=0:=by simpa using h
     simp [opn,hn,e2,e0]
   ·have e2:¬ x.1=2:=by simpa using h2
    have e1:x.1=1:=by
     rcases hk with h | ⟨h,_⟩ | ⟨h,_⟩ | ⟨h,_⟩
     ·exact h
     ·exact absurd h e2
     ·simp [rdy,h] at hr
     ·simp [rdy,h] at hr
    refine ⟨fun h=>⟨s,w0, ?_⟩,fun k1=>⟨fun h=>⟨_,wl _ (by simp), ?_⟩,fun k3=>⟨fun h=>⟨_,rfl,_,rfl,_,wl _ (by simp), ?_⟩,fun k4=>⟨fun h=>⟨_,rfl,_,wl _ (by simp),_,rfl,_,wl _ (by simp), ?_⟩,fun k5=>⟨fun h=>⟨s,w0,_,rfl,_,wl _ (by simp), ?_⟩,fun k6=>⟨_,wl _ (by simp), ?_⟩⟩⟩⟩⟩⟩
    all_goals simp only [opn,hn,if_neg h5,if_neg e2]
    all_goals simp_all
theorem zp0 {d:List SNode} (hd:ROk d) {s:List SItem} (hf:zej d s=true) (hr:rdy d s=false) (hl:s.length≤10000) (hd0:∃n,at? d 0=some n):zdq d s (opn d s):=by
 cases s with
 | nil=>simp [rdy] at hr
 | cons x s=>
  simp only [List.length_cons] at hl;have w0:zck [] s s:=zq6 (by simp) (by omega);have wl:∀l:List SItem,l.length≤2→zck l s (l++s):=fun l h=>zq6 (by omega) (by omega);have hx:=(zdx hf).1
  by_cases h5:x.1=5
  ·obtain ⟨n0,hn0⟩:=hd0;have hx':=hx;unfold ze9 at hx';rw [if_pos h5] at hx';simp at hx';refine ⟨x,at0 x s,⟨by omega,by simp;omega⟩,n0,by rw [hx'.1.1];exact hn0,fun _=>⟨fun h=>⟨s,w0,by simp, ?_⟩,fun h=>?_⟩,fun h=>absurd h (by simp [h5])⟩
   ·simp at h;show opn d (x::s)=_;simp [opn,h5,h]
   ·simp at h;show opn d (x::s)=_;simp [opn,h5,h]
  ·obtain ⟨n,hn,hk⟩:=zf2 hx h5;refine ⟨x,at0 x s,⟨by omega,by simp;omega⟩,n,hn,fun h=>absurd h (by simp [h5]),fun _=>⟨fun h2=>?_,fun h2=>?_⟩⟩
   ·have e2:x.1=2:=by simpa using h2
    have hlo:0≤x.2.2.1∧x.2.2.1≤x.2.2.2∧x.2.2.2≤255:=by
     have hx':=hx;unfold ze9 at hx';rw [if_neg h5,hn] at hx';simp [e2] at hx';have:=hd.rep _ n hn hx'.1.1.1;omega
    have hj:∀out:List (List SItem),out.length≤1→∀r,r=out++(if 0<x.2.2.2 then [(1,n.2.1,0,0)::(2,x.2.1,max (x.2.2.1-1) 0,x.2.2.2-1)::s] else [])→zdq.j3 (x::s) r x n out:=by
     intro out hout r hrr;refine ⟨fun h=>⟨zl (by omega) (by omega),zl (by omega) (by omega),_,wl _ (by simp),by simp;omega, ?_⟩,fun h=>?_⟩
     ·have:0<x.2.2.2:=dt h;show r=_;rw [hrr,if_pos this,Int.max_comm];rfl
     ·have:¬ 0<x.2.2.2:=df h;show r=_;rw [hrr,if_neg this,List.append_nil]
    refine ⟨fun h=>⟨s,w0,by simp,hj _ (by simp) _ ?_⟩,fun h=>hj _ (by simp) _ ?_⟩
    ·have e0:x.2.2.1=0:=by simpa using h
     simp [opn,hn,e2,e0]
    ·have e0:¬ x.2.2.1=0:=by simpa using h
     simp [opn,hn,e2,e0]
   ·have e2:¬ x.1=2:=by simpa using h2
    have e1:x.1=1:=by
     rcases hk with h | ⟨h,_⟩ | ⟨h,_⟩ | ⟨h,_⟩
     ·exact h
     ·exact absurd h e2
     ·simp [rdy,h] at hr
     ·simp [rdy,h] at hr
    have h289:n.1≠2∧n.1≠8∧n.1≠9:=by
     simp only [rdy,hn,e1] at hr;simp at hr;omega
    have hk9:=hd.kind _ n hn;refine ⟨fun h=>⟨s,w0,by simp, ?_⟩,fun k1=>⟨fun h=>⟨_,wl _ (by simp),by simp, ?_⟩,fun k3=>⟨fun h=>⟨_,wl _ (by simp),by simp, ?_⟩,fun k4=>⟨fun h=>⟨_,wl _ (by simp),_,wl _ (by simp),by simp, ?_⟩,fun k5=>⟨fun h=>⟨s,w0,_,wl _ (by simp),by simp, ?_⟩,fun k6=>⟨fun h=>⟨_,wl _ (by simp),by simp, ?_⟩,fun k7=>?_⟩⟩⟩⟩⟩⟩
    ·simp only [opn,hn,if_neg h5,if_neg e2];simp_all
    ·simp only [opn,hn,if_neg h5,if_neg e2];simp_all
    ·simp only [opn,hn,if_neg h5,if_neg e2];simp_all
    ·simp only [opn,hn,if_neg h5,if_neg e2];simp_all
    ·simp only [opn,hn,if_neg h5,if_neg e2];simp_all
    ·simp only [opn,hn,if_neg h5,if_neg e2];simp_all
    ·exfalso;simp at k1 k3 k4 k5 k6 k7;omega
end Go.Proofs.YtahgmdbioafmbaaGreatDoor.V
