/-
  The texts that the law's proof needs, part 2.
-/
import Derived.Carry
import Derived.ChangeSame
import Derived.Deep.Slices
import Derived.Handed
import Derived.KernelRfl
import Derived.LaidHandle
import Derived.LaidLaws
import Derived.LaidMore
import Derived.Lib.ItoaLen
import Derived.Lib.ItoaNum
import Derived.Lib.Join
import Derived.Lib.LaidTab
import Derived.Lib.SlBytesConst
import Derived.OpenShut
import Derived.ProofKit
import Derived.RowKit
import Derived.SizedLaws
import Derived.Stop.LaidErr
import Derived.Test.YtamjkbneebghmaaDoorRows
import Derived.WalkKit
import Derived.WideKeyElems2
import Derived.Test.YtamjkbneebghmaaDoorPrintTellsP1

namespace Go.Proofs.YtamjkbneebghmaaDoor.V
open Go
set_option linter.unusedVariables false
set_option maxRecDepth 100000
set_option maxHeartbeats 2000000
set_option synthInstance.maxSize 100000
set_option synthInstance.maxHeartbeats 200000
theorem zcm {l_:(List SNode)} {by_:Int} {r_:(List SNode)} (h:ze l_ by_ r_):Fn Tryd.prog 30 [(Pd.rep (En.slice En.SNode) l_),(Pi by_)] (Ro En.SNode 43 r_):=by
 unfold ze at h;refine zbb Tryd.func30 J Tryd.ntmps30 (by rfl) (by simp) fun s0 a L=>?_;refine rs (sno En.SNode 43 L fun a s L=>?_);refine es (rs ?_);refine sno En.SNode 43 L fun a s L=>?_;refine es (wp_seq_k fun K1 H1=>?_);refine rA 1 L fun a s L=>?_;refine wp_block ?_;have J4:∀(out2:(List SNode)) (og3:Option Nat) (a:Act) (s:St),Has N0 44 s0 a s [(5,(Pd.row En.SNode s0.w.heap.size 43 og3 out2))]→((ze.j1 r_) out2)→K1 a s.w:=by
  intro out2 og3 a s L h;unfold ze.j1 at h;show K1 a s.w;refine H1 _ _ (rA 2 L fun a s L=>?_);subst h;exact wp_ret (reto J L J)
 obtain ⟨k8,h⟩:=h;refine lpn (fun k9 a s=>∃(out5:(List SNode)) (i7:Int) (og6:Option Nat),Has N0 44 s0 a s [(0,(Pd.rep (En.slice En.SNode) l_)),(1,(Pi by_)),(5,(Pd.row En.SNode s0.w.heap.size 43 og6 out5)),(6,(Pi i7))]∧ze.l1 l_ by_ (ze.j1 r_) k9 out5 i7) k8 ⟨([]:(List SNode)),0,none,L.kk,h⟩ ?_;rintro k9 a s ⟨out5,i7,og6,L,h⟩ KL10 hKL10;unfold ze.l1 at h;refine wp_seq_k fun K11 H11=>rA 4 L fun a s L=>?_;refine cn L h (fun h=>?_) fun h=>?_
 ·refine wp_skip (H11 _ _ ?_);refine wp_seq_k fun K12 H12=>wp_block ?_;obtain ⟨e13,h14,h⟩:=h;refine rs (sl 4 (p1 h14) L fun a s L=>?_);have lt_d16:=L.rlt 5 rfl;refine z7 En.SNode (z:=(0,0,0,0,0,(0#256),([]:Str))) 7 L zfh J J J J fun a s g15 hg_ L=>?_;have d16:=Dis.newg hg_ lt_d16;refine sB 7 L fun s L=>?_;refine es (wp_seq_k fun K17 H17=>?_);refine rA 3 L fun a s L=>?_;have J19:∀(n18:SNode) (a:Act) (s:St),Has N0 44 s0 a s [(0,(Pd.rep (En.slice En.SNode) l_)),(1,(Pi by_)),(5,(Pd.row En.SNode s0.w.heap.size 43 og6 out5)),(6,(Pi i7)),(7,(Pd.box En.SNode s0.w.heap.size g15 n18))]→Dis og6 (some g15)→((ze.j3 (ze.l1 l_ by_ (ze.j1 r_) k9) by_ out5 i7) n18)→K17 a s.w:=by
   intro n18 a s L d20 h;unfold ze.j3 at h;show K17 a s.w;refine H17 _ _ (wp_seq_k fun K21 H21=>?_);refine rA 8 L fun a s L=>?_;have J23:∀(n22:SNode) (a:Act) (s:St),Has N0 44 s0 a s [(0,(Pd.rep (En.slice En.SNode) l_)),(1,(Pi by_)),(5,(Pd.row En.SNode s0.w.heap.size 43 og6 out5)),(6,(Pi i7)),(7,(Pd.box En.SNode s0.w.heap.size g15 n22))]→Dis og6 (some g15)→((ze.j2 (ze.l1 l_ by_ (ze.j1 r_) k9) out5 i7) n22)→K21 a s.w:=by
    intro n22 a s L d24 h;unfold ze.j2 at h;show K21 a s.w;refine H21 _ _ ?_;obtain ⟨h25,h⟩:=h;refine rg (sA 3 L fun a s L=>?_);refine st_app 42 L op op Ud.h Tq.h h25 J J J J ka fun a s og26 hg_ L=>?_;refine sA 1 L fun a s L=>?_;refine en' (H12 _ _ ?_);obtain ⟨h27,h⟩:=h;refine rg (sA 3 L fun a s L=>?_);refine en' ?_;exact hKL10 a s ⟨(out5++[n22]),(i7+1),og26,L.kk,h⟩
   refine cn L h (fun h=>?_) fun h=>?_
   ·obtain ⟨h28,h⟩:=h;refine rg (sA 5 L fun a s L=>?_);refine zb6 7 L J op op (zk (zk (zbf (z1 _ _ _)) J) J) Tq.h J J J ka fun s L=>?_;refine en' ?_;exact J23 (n18.1,n18.2.1,n18.2.2.1+by_,n18.2.2.2.1,n18.2.2.2.2.1,n18.2.2.2.2.2.1,n18.2.2.2.2.2.2) a s (L.kk) d20 h
   ·refine wp_skip ?_;exact J23 n18 a s (L.kk) d20 h
  refine cn L h (fun h=>?_) fun h=>?_
  ·obtain ⟨h29,h⟩:=h;refine rg (sA 5 L fun a s L=>?_);refine zb6 7 L J op op (zk (zbf (z1 _ _ _)) J) Tq.h J J J ka fun s L=>?_;refine en' ?_;exact J19 (e13.1,e13.2.1+by_,e13.2.2.1,e13.2.2.2.1,e13.2.2.2.2.1,e13.2.2.2.2.2.1,e13.2.2.2.2.2.2) a s (L.kk) (Dis.symm d16) h
  ·refine wp_skip ?_;exact J19 e13 a s (L.kk) (Dis.symm d16) h
 ·refine wp_exit ?_;exact J4 out5 og6 a s (L.kk) h
theorem zfp {kind_:Int} {a_:SDesc} {b_:SDesc} {r_:SDesc} (h:zdc kind_ a_ b_ r_):Fn Tryd.prog 19 [(Pi kind_),(Pd.rep En.SDesc a_),(Pd.rep En.SDesc b_)] (Rq (Pd.rep En.SDesc r_)):=by
 unfold zdc at h;refine zbb Tryd.func19 J Tryd.ntmps19 (by rfl) (by simp) fun s0 a L=>?_;refine rs (sA 2 L fun a s L=>?_);refine z7 En.SDesc (z:=[]) 6 L zfi J J J J fun a s g1 hg_ L=>?_;refine es ?_;obtain ⟨r4,h5,r6,h7,h10,h⟩:=h;refine wp_seq ?_;obtain ⟨K2,H2,nK2,L⟩:=L.mark 999983;have lt3:∀k,(some g1)=some k→k<K2:=by rw [H2];exact L.blt 6 rfl
 refine rda zc9 9 [(Pd.ptr (En.slice En.SNode) a_),(Pd.rep (En.slice En.SNode) a_),(Pd.erow En.SNode s0.w.heap.size K2 43 r4),(Pd.ptr (En.slice En.SNode) b_),(Pd.rep (En.slice En.SNode) b_),(Pd.ptr (En.slice En.SNode) a_),(Pd.rep (En.slice En.SNode) a_),(Pi (a_.length:Int)),(Pd.rep (En.slice En.SNode) r6)] L (by kernel_rfl) J J ?_ ?_
 ·refine z6.cons (t_fa (off:=0) (O 4 J) Tryd.underlying24 J (zdd (zba _ _)) J ty22 J J) ?_;refine z6.cons (zcb ty22 (O 8 J) J J) ?_;refine z6.cons (t_callox (K:=K2) (m:=999983) J nK2 (zcm h5) (xs:=[.tmp 9,.const (.int .i64 0)]) (.cons (O 9 J) (.cons oI .nil)) J J) ?_;refine z6.cons (t_fa (off:=0) (O 5 J) Tryd.underlying24 J (zdd (zba _ _)) J ty22 J J) ?_;refine z6.cons (zcb ty22 (O 11 J) J J) ?_;refine z6.cons (t_fa (off:=0) (O 4 J) Tryd.underlying24 J (zdd (zba _ _)) J ty22 J J) ?_;refine z6.cons (zcb ty22 (O 13 J) J J) ?_;refine z6.cons (t_len (O 14 J) Tryd.underlying22 J J) ?_;refine z6.cons (zc2 ((zcm h7).frz) (xs:=[.tmp 12,.tmp 15]) (.cons (O 12 J) (.cons (O 15 J) .nil)) J J) ?_;exact z6.nil
 intro a s _ L;obtain ⟨og8,hg_,L⟩:=L.openr 10 rfl;have d9:=Dis.new hg_ lt3;replace L:=L.kk (L':=[(0,(Pi kind_)),(4,(Pd.ptr En.SDesc a_)),(5,(Pd.ptr En.SDesc b_)),(6,(Pd.box En.SDesc s0.w.heap.size g1 [])),(10,(Pd.row En.SNode s0.w.heap.size 43 og8 r4)),(16,(Pd.rep (En.slice En.SNode) r6))]);refine dp ?_;have lt_og11_0:=L.blt 6 rfl;refine st_app 17 L op op Ud.h Tq.h h10 J J J J ka fun a s og11 hg_ L=>?_;have d12:=Dis.app hg_ d9 lt_og11_0;refine sA 1 L fun a s L=>?_;refine es ?_;obtain ⟨h13,h14,h15,h16,h⟩:=h;refine rs (sA 14 L fun a s L=>?_);refine sv (zdl (x:=(kind_,(a_.length:Int)-1,((a_.length:Int)+(b_.length:Int))-1,0,0,(0#256),([]:Str))) (ps:=[(0,.tmp 19),(1,.tmp 23),(2,.tmp 31)]) zfh J stt43 (.cons (i:=0) op J (zbf (z1 _ _ _)) (.cons (i:=1) op J (zk (zbf (z1 _ _ _)) J) (.cons (i:=2) op J (zk (zk (zbf (z1 _ _ _)) J) J) .nil))) J J) L fun a s L=>?_;refine sA 1 L fun a s L=>?_;have lt_og17_0:=L.blt 6 rfl;refine st_app 34 L op op Ud.h Tq.h h16 J J J J ka fun a s og17 hg_ L=>?_;have d18:=Dis.app hg_ d12 lt_og17_0;refine fzl 34 L fun s L=>?_;refine sv (zdl (x:=(r4++r6)++[(kind_,(a_.length:Int)-1,((a_.length:Int)+(b_.length:Int))-1,0,0,(0#256),([]:Str))]) (ps:=[(0,.tmp 34)]) zfi J stt24 (.cons (i:=0) op J (zfj (z1 _ _ _)) .nil) J J) L fun a s L=>?_;refine sB 6 L fun s L=>?_;refine es ?_;subst h;exact wp_ret (retb J ty24 L J)
theorem zdu {kind_:Int} {lo_:Int} {hi_:Int} {a_:SDesc} {r_:SDesc} (h:zcn kind_ lo_ hi_ a_ r_):Fn Tryd.prog 18 [(Pi kind_),(Pi lo_),(Pi hi_),(Pd.rep En.SDesc a_)] (Rq (Pd.rep En.SDesc r_)):=by
 unfold zcn at h;refine zbb Tryd.func18 J Tryd.ntmps18 (by rfl) (by simp) fun s0 a L=>?_;refine rs (sA 1 L fun a s L=>?_);refine z7 En.SDesc (z:=[]) 8 L zfi J J J J fun a s g1 hg_ L=>?_;refine es ?_;obtain ⟨r4,h5,h6,h9,h⟩:=h;refine wp_seq ?_;obtain ⟨K2,H2,nK2,L⟩:=L.mark 999983;have lt3:∀k,(some g1)=some k→k<K2:=by rw [H2];exact L.blt 8 rfl
 refine rda zc9 12 [(Pd.ptr (En.slice En.SNode) a_),(Pd.rep (En.slice En.SNode) a_),(Pd.erow En.SNode s0.w.heap.size K2 43 r4),(Pi kind_),(Pd.ptr (En.slice En.SNode) a_),(Pd.rep (En.slice En.SNode) a_),(Pi (a_.length:Int)),(Pi ((a_.length:Int)-1)),(Pi lo_),(Pi hi_),(Pd.rep En.SNode (kind_,(a_.length:Int)-1,0,lo_,hi_,(0#256),([]:Str))),(Pd.rep (En.slice En.SNode) [(kind_,(a_.length:Int)-1,0,lo_,hi_,(0#256),([]:Str))])] L (by kernel_rfl) J J ?_ ?_
 ·refine z6.cons (t_fa (off:=0) (O 7 J) Tryd.underlying24 J (zdd (zba _ _)) J ty22 J J) ?_;refine z6.cons (zcb ty22 (O 9 J) J J) ?_;refine z6.cons (t_callox (K:=K2) (m:=999983) J nK2 (zcm h5) (xs:=[.tmp 10,.const (.int .i64 0)]) (.cons (O 10 J) (.cons oI .nil)) J J) ?_;refine z6.cons (zdq (O 0 J) J J) ?_;refine z6.cons (t_fa (off:=0) (O 7 J) Tryd.underlying24 J (zdd (zba _ _)) J ty22 J J) ?_;refine z6.cons (zcb ty22 (O 13 J) J J) ?_;refine z6.cons (t_len (O 14 J) Tryd.underlying22 J J) ?_;refine z6.cons (t_sub (O 15 J) oI h6 J J) ?_;refine z6.cons (zdq (O 1 J) J J) ?_;refine z6.cons (zdq (O 2 J) J J) ?_;refine z6.cons (zdl (x:=(kind_,(a_.length:Int)-1,0,lo_,hi_,(0#256),([]:Str))) (ps:=[(0,.tmp 12),(1,.tmp 16),(3,.tmp 17),(4,.tmp 18)]) zfh J stt43 (.cons (i:=0) (O 12 J) J (zbf (z1 _ _ _)) (.cons (i:=1) (O 16 J) J (zk (zbf (z1 _ _ _)) J) (.cons (i:=3) (O 17 J) J (zk (zk (zk (zbf (z1 _ _ _)) J) J) J) (.cons (i:=4) (O 18 J) J (zk (zk (zk (zk (zbf (z1 _ _ _)) J) J) J) J) .nil)))) J J) ?_;refine z6.cons (t_lit (xs:=[.tmp 19]) (.cons (O 19 J) .nil) Tryd.underlying22 ty43 J J (by decide) J J) ?_;exact z6.nil
 intro a s _ L;obtain ⟨og7,hg_,L⟩:=L.openr 11 rfl;have d8:=Dis.new hg_ lt3;replace L:=L.kk (L':=[(8,(Pd.box En.SDesc s0.w.heap.size g1 [])),(11,(Pd.row En.SNode s0.w.heap.size 43 og7 r4)),(20,(Pd.rep (En.slice En.SNode) [(kind_,(a_.length:Int)-1,0,lo_,hi_,(0#256),([]:Str))]))]);refine dp ?_;have lt_og10_0:=L.blt 8 rfl;refine st_app 21 L op op Ud.h Tq.h h9 J J J J ka fun a s og10 hg_ L=>?_;have d11:=Dis.app hg_ d8 lt_og10_0;refine fzl 21 L fun s L=>?_;refine sv (zdl (x:=r4++[(kind_,(a_.length:Int)-1,0,lo_,hi_,(0#256),([]:Str))]) (ps:=[(0,.tmp 21)]) zfi J stt24 (.cons (i:=0) op J (zfj (z1 _ _ _)) .nil) J J) L fun a s L=>?_;refine sB 8 L fun s L=>?_;refine es ?_;subst h;exact wp_ret (retb J ty24 L J)
theorem ref04_Few_ok {d_:SDesc} {r_:Bool} (h:zz d_ r_):Fn Tryd.prog 7 [(Pd.rep En.SDesc d_)] (Rq (Pd.rep En.bool r_)):=by
 unfold zz at h;refine zbb Tryd.func7 J Tryd.ntmps7 (by rfl) (by simp) fun s0 a L=>?_;refine rA 2 L fun a s L=>?_;refine rA 1 L fun a s L=>?_;refine wp_seq_k fun K1 H1=>rA 1 L fun a s L=>?_;refine wp_block ?_;have J3:∀(n2:Int) (a:Act) (s:St),Has N0 33 s0 a s [(1,(Pd.ptr En.SDesc d_)),(3,(Pi n2))]→((zz.j1 d_ r_) n2)→K1 a s.w:=by
  intro n2 a s L h;unfold zz.j1 at h;show K1 a s.w;refine H1 _ _ ?_;obtain ⟨b4,h5,h⟩:=h;refine ra 9 (p1 h5) L fun a s L=>?_;subst h;exact wp_ret (zbs J L J)
 obtain ⟨k8,h⟩:=h;refine lpn (fun k9 a s=>∃(n6:Int) (i7:Int),Has N0 33 s0 a s [(1,(Pd.ptr En.SDesc d_)),(3,(Pi n6)),(4,(Pi i7))]∧zz.l1 d_ (zz.j1 d_ r_) k9 n6 i7) k8 ⟨0,0,L.kk,h⟩ ?_;rintro k9 a s ⟨n6,i7,L,h⟩ KL10 hKL10;unfold zz.l1 at h;refine wp_seq_k fun K11 H11=>?_;obtain ⟨b12,h13,h⟩:=h;refine ra 9 (p1 h13) L fun a s L=>?_;refine cn L h (fun h=>?_) fun h=>?_
 ·refine wp_skip (H11 _ _ ?_);refine wp_seq_k fun K14 H14=>wp_block ?_;obtain ⟨e15,h16,h17,h⟩:=h;refine rg (sl 10 (p1 h16) L fun a s L=>?_);refine en' (H14 _ _ ?_);obtain ⟨h18,h⟩:=h;refine rg (sA 3 L fun a s L=>?_);refine en' ?_;exact hKL10 a s ⟨(n6+(e15.2.2.2.2.2.2.length:Int)),(i7+1),L.kk,h⟩
 ·refine wp_exit ?_;exact J3 n6 a s (L.kk) h
theorem zfo {s_:Str} {r_:Bool} (h:zr s_ r_):Fn Tryd.prog 31 [(Pd.rep En.str s_)] (Rq (Pd.rep En.bool r_)):=by
 unfold zr at h;refine zbb Tryd.func31 J Tryd.ntmps31 (by rfl) (by simp) fun s0 a L=>?_;refine rA 1 L fun a s L=>?_;refine wp_seq_k fun K1 H1=>rA 1 L fun a s L=>?_;refine wp_block ?_;have J2:∀(a:Act) (s:St),Has N0 21 s0 a s [(0,(Pd.rep En.str s_))]→((zr.j1 s_ r_))→K1 a s.w:=by
  intro a s L h;unfold zr.j1 at h;show K1 a s.w;refine H1 _ _ ?_;obtain ⟨r3,h4,h⟩:=h;refine ra 8 (pp (fun hc_=>(zfr (h4 hc_))) trivial) L fun a s L=>?_;subst h;exact wp_ret (zbs J L J)
 obtain ⟨k6,h⟩:=h;refine lpn (fun k7 a s=>∃(i5:Int),Has N0 21 s0 a s [(0,(Pd.rep En.str s_)),(3,(Pi i5))]∧zr.l1 s_ r_ (zr.j1 s_ r_) k7 i5) k6 ⟨0,L.kk,h⟩ ?_;rintro k7 a s ⟨i5,L,h⟩ KL8 hKL8;unfold zr.l1 at h;refine wp_seq_k fun K9 H9=>rA 4 L fun a s L=>?_;refine cn L h (fun h=>?_) fun h=>?_
 ·refine wp_skip (H9 _ _ ?_);refine wp_seq_k fun K10 H10=>wp_block ?_;obtain ⟨c11,h12,h⟩:=h;refine ra 4 (p1 h12) L fun a s L=>?_;refine cn L h (fun h=>?_) fun h=>?_
  ·refine rA 1 L fun a s L=>?_;subst h;exact wp_ret (zbs J L J)
  ·refine wp_skip (H10 _ _ ?_);obtain ⟨h13,h⟩:=h;refine rg (sA 3 L fun a s L=>?_);refine en' ?_;exact hKL8 a s ⟨(i5+1),L.kk,h⟩
 ·refine wp_exit ?_;exact J2 a s (L.kk) h
theorem zb.n_ok (k_:Nat):∀{l_:(List SNode)} {i_:Int} {r_:Int} (h:zb.n k_ l_ i_ r_),Fn Tryd.prog 20 [(Pd.rep (En.slice En.SNode) l_),(Pi i_)] (Rq (Pi r_)):=by
 induction k_ with
 | zero=>intro l_ i_ r_ h;exact h.elim
 | succ k_ ih_=>
 intro l_ i_ r_ h;unfold zb.n at h;refine zbb Tryd.func20 J Tryd.ntmps20 (by rfl) (by simp) fun s0 a L=>?_;refine rA 1 L fun a s L=>?_;refine wp_seq_k fun K1 H1=>rA 2 L fun a s L=>?_;refine cn L h (fun h=>?_) fun h=>?_
 ·refine rA 1 L fun a s L=>?_;subst h;exact wp_ret (zbs J L J)
 ·refine wp_skip (H1 _ _ ?_);obtain ⟨e2,h3,h⟩:=h;refine rs (sl 4 (p1 h3) L fun a s L=>?_);refine z7 En.SNode (z:=(0,0,0,0,0,(0#256),([]:Str))) 5 L zfh J J J J fun a s g4 hg_ L=>?_;refine sB 5 L fun s L=>?_;refine es (rs ?_);refine sA 2 L fun a s L=>?_;refine sv (zdl (x:=(e2.1,0,0,0,0,(0#256),([]:Str))) (ps:=[(0,.tmp 16)]) zfh J stt43 (.cons (i:=0) op J (zbf (z1 _ _ _)) .nil) J J) L fun a s L=>?_;have lt_d6:=L.blt 5 rfl;refine z7 En.SNode (z:=(0,0,0,0,0,(0#256),([]:Str))) 6 L zfh J J J J fun a s g5 hg_ L=>?_;have d6:=Dis.newg hg_ lt_d6;refine sB 6 L fun s L=>?_;refine es (rA 2 L fun a s L=>?_);refine wp_seq_k fun K7 H7=>rA 2 L fun a s L=>?_;refine wp_block (rA 2 L fun a s L=>?_);refine cn L h (fun h=>?_) fun h=>?_
  ·refine wp_skip (H7 _ _ ?_);refine wp_seq_k fun K8 H8=>rs (sA 2 L fun a s L=>?_);refine sv (t_nev eq43 op op J J) L fun a s L=>?_;refine es (cn L h (fun h=>?_) fun h=>?_)
   ·refine rA 1 L fun a s L=>?_;subst h;exact wp_ret (zbs J L J)
   ·refine wp_skip (H8 _ _ ?_);refine rA 2 L fun a s L=>?_;subst h;exact wp_ret (zbs J L J)
  ·refine rA 2 L fun a s L=>?_;refine cn L h (fun h=>?_) fun h=>?_
   ·refine rg ?_;refine sA 3 L fun a s L=>?_;refine zb6 6 L J op op (zk (zk (zk (zk (zk (zbf (z1 _ _ _)) J) J) J) J) J) Tq.h J J J ka fun s L=>?_;refine en' (H7 _ _ ?_);refine wp_seq_k fun K9 H9=>?_;obtain ⟨b10,h11,h⟩:=h;refine rs (sA 2 L fun a s L=>?_);refine sv (h11 ▸ (t_nev eq43 op op J J)) L fun a s L=>?_;refine es (cn L h (fun h=>?_) fun h=>?_)
    ·refine rA 1 L fun a s L=>?_;subst h;exact wp_ret (zbs J L J)
    ·refine wp_skip (H9 _ _ ?_);refine rA 2 L fun a s L=>?_;subst h;exact wp_ret (zbs J L J)
   ·refine rA 2 L fun a s L=>?_;refine cn L h (fun h=>?_) fun h=>?_
    ·refine rs ?_;refine sA 3 L fun a s L=>?_;refine zb6 6 L J op op (zk (zk (zk (zk (zk (zk (z1 _ _ _) J) J) J) J) J) J) Tq.h J J J ka fun s L=>?_;refine es ?_;obtain ⟨r12,h13,h⟩:=h;refine ra 4 (p1 (zfo h13)) L fun a s L=>?_;refine cn L h (fun h=>?_) fun h=>?_
     ·refine rA 1 L fun a s L=>?_;subst h;exact wp_ret (zbs J L J)
     ·refine wp_skip (H7 _ _ ?_);refine wp_seq_k fun K14 H14=>?_;obtain ⟨b15,h16,h⟩:=h;refine rs (sA 2 L fun a s L=>?_);refine sv (h16 ▸ (t_nev eq43 op op J J)) L fun a s L=>?_;refine es (cn L h (fun h=>?_) fun h=>?_)
      ·refine rA 1 L fun a s L=>?_;subst h;exact wp_ret (zbs J L J)
      ·refine wp_skip (H14 _ _ ?_);refine rA 2 L fun a s L=>?_;subst h;exact wp_ret (zbs J L J)
    ·refine wp_seq_k fun K17 H17=>?_;refine rA 2 L fun a s L=>?_;have J19:∀(v18:Bool) (a:Act) (s:St),Has N0 96 s0 a s [(0,(Pd.rep (En.slice En.SNode) l_)),(1,(Pi i_)),(5,(Pd.box En.SNode s0.w.heap.size g4 e2)),(6,(Pd.box En.SNode s0.w.heap.size g5 (e2.1,0,0,0,0,(0#256),([]:Str)))),(20,(Pi e2.1)),(37,(Pd.rep En.bool v18))]→Dis (some g4) (some g5)→((zb.j3 (zb.n k_) l_ i_ r_ e2) v18)→K17 a s.w:=by
      intro v18 a s L d20 h;unfold zb.j3 at h;show K17 a s.w;refine H17 _ _ (cn L h (fun h=>?_) fun h=>?_)
      ·obtain ⟨h21,h⟩:=h;refine rs (sA 3 L fun a s L=>?_);refine zb6 6 L J op op (zk (zbf (z1 _ _ _)) J) Tq.h J J J ka fun s L=>?_;refine es (wp_seq_k fun K22 H22=>?_);refine rA 3 L fun a s L=>?_;have J24:∀(want23:SNode) (a:Act) (s:St),Has N0 96 s0 a s [(0,(Pd.rep (En.slice En.SNode) l_)),(1,(Pi i_)),(5,(Pd.box En.SNode s0.w.heap.size g4 e2)),(6,(Pd.box En.SNode s0.w.heap.size g5 want23))]→Dis (some g4) (some g5)→((zb.j1 (zb.n k_) l_ i_ r_ e2) want23)→K22 a s.w:=by
        intro want23 a s L d25 h;unfold zb.j1 at h;show K22 a s.w;refine H22 _ _ ?_;obtain ⟨h26,r27,h28,h⟩:=h;refine rg (sl 5 (p1 (ih_ h28)) L fun a s L=>?_);refine en' (H7 _ _ ?_);refine wp_seq_k fun K29 H29=>rs (sA 2 L fun a s L=>?_);refine sv (t_nev eq43 op op J J) L fun a s L=>?_;refine es (cn L h (fun h=>?_) fun h=>?_)
        ·refine rA 1 L fun a s L=>?_;subst h;exact wp_ret (zbs J L J)
        ·refine wp_skip (H29 _ _ ?_);refine rA 2 L fun a s L=>?_;subst h;exact wp_ret (zbs J L J)
       refine cn L h (fun h=>?_) fun h=>?_
       ·refine rs ?_;refine sA 3 L fun a s L=>?_;refine zb6 6 L J op op (zk (zk (zk (zbf (z1 _ _ _)) J) J) J) Tq.h J J J ka fun s L=>?_;refine es (rs ?_);refine sA 3 L fun a s L=>?_;refine zb6 6 L J op op (zk (zk (zk (zk (zbf (z1 _ _ _)) J) J) J) J) Tq.h J J J ka fun s L=>?_;refine es ?_;obtain ⟨b30,h31,h⟩:=h;refine ra 15 (p1 h31) L fun a s L=>?_;refine cn L h (fun h=>?_) fun h=>?_
        ·refine rA 1 L fun a s L=>?_;subst h;exact wp_ret (zbs J L J)
        ·refine wp_skip ?_;exact J24 (e2.1,i_-1,0,e2.2.2.2.1,e2.2.2.2.2.1,(0#256),([]:Str)) a s (L.kk) d20 h
       ·refine wp_skip ?_;exact J24 (e2.1,i_-1,0,0,0,(0#256),([]:Str)) a s (L.kk) d20 h
      ·refine wp_seq_k fun K32 H32=>?_;refine rA 2 L fun a s L=>?_;have J34:∀(v33:Bool) (a:Act) (s:St),Has N0 96 s0 a s [(0,(Pd.rep (En.slice En.SNode) l_)),(1,(Pi i_)),(5,(Pd.box En.SNode s0.w.heap.size g4 e2)),(6,(Pd.box En.SNode s0.w.heap.size g5 (e2.1,0,0,0,0,(0#256),([]:Str)))),(73,(Pd.rep En.bool v33))]→Dis (some g4) (some g5)→((zb.j2 (zb.n k_) l_ i_ r_ e2) v33)→K32 a s.w:=by
        intro v33 a s L d35 h;unfold zb.j2 at h;show K32 a s.w;refine H32 _ _ (cn L h (fun h=>?_) fun h=>?_)
        ·obtain ⟨h36,h⟩:=h;refine rs (sA 3 L fun a s L=>?_);refine zb6 6 L J op op (zk (zk (zbf (z1 _ _ _)) J) J) Tq.h J J J ka fun s L=>?_;refine es ?_;obtain ⟨h37,r38,h39,h⟩:=h;refine ra 5 (p1 (ih_ h39)) L fun a s L=>?_;refine wp_seq_k fun K40 H40=>rA 2 L fun a s L=>?_;refine cn L h (fun h=>?_) fun h=>?_
         ·refine rA 1 L fun a s L=>?_;subst h;exact wp_ret (zbs J L J)
         ·refine wp_skip (H40 _ _ ?_);obtain ⟨h41,h⟩:=h;refine rs (sA 3 L fun a s L=>?_);refine zb6 6 L J op op (zk (zbf (z1 _ _ _)) J) Tq.h J J J ka fun s L=>?_;refine es ?_;obtain ⟨h42,r43,h44,h⟩:=h;refine rg (sl 5 (p1 (ih_ h44)) L fun a s L=>?_);refine en' (H7 _ _ ?_);refine wp_seq_k fun K45 H45=>?_;obtain ⟨b46,h47,h⟩:=h;refine rs (sA 2 L fun a s L=>?_);refine sv (h47 ▸ (t_nev eq43 op op J J)) L fun a s L=>?_;refine es (cn L h (fun h=>?_) fun h=>?_)
          ·refine rA 1 L fun a s L=>?_;subst h;exact wp_ret (zbs J L J)
          ·refine wp_skip (H45 _ _ ?_);refine rA 2 L fun a s L=>?_;subst h;exact wp_ret (zbs J L J)
        ·refine rA 1 L fun a s L=>?_;subst h;exact wp_ret (zbs J L J)
       refine cn L h (fun h=>?_) fun h=>?_
       ·refine wp_skip ?_;exact J34 (e2.1==4) a s (L.kk) d20 h
       ·refine rg ?_;refine sA 2 L fun a s L=>?_;refine en' ?_;exact J34 (e2.1==5) a s (L.kk) d20 h
     refine cn L h (fun h=>?_) fun h=>?_
     ·refine wp_skip ?_;exact J19 (e2.1==6) a s (L.kk) (Dis.symm d6) h
     ·refine rA 2 L fun a s L=>?_;refine cn L h (fun h=>?_) fun h=>?_
      ·refine wp_skip ?_;exact J19 (e2.1==7) a s (L.kk) (Dis.symm d6) h
      ·refine rA 2 L fun a s L=>?_;refine cn L h (fun h=>?_) fun h=>?_
       ·refine wp_skip ?_;exact J19 (e2.1==8) a s (L.kk) (Dis.symm d6) h
       ·refine rg ?_;refine sA 2 L fun a s L=>?_;refine en' ?_;exact J19 (e2.1==9) a s (L.kk) (Dis.symm d6) h
theorem ze4 {l_:(List SNode)} {i_:Int} {r_:Int} (h:zb l_ i_ r_):Fn Tryd.prog 20 [(Pd.rep (En.slice En.SNode) l_),(Pi i_)] (Rq (Pi r_)):=by
 obtain ⟨k_,h⟩:=h;exact zb.n_ok k_ h
theorem zfq {d_:SDesc} {r_:Bool} (h:zco d_ r_):Fn Tryd.prog 8 [(Pd.rep En.SDesc d_)] (Rq (Pd.rep En.bool r_)):=by
 unfold zco at h;refine zbb Tryd.func8 J Tryd.ntmps8 (by rfl) (by simp) fun s0 a L=>?_;refine rA 2 L fun a s L=>?_;obtain ⟨h1,r2,h3,h⟩:=h;refine ra 15 (pp (fun hc_=>(ze4 (h3 hc_))) trivial) L fun a s L=>?_;subst h;exact wp_ret (zbs J L J)
def print_text_1.b (n_:SDesc→Int→Int→(Str × Int)→Prop) (level_:Int) (front_:Str) (back_:Str) (cap0_:SDesc) (cap1_:SNode) (r_:(Str × Int)):Prop:=∃r1:(Str × Int),n_ cap0_ cap1_.2.1 level_ r1∧(front_.length+r1.1.length≤9223372036854775807)∧((front_++r1.1).length+back_.length≤9223372036854775807)∧r_=((front_++r1.1)++back_,r1.2)
def print_text_2.b (n_:SDesc→Int→Int→(Str × Int)→Prop) (level_:Int) (between_:Str) (cap0_:SDesc) (cap1_:SNode) (r_:(Str × Int)):Prop:=∃r1:(Str × Int),n_ cap0_ cap1_.2.1 level_ r1∧(InR .i64 (level_+1))∧∃r4:(Str × Int),n_ cap0_ cap1_.2.2.1 (level_+1) r4∧(r1.1.length+between_.length≤9223372036854775807)∧((r1.1++between_).length+r4.1.length≤9223372036854775807)∧r_=((r1.1++between_)++r4.1,(max r1.2 r4.2))
def zbi (front_:Str) (cap0_:(Int × Str × Str × Str × Int→Prop)) (r_:(Str × Int)):Prop:=∃r1:(Str × Int),cap0_ (0,front_,([41]:Str),r1.1,r1.2)∧(InR .i64 (r1.2+1))∧r_=(r1.1,r1.2+1)
def zcj  (r_:(Str × Int)):Prop:=r_=(([40,41]:Str),1)
def zcp (cv_:Int) (r_:Str):Prop:=(0≤cv_)∧(0≤cv_)∧(InR .i64 ((cv_ / 16)+1))∧((0:Int)≤(cv_ / 16)∧(cv_ / 16)≤((cv_ / 16)+1)∧((cv_ / 16)+1)≤(([48,49,50,51,52,53,54,55,56,57,97,98,99,100,101,102]:Str).length:Int))∧(0≤cv_)∧(0≤cv_)∧(InR .i64 ((cv_ % 16)+1))∧((0:Int)≤(cv_ % 16)∧(cv_ % 16)≤((cv_ % 16)+1)∧((cv_ % 16)+1)≤(([48,49,50,51,52,53,54,55,56,57,97,98,99,100,101,102]:Str).length:Int))∧(((([48,49,50,51,52,53,54,55,56,57,97,98,99,100,101,102]:Str).take ((cv_ / 16)+1:Int).toNat).drop (cv_ / 16:Int).toNat).length+((([48,49,50,51,52,53,54,55,56,57,97,98,99,100,101,102]:Str).take ((cv_ % 16)+1:Int).toNat).drop (cv_ % 16:Int).toNat).length≤9223372036854775807)∧r_=((([48,49,50,51,52,53,54,55,56,57,97,98,99,100,101,102]:Str).take ((cv_ / 16)+1:Int).toNat).drop (cv_ / 16:Int).toNat)++((([48,49,50,51,52,53,54,55,56,57,97,98,99,100,101,102]:Str).take ((cv_ % 16)+1:Int).toNat).drop (cv_ % 16:Int).toNat)
def za.j1 (r_:Str) (rows5:(List Str)):Prop:=∃r8:Str,zd6 rows5 ([44]:Str) r8∧(([60]:Str).length+r8.length≤9223372036854775807)∧((([60]:Str)++r8).length+([62]:Str).length≤9223372036854775807)∧r_=(([60]:Str)++r8)++([62]:Str)
def za.j2 (L1_:(List Str)→Int→Prop) (rows12:(List Str)) (last25:Int) (s30:Str):Prop:=(rows12.length+[s30].length≤2147483648)∧(InR .i64 (last25+1))∧L1_ (rows12++[s30]) (last25+1)
def za.j3 (L1_:(List Str)→Int→Prop) (rows12:(List Str)) (c14:Int) (last25:Int):Prop:=∃r27:Str,zcp c14 r27∧((decide (c14<last25))=true→∃r35:Str,zcp last25 r35∧(([45]:Str).length+r35.length≤9223372036854775807)∧(r27.length+(([45]:Str)++r35).length≤9223372036854775807)∧(za.j2 (L1_) rows12 last25) (r27++(([45]:Str)++r35)))∧((decide (c14<last25))=false→(za.j2 (L1_) rows12 last25) r27)
def za.l2 (a_:Cl) (X2:Int→Prop):Nat→Int→Prop
 | 0,_=>False
 | k_0+1,last39=>(InR .i64 (last39+1))∧(((decide (last39+1<256))=true)→InR .i64 (last39+1))∧∃r46:Bool,(((decide (last39+1<256))=true)→zca a_ ((last39+1) % 256) r46)∧((((decide (last39+1<256))&&r46))=true→(InR .i64 (last39+1))∧za.l2 a_ X2 k_0 (last39+1))∧((((decide (last39+1<256))&&r46))=false→X2 last39)
def za.l1 (a_:Cl) (X1:(List Str)→Prop):Nat→(List Str)→Int→Prop
 | 0,_,_=>False
 | k_0+1,rows12,c14=>((decide (c14<256))=true→∃r21:Bool,zca a_ (c14 % 256) r21∧(((!r21))=true→(InR .i64 (c14+1))∧za.l1 a_ X1 k_0 rows12 (c14+1))∧(((!r21))=false→∃k40,za.l2 a_ (za.j3 (za.l1 a_ X1 k_0) rows12 c14) k40 c14))∧((decide (c14<256))=false→X1 rows12)
def za (a_:Cl) (r_:Str):Prop:=∃r2:Int,zp a_ r2∧(((r2==256))=true→r_=([46]:Str))∧(((r2==256))=false→∃k15,za.l1 a_ (za.j1 r_) k15 ([]:(List Str)) 0)
def zci (cap0_:SNode) (r_:(Str × Int)):Prop:=∃r1:Str,za cap0_.2.2.2.2.2.1 r1∧r_=(r1,0)
def zch (cap0_:SNode) (r_:(Str × Int)):Prop:=(([34]:Str).length+cap0_.2.2.2.2.2.2.length≤9223372036854775807)∧((([34]:Str)++cap0_.2.2.2.2.2.2).length+([34]:Str).length≤9223372036854775807)∧r_=((([34]:Str)++cap0_.2.2.2.2.2.2)++([34]:Str),0)
def zcg (cap0_:(Int × Str × Str × Int→Prop)) (r_:(Str × Int)):Prop:=∃r1:(Str × Int),cap0_ (1,([]:Str),r1.1,r1.2)∧r_=(r1.1,r1.2)
def zcf (cap0_:(Int × Str × Str × Int→Prop)) (r_:(Str × Int)):Prop:=∃r1:(Str × Int),cap0_ (0,([124]:Str),r1.1,r1.2)∧r_=(r1.1,r1.2)
def zce (cap0_:(Int × Str × Str × Str × Int→Prop)) (r_:(Str × Int)):Prop:=∃r1:(Str × Int),cap0_ (2,([]:Str),([42]:Str),r1.1,r1.2)∧r_=(r1.1,r1.2)
def zb1 (cap0_:(Int × Str × Str × Str × Int→Prop)) (cap1_:SNode) (r_:(Str × Int)):Prop:=∃r1:Str,zcc cap1_.2.2.2.1 r1∧(([123]:Str).length+r1.length≤9223372036854775807)∧((([123]:Str)++r1).length+([44]:Str).length≤9223372036854775807)∧∃r5:Str,zcc cap1_.2.2.2.2.1 r5∧(((([123]:Str)++r1)++([44]:Str)).length+r5.length≤9223372036854775807)∧((((([123]:Str)++r1)++([44]:Str))++r5).length+([125]:Str).length≤9223372036854775807)∧∃r9:(Str × Int),cap0_ (2,([]:Str),(((([123]:Str)++r1)++([44]:Str))++r5)++([125]:Str),r9.1,r9.2)∧r_=(r9.1,r9.2)
def zb0 (cap0_:(Str × Str × Int→Prop)) (r_:(Str × Int)):Prop:=∃r1:(Str × Int),cap0_ (([98,40]:Str),r1.1,r1.2)∧r_=(r1.1,r1.2)
def zbz (cap0_:(Str × Str × Int→Prop)) (r_:(Str × Int)):Prop:=∃r1:(Str × Int),cap0_ (([119,40]:Str),r1.1,r1.2)∧r_=(r1.1,r1.2)
def zg.j1 (n_:SDesc→Int→Int→(Str × Int)→Prop) (d_:SDesc) (i_:Int) (level_:Int) (r_:(Str × Int)) (e1:SNode) (own5:Int):Prop:=((decide (own5<level_))=true→∃r8:(Str × Int),n_ d_ i_ own5 r8∧(([40]:Str).length+r8.1.length≤9223372036854775807)∧((([40]:Str)++r8.1).length+([41]:Str).length≤9223372036854775807)∧(InR .i64 (r8.2+1))∧r_=((([40]:Str)++r8.1)++([41]:Str),r8.2+1))∧((decide (own5<level_))=false→∃r19:(Str × Int),(zcl (zx (zx (zx (zx (zx (zx (zx (zx (zx ([]:(List (Int × (Str × Int→Prop)))) 1 (fun q_=>zcj (q_.1,q_.2))) 2 (fun q_=>zci e1 (q_.1,q_.2))) 3 (fun q_=>zch e1 (q_.1,q_.2))) 4 (fun q_=>zcg (fun q_=>print_text_2.b (n_) q_.1 q_.2.1 d_ e1 (q_.2.2.1,q_.2.2.2)) (q_.1,q_.2))) 5 (fun q_=>zcf (fun q_=>print_text_2.b (n_) q_.1 q_.2.1 d_ e1 (q_.2.2.1,q_.2.2.2)) (q_.1,q_.2))) 6 (fun q_=>zce (fun q_=>print_text_1.b (n_) q_.1 q_.2.1 q_.2.2.1 d_ e1 (q_.2.2.2.1,q_.2.2.2.2)) (q_.1,q_.2))) 7 (fun q_=>zb1 (fun q_=>print_text_1.b (n_) q_.1 q_.2.1 q_.2.2.1 d_ e1 (q_.2.2.2.1,q_.2.2.2.2)) e1 (q_.1,q_.2))) 8 (fun q_=>zb0 (fun q_=>zbi q_.1 (fun q_=>print_text_1.b (n_) q_.1 q_.2.1 q_.2.2.1 d_ e1 (q_.2.2.2.1,q_.2.2.2.2)) (q_.2.1,q_.2.2)) (q_.1,q_.2))) 9 (fun q_=>zbz (fun q_=>zbi q_.1 (fun q_=>print_text_1.b (n_) q_.1 q_.2.1 q_.2.2.1 d_ e1 (q_.2.2.2.1,q_.2.2.2.2)) (q_.2.1,q_.2.2)) (q_.1,q_.2))) e1.1 (fun _=>False)) (r19.1,r19.2)∧r_=(r19.1,r19.2))
def zg.n:Nat→SDesc→Int→Int→(Str × Int)→Prop
 | 0,_,_,_,_=>False
 | k_+1,d_,i_,level_,r_=>∃e1:SNode,at? d_ i_=some e1∧(((!(zew gfm0 e1.1)))=true→(zg.j1 (zg.n k_) d_ i_ level_ r_ e1) 3)∧(((!(zew gfm0 e1.1)))=false→(zg.j1 (zg.n k_) d_ i_ level_ r_ e1) (lvI (zcl gfm0 e1.1 none)))
def zg (d_:SDesc) (i_:Int) (level_:Int) (r_:(Str × Int)):Prop:=∃k_,zg.n k_ d_ i_ level_ r_
def zbn (d_:SDesc) (r_:Str):Prop:=(InR .i64 ((d_.length:Int)-1))∧∃r2:(Str × Int),zg d_ ((d_.length:Int)-1) 0 r2∧r_=r2.1
def zbe (d_:SDesc) (r_:Int):Prop:=(InR .i64 ((d_.length:Int)-1))∧∃r2:(Str × Int),zg d_ ((d_.length:Int)-1) 0 r2∧r_=r2.2
def zb7  (r_:Bool):Prop:=∃r1:Cl,zu 0 255 r1∧∃r4:SDesc,zdc 5 [(2,0,0,0,0,r1,([]:Str))] [(2,0,0,0,0,r1,([]:Str))] r4∧∃r8:SDesc,zcn 6 0 0 r4 r8∧∃r13:SDesc,zcn 8 0 0 r8 r13∧∃r18:Str,zbn r8 r18∧∃r20:Int,((((r18==([40,46,124,46,41,42]:Str)))=true)→zbe r8 r20)∧∃b22:Bool,b22=((r18==([40,46,124,46,41,42]:Str))&&(r20==1))∧∃r24:Str,(((b22)=true)→zbn r13 r24)∧∃b26:Bool,b26=(r24==([98,40,40,46,124,46,41,42,41]:Str))∧∃r28:Int,((((b22&&b26))=true)→zbe r13 r28)∧∃r30:Cl,(((((b22&&b26)&&(r28==2)))=true)→zu 97 98 r30)∧∃r32:Str,(((((b22&&b26)&&(r28==2)))=true)→za r30 r32)∧∃b34:Bool,b34=(((b22&&b26)&&(r28==2))&&(r32==([60,54,49,45,54,50,62]:Str)))∧∃r36:Str,(((b34)=true)→za (0#256) r36)∧∃r38:Str,((((b34&&(r36==([60,62]:Str))))=true)→za (Cl.ofWords 5 0 0 0) r38)∧∃b40:Bool,b40=((b34&&(r36==([60,62]:Str)))&&(r38==([60,48,48,44,48,50,62]:Str)))∧∃r42:Int,(((b40)=true)→zbe [(2,0,0,0,0,r1,([]:Str))] r42)∧r_=(b40&&(r42==0))
def zcs (kv_:Int) (r_:Int):Prop:=(((kv_==5))=true→r_=0)∧(((kv_==5))=false→(((kv_==4))=true→r_=1)∧(((kv_==4))=false→(((kv_==6))=true→(((kv_==6))=true→r_=2)∧(((kv_==6))=false→r_=3))∧(((kv_==6))=false→(((kv_==7))=true→r_=2)∧(((kv_==7))=false→r_=3))))
def zc5 (cv_:Int) (r_:Str):Prop:=(0≤cv_)∧∃c2:Int,zcz ([48,49,50,51,52,53,54,55,56,57,97,98,99,100,101,102]:Str) (cv_ / 16)=some c2∧(0≤cv_)∧∃c5:Int,zcz ([48,49,50,51,52,53,54,55,56,57,97,98,99,100,101,102]:Str) (cv_ % 16)=some c5∧r_=(strB [c2,c5])
def zd.j1 (r_:Str) (s5:Str):Prop:=(s5.length+([62]:Str).length≤9223372036854775807)∧r_=s5++([62]:Str)
def zd.j2 (L1_:Str→Int→Prop) (c9:Int) (r20:Bool) (r23:Bool) (s29:Str):Prop:=∃b31:Bool,b31=(((c9==255)||(!r23))&&(!((c9==0)||(!r20))))∧((b31)=true→(s29.length+([45]:Str).length≤9223372036854775807)∧∃r34:Str,zc5 c9 r34∧((s29++([45]:Str)).length+r34.length≤9223372036854775807)∧(InR .i64 (c9+1))∧L1_ ((s29++([45]:Str))++r34) (c9+1))∧((b31)=false→(InR .i64 (c9+1))∧L1_ s29 (c9+1))
def zd.j3 (L1_:Str→Int→Prop) (c9:Int) (r20:Bool) (r23:Bool) (s26:Str):Prop:=((((c9==0)||(!r20)))=true→∃r39:Str,zc5 c9 r39∧(s26.length+r39.length≤9223372036854775807)∧(zd.j2 (L1_) c9 r20 r23) (s26++r39))∧((((c9==0)||(!r20)))=false→(zd.j2 (L1_) c9 r20 r23) s26)
def zd.l1 (a_:Cl) (X1:Str→Prop):Nat→Str→Int→Prop
 | 0,_,_=>False
 | k_0+1,s8,c9=>((decide (c9<256))=true→∃r16:Bool,zw a_ (c9 % 256) r16∧(((!r16))=true→(InR .i64 (c9+1))∧zd.l1 a_ X1 k_0 s8 (c9+1))∧(((!r16))=false→((((c9==0))=false)→InR .i64 (c9-1))∧∃r20:Bool,((((c9==0))=false)→zw a_ ((c9-1) % 256) r20)∧((((c9==255))=false)→InR .i64 (c9+1))∧∃r23:Bool,((((c9==255))=false)→zw a_ ((c9+1) % 256) r23)∧(((((c9==0)||(!r20))&&(s8 != ([60]:Str))))=true→(s8.length+([44]:Str).length≤9223372036854775807)∧(zd.j3 (zd.l1 a_ X1 k_0) c9 r20 r23) (s8++([44]:Str)))∧(((((c9==0)||(!r20))&&(s8 != ([60]:Str))))=false→(zd.j3 (zd.l1 a_ X1 k_0) c9 r20 r23) s8)))∧((decide (c9<256))=false→X1 s8)
def zd (a_:Cl) (r_:Str):Prop:=∃r2:Cl,zu 0 255 r2∧(((a_==r2))=true→r_=([46]:Str))∧(((a_==r2))=false→∃k10,zd.l1 a_ (zd.j1 r_) k10 ([60]:Str) 0)
def zbd.n:Nat→Int→Str→Prop
 | 0,_,_=>False
 | k_+1,nv_,r_=>((decide (nv_<10))=true→(InR .i64 (48+nv_))∧r_=(strB [(48+nv_) % 256]))∧((decide (nv_<10))=false→(0≤nv_)∧∃r4:Str,zbd.n k_ (nv_ / 10) r4∧(0≤nv_)∧(InR .i64 (48+(nv_ % 10)))∧(r4.length+(strB [(48+(nv_ % 10)) % 256]).length≤9223372036854775807)∧r_=r4++(strB [(48+(nv_ % 10)) % 256]))
def zbd (nv_:Int) (r_:Str):Prop:=∃k_,zbd.n k_ nv_ r_
def zt.n:Nat→SDesc→Int→Int→Str→Prop
 | 0,_,_,_,_=>False
 | k_+1,d_,i_,asked_,r_=>∃e1:SNode,at? d_ i_=some e1∧∃r5:Int,zcs e1.1 r5∧((decide (r5<asked_))=true→∃r7:Str,zt.n k_ d_ i_ 0 r7∧(([40]:Str).length+r7.length≤9223372036854775807)∧((([40]:Str)++r7).length+([41]:Str).length≤9223372036854775807)∧r_=(([40]:Str)++r7)++([41]:Str))∧((decide (r5<asked_))=false→(((e1.1==1))=true→r_=([40,41]:Str))∧(((e1.1==1))=false→(((e1.1==2))=true→∃r12:Str,zd e1.2.2.2.2.2.1 r12∧r_=r12)∧(((e1.1==2))=false→(((e1.1==3))=true→(([34]:Str).length+e1.2.2.2.2.2.2.length≤9223372036854775807)∧((([34]:Str)++e1.2.2.2.2.2.2).length+([34]:Str).length≤9223372036854775807)∧r_=(([34]:Str)++e1.2.2.2.2.2.2)++([34]:Str))∧(((e1.1==3))=false→(((e1.1==4))=true→∃r16:Str,zt.n k_ d_ e1.2.1 1 r16∧∃r18:Str,zt.n k_ d_ e1.2.2.1 2 r18∧(r16.length+r18.length≤9223372036854775807)∧r_=r16++r18)∧(((e1.1==4))=false→(((e1.1==5))=true→∃r21:Str,zt.n k_ d_ e1.2.1 0 r21∧(r21.length+([124]:Str).length≤9223372036854775807)∧∃r24:Str,zt.n k_ d_ e1.2.2.1 1 r24∧((r21++([124]:Str)).length+r24.length≤9223372036854775807)∧r_=(r21++([124]:Str))++r24)∧(((e1.1==5))=false→(((e1.1==6))=true→∃r27:Str,zt.n k_ d_ e1.2.1 2 r27∧(r27.length+([42]:Str).length≤9223372036854775807)∧r_=r27++([42]:Str))∧(((e1.1==6))=false→(((e1.1==7))=true→∃r30:Str,zt.n k_ d_ e1.2.1 2 r30∧(r30.length+([123]:Str).length≤9223372036854775807)∧∃r33:Str,zbd e1.2.2.2.1 r33∧((r30++([123]:Str)).length+r33.length≤9223372036854775807)∧(((r30++([123]:Str))++r33).length+([44]:Str).length≤9223372036854775807)∧∃r37:Str,zbd e1.2.2.2.2.1 r37∧((((r30++([123]:Str))++r33)++([44]:Str)).length+r37.length≤9223372036854775807)∧(((((r30++([123]:Str))++r33)++([44]:Str))++r37).length+([125]:Str).length≤9223372036854775807)∧r_=((((r30++([123]:Str))++r33)++([44]:Str))++r37)++([125]:Str))∧(((e1.1==7))=false→(((e1.1==8))=true→∃r41:Str,zt.n k_ d_ e1.2.1 0 r41∧(([98,40]:Str).length+r41.length≤9223372036854775807)∧((([98,40]:Str)++r41).length+([41]:Str).length≤9223372036854775807)∧r_=(([98,40]:Str)++r41)++([41]:Str))∧(((e1.1==8))=false→∃r45:Str,zt.n k_ d_ e1.2.1 0 r45∧(([119,40]:Str).length+r45.length≤9223372036854775807)∧((([119,40]:Str)++r45).length+([41]:Str).length≤9223372036854775807)∧r_=(([119,40]:Str)++r45)++([41]:Str))))))))))
def zt (d_:SDesc) (i_:Int) (asked_:Int) (r_:Str):Prop:=∃k_,zt.n k_ d_ i_ asked_ r_
def zb4 (d_:SDesc) (r_:Str):Prop:=(InR .i64 ((d_.length:Int)-1))∧∃r2:Str,zt d_ ((d_.length:Int)-1) 0 r2∧r_=r2
def zf.j1 (r_:Int) (deep4:Int):Prop:=r_=deep4
def zf.j2 (L1_:Int→Int→Bool→Int→Prop) (r1:Str) (deep6:Int) (i9:Int) (quoted18:Bool) (open23:Int):Prop:=∃c26:Int,zcz r1 i9=some c26∧((((c26==41)&&(!quoted18)))=true→(InR .i64 (open23-1))∧(InR .i64 (i9+1))∧L1_ (max deep6 (open23-1)) (open23-1) quoted18 (i9+1))∧((((c26==41)&&(!quoted18)))=false→(InR .i64 (i9+1))∧L1_ (max deep6 open23) open23 quoted18 (i9+1))
def zf.j3 (L1_:Int→Int→Bool→Int→Prop) (r1:Str) (deep6:Int) (open7:Int) (i9:Int) (quoted18:Bool):Prop:=∃c21:Int,zcz r1 i9=some c21∧((((c21==40)&&(!quoted18)))=true→(InR .i64 (open7+1))∧(zf.j2 (L1_) r1 deep6 i9 quoted18) (open7+1))∧((((c21==40)&&(!quoted18)))=false→(zf.j2 (L1_) r1 deep6 i9 quoted18) open7)
def zf.l1 (r1:Str) (X1:Int→Prop):Nat→Int→Int→Bool→Int→Prop
 | 0,_,_,_,_=>False
 | k_0+1,deep6,open7,quoted8,i9=>((decide (i9<(r1.length:Int)))=true→∃c16:Int,zcz r1 i9=some c16∧(((c16==34))=true→(zf.j3 (zf.l1 r1 X1 k_0) r1 deep6 open7 i9) (!quoted8))∧(((c16==34))=false→(zf.j3 (zf.l1 r1 X1 k_0) r1 deep6 open7 i9) quoted8))∧((decide (i9<(r1.length:Int)))=false→X1 deep6)
def zf (d_:SDesc) (r_:Int):Prop:=∃r1:Str,zb4 d_ r1∧∃k10,zf.l1 r1 (zf.j1 r_) k10 0 0 false 0
def zbx (d_:SDesc) (a_:Cl) (r_:Bool):Prop:=∃r2:Bool,zb7  r2∧∃r4:Bool,((((!r2))=false)→zz d_ r4)∧∃r6:Bool,(((((!r2)||(!r4)))=false)→zco d_ r6)∧(((((!r2)||(!r4))||(!r6)))=true→∃r8:Bool,zb7  r8∧r_=r8)∧(((((!r2)||(!r4))||(!r6)))=false→∃r10:Str,zbn d_ r10∧∃r12:Str,zb4 d_ r12∧∃r14:Int,((((r10==r12))=true)→zbe d_ r14)∧∃r16:Int,((((r10==r12))=true)→zf d_ r16)∧∃r18:Str,(((((r10==r12)&&(r14==r16)))=true)→za a_ r18)∧∃r20:Str,(((((r10==r12)&&(r14==r16)))=true)→zd a_ r20)∧r_=(((r10==r12)&&(r14==r16))&&(r18==r20)))
set_option maxRecDepth 100000
set_option maxHeartbeats 2000000
set_option synthInstance.maxSize 100000
set_option synthInstance.maxHeartbeats 200000
theorem print_text_1.b_ok {n_:SDesc→Int→Int→(Str × Int)→Prop} (ih_:∀{y0_:SDesc} {y1_:Int} {y2_:Int} {r_:(Str × Int)} (h:n_ y0_ y1_ y2_ r_),Fn Tryd.prog 21 [Pd.rep En.SDesc y0_,Pd.rep (En.int .i64) y1_,Pd.rep (En.int .i64) y2_] (Rq2 (Pd.rep En.str r_.1) (Pi r_.2))) {level_:Int} {front_:Str} {back_:Str} {cap0_:SDesc} {cap1_:SNode} {r_:(Str × Int)} (h:print_text_1.b n_ level_ front_ back_ cap0_ cap1_ r_):Fn Tryd.prog 32 [(Pi level_),(Pd.rep En.str front_),(Pd.rep En.str back_),(Pd.ptr En.SDesc cap0_),(Pd.ptr En.SNode cap1_)] (Rq2 (Pd.rep En.str r_.1) (Pi r_.2)):=by
 unfold print_text_1.b at h;refine zbb Tryd.func32 J Tryd.ntmps32 (by rfl) (by simp) fun s0 a L=>?_;refine rs (sv (zo (o_s (by decide)) J J) L fun a s L=>?_);refine sA 1 L fun a s L=>?_;refine es ?_;obtain ⟨r1,h2,h⟩:=h;refine ra 10 (p1 ((ih_ h2).tup)) L fun a s L=>?_;obtain ⟨h3,h4,h⟩:=h;refine rA 8 L fun a s L=>?_;subst h;exact wp_ret (ret2 J L J J)
theorem print_text_2.b_ok {n_:SDesc→Int→Int→(Str × Int)→Prop} (ih_:∀{y0_:SDesc} {y1_:Int} {y2_:Int} {r_:(Str × Int)} (h:n_ y0_ y1_ y2_ r_),Fn Tryd.prog 21 [Pd.rep En.SDesc y0_,Pd.rep (En.int .i64) y1_,Pd.rep (En.int .i64) y2_] (Rq2 (Pd.rep En.str r_.1) (Pi r_.2))) {level_:Int} {between_:Str} {cap0_:SDesc} {cap1_:SNode} {r_:(Str × Int)} (h:print_text_2.b n_ level_ between_ cap0_ cap1_ r_):Fn Tryd.prog 33 [(Pi level_),(Pd.rep En.str between_),(Pd.ptr En.SDesc cap0_),(Pd.ptr En.SNode cap1_)] (Rq2 (Pd.rep En.str r_.1) (Pi r_.2)):=by
 unfold print_text_2.b at h;refine zbb Tryd.func33 J Tryd.ntmps33 (by rfl) (by simp) fun s0 a L=>?_;refine rs (sv (zo (o_s (by decide)) J J) L fun a s L=>?_);refine sA 1 L fun a s L=>?_;refine es ?_;obtain ⟨r1,h2,h⟩:=h;refine ra 10 (p1 ((ih_ h2).tup)) L fun a s L=>?_;obtain ⟨h3,r4,h5,h⟩:=h;refine ra 11 (p1 ((ih_ h5).tup)) L fun a s L=>?_;obtain ⟨h6,h7,h⟩:=h;refine rA 10 L fun a s L=>?_;subst h;exact wp_ret (ret2 J L J J)
theorem zet {front_:Str} {cap0_:(Int × Str × Str × Str × Int→Prop)} {r_:(Str × Int)} (h:zbi front_ cap0_ r_):Fn Tryd.prog 34 [(Pd.rep En.str front_),(Pd.ptr EnF63 cap0_)] (Rq2 (Pd.rep En.str r_.1) (Pi r_.2)):=by
 unfold zbi at h;refine zbb Tryd.func34 J Tryd.ntmps34 (by rfl) (by simp) fun s0 a L=>?_;refine rs (sv (zo (o_s (by decide)) J J) L fun a s L=>?_);refine sA 1 L fun a s L=>?_;refine es ?_;obtain ⟨r1,h2,h⟩:=h;refine rs (sA 2 L fun a s L=>?_);refine sv (zc1 (q:=(0,front_,([41]:Str),r1.1,r1.2)) op h2 (xs:=[.const (.int .i64 0),.tmp 9,.const (.string ⟨#[41]⟩)]) (.cons op (.cons op (.cons (o_s (by decide)) .nil))) (fun _ _ _ h_=>zd4 h_) J J) L fun a s L=>?_;refine sA 5 L fun a s L=>?_;refine es ?_;obtain ⟨h3,h⟩:=h;refine rA 5 L fun a s L=>?_;subst h;exact wp_ret (ret2 J L J J)
theorem zes  {r_:(Str × Int)} (h:zcj  r_):Fn Tryd.prog 35 [] (Rq2 (Pd.rep En.str r_.1) (Pi r_.2)):=by
 unfold zcj at h;refine zbb Tryd.func35 J Tryd.ntmps35 (by rfl) (by simp) fun s0 a L=>?_;refine rs (sv (zo (o_s (by decide)) J J) L fun a s L=>?_);refine sA 1 L fun a s L=>?_;refine es (rs ?_);refine sv (zo (o_s (by decide)) J J) L fun a s L=>?_;refine sA 1 L fun a s L=>?_;refine es ?_;subst h;exact wp_ret (ret2 J L J J)
theorem zeb {cv_:Int} {r_:Str} (h:zcp cv_ r_):Fn Tryd.prog 25 [(Pi cv_)] (Rq (Pd.rep En.str r_)):=by
 unfold zcp at h;refine zbb Tryd.func25 J Tryd.ntmps25 (by rfl) (by simp) fun s0 a L=>?_;refine rs (sv (zo (o_s (by decide)) J J) L fun a s L=>?_);refine es ?_;obtain ⟨h1,h2,h3,h4,h5,h6,h7,h8,h9,h⟩:=h;refine wp_seq (rda zc9 13 [(Pi cv_),(Pi (cv_ / 16)),(Pi cv_),(Pi (cv_ / 16)),(Pi ((cv_ / 16)+1)),(Pd.rep En.str ((([48,49,50,51,52,53,54,55,56,57,97,98,99,100,101,102]:Str).take ((cv_ / 16)+1:Int).toNat).drop (cv_ / 16:Int).toNat)),(Pi cv_),(Pi (cv_ % 16)),(Pi cv_),(Pi (cv_ % 16)),(Pi ((cv_ % 16)+1)),(Pd.rep En.str ((([48,49,50,51,52,53,54,55,56,57,97,98,99,100,101,102]:Str).take ((cv_ % 16)+1:Int).toNat).drop (cv_ % 16:Int).toNat)),(Pd.rep En.str (((([48,49,50,51,52,53,54,55,56,57,97,98,99,100,101,102]:Str).take ((cv_ / 16)+1:Int).toNat).drop (cv_ / 16:Int).toNat)++((([48,49,50,51,52,53,54,55,56,57,97,98,99,100,101,102]:Str).take ((cv_ % 16)+1:Int).toNat).drop (cv_ % 16:Int).toNat)))] L (by kernel_rfl) J J ?_ ?_)
 ·refine z6.cons (zdq (O 0 J) J J) ?_;refine z6.cons (t_quo (O 3 J) oI h1 (by decide) J J) ?_;refine z6.cons (zdq (O 0 J) J J) ?_;refine z6.cons (t_quo (O 5 J) oI h2 (by decide) J J) ?_;refine z6.cons (t_add (O 6 J) oI h3 J J) ?_;refine z6.cons (t_spart (o_s (by decide)) (O 4 J) (O 7 J) h4 Tryd.underlying9 J J) ?_;refine z6.cons (zdq (O 0 J) J J) ?_;refine z6.cons (t_rem (O 9 J) oI h5 (by decide) J J) ?_;refine z6.cons (zdq (O 0 J) J J) ?_;refine z6.cons (t_rem (O 11 J) oI h6 (by decide) J J) ?_;refine z6.cons (t_add (O 12 J) oI h7 J J) ?_;refine z6.cons (t_spart (o_s (by decide)) (O 10 J) (O 13 J) h8 Tryd.underlying9 J J) ?_;refine z6.cons (zl (O 8 J) (O 14 J) h9 J J) ?_;exact z6.nil
 intro a s _ L;replace L:=L.kk (L':=[(2,(Pd.rep En.str ([]:Str))),(15,(Pd.rep En.str (((([48,49,50,51,52,53,54,55,56,57,97,98,99,100,101,102]:Str).take ((cv_ / 16)+1:Int).toNat).drop (cv_ / 16:Int).toNat)++((([48,49,50,51,52,53,54,55,56,57,97,98,99,100,101,102]:Str).take ((cv_ % 16)+1:Int).toNat).drop (cv_ % 16:Int).toNat))))]);refine dp ?_;refine sA 1 L fun a s L=>?_;refine es ?_;subst h;exact wp_ret (zbs J L J)
theorem zbk {a_:Cl} {r_:Str} (h:za a_ r_):Fn Tryd.prog 13 [(Pd.rep En.cls a_)] (Rq (Pd.rep En.str r_)):=by
 unfold za at h;refine zbb Tryd.func13 J Tryd.ntmps13 (by rfl) (by simp) fun s0 a L=>?_;refine rs (sA 1 L fun a s L=>?_);refine sv (zo (o_s (by decide)) J J) L fun a s L=>?_;refine es (wp_seq_k fun K1 H1=>?_);obtain ⟨r2,h3,h⟩:=h;refine ra 3 (p1 (ze5 h3)) L fun a s L=>?_;refine cn L h (fun h=>?_) fun h=>?_
 ·refine rs ?_;refine sv (zo (o_s (by decide)) J J) L fun a s L=>?_;refine es ?_;subst h;exact wp_ret (zbs J L J)
 ·refine wp_skip (H1 _ _ ?_);refine rs (sno En.str 9 L fun a s L=>?_);refine es (wp_seq_k fun K4 H4=>?_);refine rA 1 L fun a s L=>?_;refine wp_block ?_;have J7:∀(rows5:(List Str)) (og6:Option Nat) (a:Act) (s:St),Has N0 51 s0 a s [(3,(Pd.row En.str s0.w.heap.size 9 og6 rows5))]→((za.j1 r_) rows5)→K4 a s.w:=by
   intro rows5 og6 a s L h;unfold za.j1 at h;show K4 a s.w;refine H4 _ _ (fzc 3 L fun s L=>?_);obtain ⟨r8,h9,h10,h11,h⟩:=h;refine rs (sA 1 L fun a s L=>?_);refine sv (zc2 (zek h9) (xs:=[.tmp 47,.const (.string ⟨#[44]⟩)]) (.cons op (.cons (o_s (by decide)) .nil)) J J) L fun a s L=>?_;refine sv (zl (o_s (by decide)) op h10 J J) L fun a s L=>?_;refine sv (zl op (o_s (by decide)) h11 J J) L fun a s L=>?_;refine sA 1 L fun a s L=>?_;refine es ?_;subst h;exact wp_ret (zbs J L J)
  obtain ⟨k15,h⟩:=h;refine lpn (fun k16 a s=>∃(rows12:(List Str)) (c14:Int) (og13:Option Nat),Has N0 51 s0 a s [(1,(Pd.ptr En.cls a_)),(3,(Pd.row En.str s0.w.heap.size 9 og13 rows12)),(4,(Pi c14))]∧za.l1 a_ (za.j1 r_) k16 rows12 c14) k15 ⟨([]:(List Str)),0,none,L.kk,h⟩ ?_;rintro k16 a s ⟨rows12,c14,og13,L,h⟩ KL17 hKL17;unfold za.l1 at h;refine wp_seq_k fun K18 H18=>rA 2 L fun a s L=>?_;refine cn L h (fun h=>?_) fun h=>?_
  ·refine wp_skip (H18 _ _ ?_);refine wp_seq_k fun K19 H19=>wp_block (wp_seq_k fun K20 H20=>?_);obtain ⟨r21,h22,h⟩:=h;refine ra 5 (p1 (zda h22)) L fun a s L=>?_;refine cn L h (fun h=>?_) fun h=>?_
   ·refine wp_exit ?_;show K19 a s.w;refine H19 _ _ ?_;obtain ⟨h23,h⟩:=h;refine rg (sA 3 L fun a s L=>?_);refine en' ?_;exact hKL17 a s ⟨rows12,(c14+1),og13,L.kk,h⟩
   ·refine wp_skip (H20 _ _ ?_);refine rA 2 L fun a s L=>?_;refine wp_seq_k fun K24 H24=>wp_block ?_;have J26:∀(last25:Int) (a:Act) (s:St),Has N0 51 s0 a s [(1,(Pd.ptr En.cls a_)),(3,(Pd.row En.str s0.w.heap.size 9 og13 rows12)),(4,(Pi c14)),(5,(Pi last25))]→((za.j3 (za.l1 a_ (za.j1 r_) k16) rows12 c14) last25)→K24 a s.w:=by
     intro last25 a s L h;unfold za.j3 at h;show K24 a s.w;refine H24 _ _ ?_;obtain ⟨r27,h28,h⟩:=h;refine ra 3 (p1 (zeb h28)) L fun a s L=>?_;refine wp_seq_k fun K29 H29=>rA 3 L fun a s L=>?_;have J31:∀(s30:Str) (a:Act) (s:St),Has N0 51 s0 a s [(1,(Pd.ptr En.cls a_)),(3,(Pd.row En.str s0.w.heap.size 9 og13 rows12)),(5,(Pi last25)),(6,(Pd.rep En.str s30))]→((za.j2 (za.l1 a_ (za.j1 r_) k16) rows12 last25) s30)→K29 a s.w:=by
      intro s30 a s L h;unfold za.j2 at h;show K29 a s.w;refine H29 _ _ ?_;obtain ⟨h32,h⟩:=h;refine rs (sA 3 L fun a s L=>?_);refine st_app 45 L op op Ud.h Tq.h h32 J J J J ka fun a s og33 hg_ L=>?_;refine sA 1 L fun a s L=>?_;refine es (rg ?_);refine sA 2 L fun a s L=>?_;refine en' (H19 _ _ ?_);obtain ⟨h34,h⟩:=h;refine rg (sA 3 L fun a s L=>?_);refine en' ?_;exact hKL17 a s ⟨(rows12++[s30]),(last25+1),og33,L.kk,h⟩
     refine cn L h (fun h=>?_) fun h=>?_
     ·obtain ⟨r35,h36,h37,h38,h⟩:=h;refine rg (sl 3 (p1 (zeb h36)) L fun a s L=>?_);refine sv (zl (o_s (by decide)) op h37 J J) L fun a s L=>?_;refine sA 2 L fun a s L=>?_;refine en' ?_;exact J31 (r27++(([45]:Str)++r35)) a s (L.kk) h
     ·refine wp_skip ?_;exact J31 r27 a s (L.kk) h
    obtain ⟨k40,h⟩:=h;refine lpn (fun k41 a s=>∃(last39:Int),Has N0 51 s0 a s [(1,(Pd.ptr En.cls a_)),(3,(Pd.row En.str s0.w.heap.size 9 og13 rows12)),(4,(Pi c14)),(5,(Pi last39))]∧za.l2 a_ (za.j3 (za.l1 a_ (za.j1 r_) k16) rows12 c14) k41 last39) k40 ⟨c14,L.kk,h⟩ ?_;rintro k41 a s ⟨last39,L,h⟩ KL42 hKL42;unfold za.l2 at h;refine wp_seq_k fun K43 H43=>?_;obtain ⟨h44,h45,r46,h47,h⟩:=h;refine ra 10 (pp (fun hc_=>(zda (h47 hc_))) trivial) L fun a s L=>?_;refine cn L h (fun h=>?_) fun h=>?_
    ·refine wp_skip (H43 _ _ ?_);refine wp_block ?_;obtain ⟨h48,h⟩:=h;refine rg (sA 3 L fun a s L=>?_);refine en' ?_;exact hKL42 a s ⟨(last39+1),L.kk,h⟩
    ·refine wp_exit ?_;exact J26 last39 a s (L.kk) h
  ·refine wp_exit ?_;exact J7 rows12 og13 a s (L.kk) h
theorem zer {cap0_:SNode} {r_:(Str × Int)} (h:zci cap0_ r_):Fn Tryd.prog 36 [(Pd.ptr En.SNode cap0_)] (Rq2 (Pd.rep En.str r_.1) (Pi r_.2)):=by
 unfold zci at h;refine zbb Tryd.func36 J Tryd.ntmps36 (by rfl) (by simp) fun s0 a L=>?_;refine rs (sv (zo (o_s (by decide)) J J) L fun a s L=>?_);refine sA 1 L fun a s L=>?_;refine es ?_;obtain ⟨r1,h2,h⟩:=h;refine ra 5 (p1 (zbk h2)) L fun a s L=>?_;subst h;exact wp_ret (ret2 J L J J)
theorem zeq {cap0_:SNode} {r_:(Str × Int)} (h:zch cap0_ r_):Fn Tryd.prog 37 [(Pd.ptr En.SNode cap0_)] (Rq2 (Pd.rep En.str r_.1) (Pi r_.2)):=by
 unfold zch at h;refine zbb Tryd.func37 J Tryd.ntmps37 (by rfl) (by simp) fun s0 a L=>?_;refine rs (sv (zo (o_s (by decide)) J J) L fun a s L=>?_);refine sA 1 L fun a s L=>?_;refine es ?_;obtain ⟨h1,h2,h⟩:=h;refine rs (sA 2 L fun a s L=>?_);refine sv (zl (o_s (by decide)) op h1 J J) L fun a s L=>?_;refine sv (zl op (o_s (by decide)) h2 J J) L fun a s L=>?_;refine sA 2 L fun a s L=>?_;refine es ?_;subst h;exact wp_ret (ret2 J L J J)
theorem zep {cap0_:(Int × Str × Str × Int→Prop)} {r_:(Str × Int)} (h:zcg cap0_ r_):Fn Tryd.prog 38 [(Pd.ptr EnF64 cap0_)] (Rq2 (Pd.rep En.str r_.1) (Pi r_.2)):=by
 unfold zcg at h;refine zbb Tryd.func38 J Tryd.ntmps38 (by rfl) (by simp) fun s0 a L=>?_;refine rs (sv (zo (o_s (by decide)) J J) L fun a s L=>?_);refine sA 1 L fun a s L=>?_;refine es ?_;obtain ⟨r1,h2,h⟩:=h;refine rs (sA 1 L fun a s L=>?_);refine sv (zc1 (q:=(1,([]:Str),r1.1,r1.2)) op h2 (xs:=[.const (.int .i64 1),.const (.string ⟨#[]⟩)]) (.cons op (.cons (o_s (by decide)) .nil)) (fun _ _ _ h_=>zd4 h_) J J) L fun a s L=>?_;refine sA 4 L fun a s L=>?_;refine es ?_;subst h;exact wp_ret (ret2 J L J J)
theorem zeo {cap0_:(Int × Str × Str × Int→Prop)} {r_:(Str × Int)} (h:zcf cap0_ r_):Fn Tryd.prog 39 [(Pd.ptr EnF64 cap0_)] (Rq2 (Pd.rep En.str r_.1) (Pi r_.2)):=by
 unfold zcf at h;refine zbb Tryd.func39 J Tryd.ntmps39 (by rfl) (by simp) fun s0 a L=>?_;refine rs (sv (zo (o_s (by decide)) J J) L fun a s L=>?_);refine sA 1 L fun a s L=>?_;refine es ?_;obtain ⟨r1,h2,h⟩:=h;refine rs (sA 1 L fun a s L=>?_);refine sv (zc1 (q:=(0,([124]:Str),r1.1,r1.2)) op h2 (xs:=[.const (.int .i64 0),.const (.string ⟨#[124]⟩)]) (.cons op (.cons (o_s (by decide)) .nil)) (fun _ _ _ h_=>zd4 h_) J J) L fun a s L=>?_;refine sA 4 L fun a s L=>?_;refine es ?_;subst h;exact wp_ret (ret2 J L J J)
theorem zen {cap0_:(Int × Str × Str × Str × Int→Prop)} {r_:(Str × Int)} (h:zce cap0_ r_):Fn Tryd.prog 40 [(Pd.ptr EnF63 cap0_)] (Rq2 (Pd.rep En.str r_.1) (Pi r_.2)):=by
 unfold zce at h;refine zbb Tryd.func40 J Tryd.ntmps40 (by rfl) (by simp) fun s0 a L=>?_;refine rs (sv (zo (o_s (by decide)) J J) L fun a s L=>?_);refine sA 1 L fun a s L=>?_;refine es ?_;obtain ⟨r1,h2,h⟩:=h;refine rs (sA 1 L fun a s L=>?_);refine sv (zc1 (q:=(2,([]:Str),([42]:Str),r1.1,r1.2)) op h2 (xs:=[.const (.int .i64 2),.const (.string ⟨#[]⟩),.const (.string ⟨#[42]⟩)]) (.cons op (.cons (o_s (by decide)) (.cons (o_s (by decide)) .nil))) (fun _ _ _ h_=>zd4 h_) J J) L fun a s L=>?_;refine sA 4 L fun a s L=>?_;refine es ?_;subst h;exact wp_ret (ret2 J L J J)
theorem zeg {cap0_:(Int × Str × Str × Str × Int→Prop)} {cap1_:SNode} {r_:(Str × Int)} (h:zb1 cap0_ cap1_ r_):Fn Tryd.prog 41 [(Pd.ptr EnF63 cap0_),(Pd.ptr En.SNode cap1_)] (Rq2 (Pd.rep En.str r_.1) (Pi r_.2)):=by
 unfold zb1 at h;refine zbb Tryd.func41 J Tryd.ntmps41 (by rfl) (by simp) fun s0 a L=>?_;refine rs (sv (zo (o_s (by decide)) J J) L fun a s L=>?_);refine sA 1 L fun a s L=>?_;refine es ?_;obtain ⟨r1,h2,h3,h4,r5,h6,h7,h8,r9,h10,h⟩:=h;refine wp_seq (rda zc9 14 [(Pd.rep EnF63 cap0_),(Pd.ptr (En.int .i64) cap1_.2.2.2.1),(Pi cap1_.2.2.2.1),(Pd.rep En.str r1),(Pd.rep En.str (([123]:Str)++r1)),(Pd.rep En.str ((([123]:Str)++r1)++([44]:Str))),(Pd.ptr (En.int .i64) cap1_.2.2.2.2.1),(Pi cap1_.2.2.2.2.1),(Pd.rep En.str r5),(Pd.rep En.str (((([123]:Str)++r1)++([44]:Str))++r5)),(Pd.rep En.str ((((([123]:Str)++r1)++([44]:Str))++r5)++([125]:Str))),(Pd.tup2 (Pd.rep En.str r9.1) (Pi r9.2)),(Pd.rep En.str r9.1),(Pi r9.2)] L (by kernel_rfl) J J ?_ ?_)
 ·refine z6.cons (zcb ty63 (O 0 J) J J) ?_;refine z6.cons (t_fa (off:=3) (O 1 J) Tryd.underlying43 J (zn (zn (zn (zbu (zba _ _)) J) J) J) J ty3 J J) ?_;refine z6.cons (zcb ty3 (O 5 J) J J) ?_;refine z6.cons (zc2 (zc3 h2) (xs:=[.tmp 6]) (.cons (O 6 J) .nil) J J) ?_;refine z6.cons (zl (o_s (by decide)) (O 7 J) h3 J J) ?_;refine z6.cons (zl (O 8 J) (o_s (by decide)) h4 J J) ?_;refine z6.cons (t_fa (off:=4) (O 1 J) Tryd.underlying43 J (zn (zn (zn (zn (zbu (zba _ _)) J) J) J) J) J ty3 J J) ?_;refine z6.cons (zcb ty3 (O 10 J) J J) ?_;refine z6.cons (zc2 (zc3 h6) (xs:=[.tmp 11]) (.cons (O 11 J) .nil) J J) ?_;refine z6.cons (zl (O 9 J) (O 12 J) h7 J J) ?_;refine z6.cons (zl (O 13 J) (o_s (by decide)) h8 J J) ?_;refine z6.cons (zc1 (q:=(2,([]:Str),(((([123]:Str)++r1)++([44]:Str))++r5)++([125]:Str),r9.1,r9.2)) (O 4 J) h10 (xs:=[.const (.int .i64 2),.const (.string ⟨#[]⟩),.tmp 14]) (.cons oI (.cons (o_s (by decide)) (.cons (O 14 J) .nil))) (fun _ _ _ h_=>zd4 h_) J J) ?_;refine z6.cons (t_ext0 (O 15 J) J J) ?_;refine z6.cons (t_ext1 (O 15 J) J J) ?_;exact z6.nil
 intro a s _ L;replace L:=L.kk (L':=[(2,(Pd.rep En.str ([]:Str))),(3,(Pi 0)),(16,(Pd.rep En.str r9.1)),(17,(Pi r9.2))]);refine dp ?_;refine sA 2 L fun a s L=>?_;refine es ?_;subst h;exact wp_ret (ret2 J L J J)
theorem zef {cap0_:(Str × Str × Int→Prop)} {r_:(Str × Int)} (h:zb0 cap0_ r_):Fn Tryd.prog 43 [(Pd.ptr EnF65 cap0_)] (Rq2 (Pd.rep En.str r_.1) (Pi r_.2)):=by
 unfold zb0 at h;refine zbb Tryd.func43 J Tryd.ntmps43 (by rfl) (by simp) fun s0 a L=>?_;refine rs (sv (zo (o_s (by decide)) J J) L fun a s L=>?_);refine sA 1 L fun a s L=>?_;refine es ?_;obtain ⟨r1,h2,h⟩:=h;refine rs (sA 1 L fun a s L=>?_);refine sv (zc1 (q:=(([98,40]:Str),r1.1,r1.2)) op h2 (xs:=[.const (.string ⟨#[98,40]⟩)]) (.cons (o_s (by decide)) .nil) (fun _ _ _ h_=>zd4 h_) J J) L fun a s L=>?_;refine sA 4 L fun a s L=>?_;refine es ?_;subst h;exact wp_ret (ret2 J L J J)
theorem zee {cap0_:(Str × Str × Int→Prop)} {r_:(Str × Int)} (h:zbz cap0_ r_):Fn Tryd.prog 44 [(Pd.ptr EnF65 cap0_)] (Rq2 (Pd.rep En.str r_.1) (Pi r_.2)):=by
 unfold zbz at h;refine zbb Tryd.func44 J Tryd.ntmps44 (by rfl) (by simp) fun s0 a L=>?_;refine rs (sv (zo (o_s (by decide)) J J) L fun a s L=>?_);refine sA 1 L fun a s L=>?_;refine es ?_;obtain ⟨r1,h2,h⟩:=h;refine rs (sA 1 L fun a s L=>?_);refine sv (zc1 (q:=(([119,40]:Str),r1.1,r1.2)) op h2 (xs:=[.const (.string ⟨#[119,40]⟩)]) (.cons (o_s (by decide)) .nil) (fun _ _ _ h_=>zd4 h_) J J) L fun a s L=>?_;refine sA 4 L fun a s L=>?_;refine es ?_;subst h;exact wp_ret (ret2 J L J J)
theorem zg.n_ok (k_:Nat):∀{d_:SDesc} {i_:Int} {level_:Int} {r_:(Str × Int)} (h:zg.n k_ d_ i_ level_ r_),Fn Tryd.prog 21 [(Pd.rep En.SDesc d_),(Pi i_),(Pi level_)] (Rq2 (Pd.rep En.str r_.1) (Pi r_.2)):=by
 induction k_ with
 | zero=>intro d_ i_ level_ r_ h;exact h.elim
 | succ k_ ih_=>
 intro d_ i_ level_ r_ h;unfold zg.n at h;refine zbb Tryd.func21 J Tryd.ntmps21 (by rfl) (by simp) fun s0 a L=>?_;refine rs (sA 1 L fun a s L=>?_);refine sv (zo (o_s (by decide)) J J) L fun a s L=>?_;refine sA 1 L fun a s L=>?_;refine es ?_;obtain ⟨e1,h2,h⟩:=h;refine rs (sl 5 (p1 h2) L fun a s L=>?_);refine z7 En.SNode (z:=(0,0,0,0,0,(0#256),([]:Str))) 8 L zfh J J J J fun a s g3 hg_ L=>?_;refine sB 8 L fun s L=>?_;refine es (rs ?_);refine sv (zcb (⟨⟨_,_,J,J,J,J,by decide⟩,_,J,J⟩:Ty Tryd.prog 62 (En.fmap (En.int .i64) kvI64 En.fid)) (o_gm (g:=0) (l:=gfm0) (by simp [gmap])) J J) L fun a s L=>?_;refine sA 2 L fun a s L=>?_;refine sv (t_mgetlev op op Ud.h (zb8 Ud.h) (⟨_,[.int .i64 0],J,by rfl,fun _ _=>J⟩:TyV Tryd.prog 3 En.fid none) (by decide) (fun | some _=>J | none=>J) J J) L fun a s L=>?_;refine sA 5 L fun a s L=>?_;refine es (wp_seq_k fun K4 H4=>?_);refine rA 2 L fun a s L=>?_;have J6:∀(own5:Int) (a:Act) (s:St),Has N0 66 s0 a s [(1,(Pi i_)),(2,(Pi level_)),(3,(Pd.ptr En.SDesc d_)),(8,(Pd.box En.SNode s0.w.heap.size g3 e1)),(9,(Pi own5))]→((zg.j1 (zg.n k_) d_ i_ level_ r_ e1) own5)→K4 a s.w:=by
  intro own5 a s L h;unfold zg.j1 at h;show K4 a s.w;refine H4 _ _ (wp_seq_k fun K7 H7=>?_);refine rA 3 L fun a s L=>?_;refine cn L h (fun h=>?_) fun h=>?_
  ·obtain ⟨r8,h9,h⟩:=h;refine ra 9 (p1 ((ih_ h9).tup)) L fun a s L=>?_;obtain ⟨h10,h11,h12,h⟩:=h;refine rs (sA 1 L fun a s L=>?_);refine sv (zl (o_s (by decide)) op h10 J J) L fun a s L=>?_;refine sv (zl op (o_s (by decide)) h11 J J) L fun a s L=>?_;refine sA 4 L fun a s L=>?_;refine es ?_;subst h;exact wp_ret (ret2 J L J J)
  ·refine wp_skip (H7 _ _ ?_);refine fbc 8 L fun s L=>?_;refine rs (sv (t_q (Pd.rep EnF63 (fun q_=>print_text_1.b (zg.n k_) q_.1 q_.2.1 q_.2.2.1 d_ e1 (q_.2.2.2.1,q_.2.2.2.2))) (zb5 (cs:=[.tmp 3,.tmp 8]) (.cons op (.cons op .nil)) (zbq Tryd.func32 J (by rfl)) (zbg zbo (zbg zbo zb9)) (fun q_ h_=>print_text_1.b_ok ih_ h_) J J)) L fun a s L=>?_);refine z7 EnF63 (z:=(fun _=>False)) 13 L tyz63 J J J J fun a s g13 hg_ L=>?_;refine sB 13 L fun s L=>?_;refine es (rs ?_);refine sv (t_q (Pd.rep EnF64 (fun q_=>print_text_2.b (zg.n k_) q_.1 q_.2.1 d_ e1 (q_.2.2.1,q_.2.2.2))) (zb5 (cs:=[.tmp 3,.tmp 8]) (.cons op (.cons op .nil)) (zbq Tryd.func33 J (by rfl)) (zbg zbo (zbg zbo zb9)) (fun q_ h_=>print_text_2.b_ok ih_ h_) J J)) L fun a s L=>?_;have lt_d15:=L.blt 13 rfl;refine z7 EnF64 (z:=(fun _=>False)) 14 L tyz64 J J J J fun a s g14 hg_ L=>?_;have d15:=Dis.newg hg_ lt_d15;refine sB 14 L fun s L=>?_;refine es (fbc 13 L fun s L=>?_);refine rs (sv (t_q (Pd.rep EnF65 (fun q_=>zbi q_.1 (fun q_=>print_text_1.b (zg.n k_) q_.1 q_.2.1 q_.2.2.1 d_ e1 (q_.2.2.2.1,q_.2.2.2.2)) (q_.2.1,q_.2.2))) (zb5 (cs:=[.tmp 13]) (.cons op .nil) (zbq Tryd.func34 J (by rfl)) (zbg zbo zb9) (fun q_ h_=>zet h_) J J)) L fun a s L=>?_);have lt_d17:=L.blt 14 rfl;refine z7 EnF65 (z:=(fun _=>False)) 15 L tyz65 J J J J fun a s g16 hg_ L=>?_;have d17:=Dis.newg hg_ lt_d17;refine sB 15 L fun s L=>?_;refine es (fbc 14 L fun s L=>?_);refine fbc 15 L fun s L=>?_;refine rs (st_mkmap 49 (En.int .i64) kvI64 EnF66 L J J J J fun a s g18 hg_ L=>?_)
   refine zby L op op (o_q (Pd.rep EnF66 (fun q_=>zcj (q_.1,q_.2))) (o_fun (zbq Tryd.func35 J (by rfl)) (fun q_ h_=>zes h_))) Ud.h (zb8 Ud.h) (.inr J) J J kw fun s L=>?_;refine sv (t_q (Pd.rep EnF66 (fun q_=>zci e1 (q_.1,q_.2))) (zb5 (cs:=[.tmp 8]) (.cons op .nil) (zbq Tryd.func36 J (by rfl)) (zbg zbo zb9) (fun q_ h_=>zer h_) J J)) L fun a s L=>?_;refine zby L op op op Ud.h (zb8 Ud.h) (.inr J) J J kw fun s L=>?_;refine sv (t_q (Pd.rep EnF66 (fun q_=>zch e1 (q_.1,q_.2))) (zb5 (cs:=[.tmp 8]) (.cons op .nil) (zbq Tryd.func37 J (by rfl)) (zbg zbo zb9) (fun q_ h_=>zeq h_) J J)) L fun a s L=>?_;refine zby L op op op Ud.h (zb8 Ud.h) (.inr J) J J kw fun s L=>?_;refine sv (t_q (Pd.rep EnF66 (fun q_=>zcg (fun q_=>print_text_2.b (zg.n k_) q_.1 q_.2.1 d_ e1 (q_.2.2.1,q_.2.2.2)) (q_.1,q_.2))) (zb5 (cs:=[.tmp 14]) (.cons op .nil) (zbq Tryd.func38 J (by rfl)) (zbg zbo zb9) (fun q_ h_=>zep h_) J J)) L fun a s L=>?_;refine zby L op op op Ud.h (zb8 Ud.h) (.inr J) J J kw fun s L=>?_;refine sv (t_q (Pd.rep EnF66 (fun q_=>zcf (fun q_=>print_text_2.b (zg.n k_) q_.1 q_.2.1 d_ e1 (q_.2.2.1,q_.2.2.2)) (q_.1,q_.2))) (zb5 (cs:=[.tmp 14]) (.cons op .nil) (zbq Tryd.func39 J (by rfl)) (zbg zbo zb9) (fun q_ h_=>zeo h_) J J)) L fun a s L=>?_;refine zby L op op op Ud.h (zb8 Ud.h) (.inr J) J J kw fun s L=>?_;refine sv (t_q (Pd.rep EnF66 (fun q_=>zce (fun q_=>print_text_1.b (zg.n k_) q_.1 q_.2.1 q_.2.2.1 d_ e1 (q_.2.2.2.1,q_.2.2.2.2)) (q_.1,q_.2))) (zb5 (cs:=[.tmp 13]) (.cons op .nil) (zbq Tryd.func40 J (by rfl)) (zbg zbo zb9) (fun q_ h_=>zen h_) J J)) L fun a s L=>?_
   refine zby L op op op Ud.h (zb8 Ud.h) (.inr J) J J kw fun s L=>?_;refine sv (t_q (Pd.rep EnF66 (fun q_=>zb1 (fun q_=>print_text_1.b (zg.n k_) q_.1 q_.2.1 q_.2.2.1 d_ e1 (q_.2.2.2.1,q_.2.2.2.2)) e1 (q_.1,q_.2))) (zb5 (cs:=[.tmp 13,.tmp 8]) (.cons op (.cons op .nil)) (zbq Tryd.func41 J (by rfl)) (zbg zbo (zbg zbo zb9)) (fun q_ h_=>zeg h_) J J)) L fun a s L=>?_;refine zby L op op op Ud.h (zb8 Ud.h) (.inr J) J J kw fun s L=>?_;refine sv (t_q (Pd.rep EnF66 (fun q_=>zb0 (fun q_=>zbi q_.1 (fun q_=>print_text_1.b (zg.n k_) q_.1 q_.2.1 q_.2.2.1 d_ e1 (q_.2.2.2.1,q_.2.2.2.2)) (q_.2.1,q_.2.2)) (q_.1,q_.2))) (zb5 (cs:=[.tmp 15]) (.cons op .nil) (zbq Tryd.func43 J (by rfl)) (zbg zbo zb9) (fun q_ h_=>zef h_) J J)) L fun a s L=>?_;refine zby L op op op Ud.h (zb8 Ud.h) (.inr J) J J kw fun s L=>?_;refine sv (t_q (Pd.rep EnF66 (fun q_=>zbz (fun q_=>zbi q_.1 (fun q_=>print_text_1.b (zg.n k_) q_.1 q_.2.1 q_.2.2.1 d_ e1 (q_.2.2.2.1,q_.2.2.2.2)) (q_.2.1,q_.2.2)) (q_.1,q_.2))) (zb5 (cs:=[.tmp 15]) (.cons op .nil) (zbq Tryd.func44 J (by rfl)) (zbg zbo zb9) (fun q_ h_=>zee h_) J J)) L fun a s L=>?_;refine zby L op op op Ud.h (zb8 Ud.h) (.inr J) J J kw fun s L=>?_;refine sA 2 L fun a s L=>?_;refine es ?_;obtain ⟨r19,h20,h⟩:=h;refine rs (sA 3 L fun a s L=>?_);refine sv (t_mget op op Ud.h (zb8 Ud.h) tyv66 J J) L fun a s L=>?_;refine sv (zc1 (q:=(r19.1,r19.2)) op h20 opz (fun _ _ _ h_=>zd4 h_) J J) L fun a s L=>?_;refine sA 4 L fun a s L=>?_;refine es ?_;subst h;exact wp_ret (ret2 J L J J)
 refine cn L h (fun h=>?_) fun h=>?_
 ·refine rg ?_;refine sA 1 L fun a s L=>?_;refine en' ?_;exact J6 3 a s (L.kk) h
 ·refine wp_skip ?_;exact J6 (lvI (zcl gfm0 e1.1 none)) a s (L.kk) h
theorem zdv {d_:SDesc} {i_:Int} {level_:Int} {r_:(Str × Int)} (h:zg d_ i_ level_ r_):Fn Tryd.prog 21 [(Pd.rep En.SDesc d_),(Pi i_),(Pi level_)] (Rq2 (Pd.rep En.str r_.1) (Pi r_.2)):=by
 obtain ⟨k_,h⟩:=h;exact zg.n_ok k_ h
theorem zcu {d_:SDesc} {r_:Str} (h:zbn d_ r_):Fn Tryd.prog 9 [(Pd.rep En.SDesc d_)] (Rq (Pd.rep En.str r_)):=by
 unfold zbn at h;refine zbb Tryd.func9 J Tryd.ntmps9 (by rfl) (by simp) fun s0 a L=>?_;refine rs (sA 1 L fun a s L=>?_);refine sv (zo (o_s (by decide)) J J) L fun a s L=>?_;refine es ?_;obtain ⟨h1,r2,h3,h⟩:=h;refine ra 11 (p1 ((zdv h3).tup)) L fun a s L=>?_;refine rA 2 L fun a s L=>?_;subst h;exact wp_ret (zbs J L J)
theorem zb2 {d_:SDesc} {r_:Int} (h:zbe d_ r_):Fn Tryd.prog 11 [(Pd.rep En.SDesc d_)] (Rq (Pi r_)):=by
 unfold zbe at h;refine zbb Tryd.func11 J Tryd.ntmps11 (by rfl) (by simp) fun s0 a L=>?_;refine rA 2 L fun a s L=>?_;obtain ⟨h1,r2,h3,h⟩:=h;refine ra 11 (p1 ((zdv h3).tup)) L fun a s L=>?_;refine rA 2 L fun a s L=>?_;subst h;exact wp_ret (zbs J L J)
theorem zdj  {r_:Bool} (h:zb7  r_):Fn Tryd.prog 6 [] (Rq (Pd.rep En.bool r_)):=by
 unfold zb7 at h;refine zbb Tryd.func6 J Tryd.ntmps6 (by rfl) (by simp) fun s0 a L=>?_;refine rA 1 L fun a s L=>?_;obtain ⟨r1,h2,h⟩:=h;refine rs (sl 1 (p1 (zc6 h2)) L fun a s L=>?_);refine sv (zdl (x:=(2,0,0,0,0,r1,([]:Str))) (ps:=[(0,.const (.int .i64 2)),(5,.tmp 5)]) zfh J stt43 (.cons (i:=0) op J (zbf (z1 _ _ _)) (.cons (i:=5) op J (zk (zk (zk (zk (zk (zbf (z1 _ _ _)) J) J) J) J) J) .nil)) J J) L fun a s L=>?_;refine sA 1 L fun a s L=>?_;refine sv (zdl (x:=[(2,0,0,0,0,r1,([]:Str))]) (ps:=[(0,.tmp 7)]) zfi J stt24 (.cons (i:=0) op J (zfj (z1 _ _ _)) .nil) J J) L fun a s L=>?_;refine z7 En.SDesc (z:=[]) 1 L zfi J J J J fun a s g3 hg_ L=>?_;refine sB 1 L fun s L=>?_;refine es ?_;obtain ⟨r4,h5,h⟩:=h;refine rs (sl 3 (p1 (zfp h5)) L fun a s L=>?_);have lt_d7:=L.blt 1 rfl;refine z7 En.SDesc (z:=[]) 2 L zfi J J J J fun a s g6 hg_ L=>?_;have d7:=Dis.newg hg_ lt_d7;refine sB 2 L fun s L=>?_;refine es ?_;obtain ⟨r8,h9,h⟩:=h;refine rs (sl 2 (p1 (zdu h9)) L fun a s L=>?_);have lt_d12:=L.blt 2 rfl;have lt_d11:=L.blt 1 rfl;refine z7 En.SDesc (z:=[]) 3 L zfi J J J J fun a s g10 hg_ L=>?_;have d11:=Dis.newg hg_ lt_d11;have d12:=Dis.newg hg_ lt_d12;refine sB 3 L fun s L=>?_;refine es ?_;obtain ⟨r13,h14,h⟩:=h;refine rs (sl 2 (p1 (zdu h14)) L fun a s L=>?_);have lt_d17:=L.blt 3 rfl;have lt_d16:=L.blt 1 rfl;refine z7 En.SDesc (z:=[]) 4 L zfi J J J J fun a s g15 hg_ L=>?_;have d16:=Dis.newg hg_ lt_d16;have d17:=Dis.newg hg_ lt_d17;replace L:=L.dr (some g6);refine sB 4 L fun s L=>?_;refine es ?_
 obtain ⟨r18,h19,r20,h21,b22,h23,r24,h25,b26,h27,r28,h29,r30,h31,r32,h33,b34,h35,r36,h37,r38,h39,b40,h41,r42,h43,h⟩:=h;refine rs (sl 2 (p1 (zcu h19)) L fun a s L=>?_);refine sv (t_eqv zdn op (o_s (by decide)) J J) L fun a s L=>?_;refine sl 8 (pp (fun hc_=>(zb2 (h21 hc_))) (pp h23 (pp (fun hc_=>(zcu (h25 hc_))) trivial))) L fun a s L=>?_;refine sv (h27 ▸ (t_g1 J J J (fun hc_=>t_eqv zdn (opc hc_) (o_s (by decide)) J J))) L fun a s L=>?_;refine sl 9 (pp (fun hc_=>(zb2 (h29 hc_))) (pp (fun hc_=>(zc6 (h31 hc_))) (pp (fun hc_=>(zbk (h33 hc_))) trivial))) L fun a s L=>?_;refine sv (t_g1 J J J (fun hc_=>t_eqv zdn (opc hc_) (o_s (by decide)) J J)) L fun a s L=>?_;refine sl 2 (p1 h35) L fun a s L=>?_;refine sv (t_g1 J J J (fun hc_=>t_bcls (x:=(0#256)) Ud.h (by rfl) tyz27 (fun _=>by kernel_rfl) J J)) L fun a s L=>?_;refine sl 1 (pp (fun hc_=>(zbk (h37 hc_))) trivial) L fun a s L=>?_;refine sv (t_g1 J J J (fun hc_=>t_eqv zdn (opc hc_) (o_s (by decide)) J J)) L fun a s L=>?_;refine sA 2 L fun a s L=>?_;refine sv (t_g1 J J J (fun hc_=>t_bcls (x:=(Cl.ofWords 5 0 0 0)) Ud.h (by rfl) tyz27 (fun _=>by kernel_rfl) J J)) L fun a s L=>?_;refine sl 1 (pp (fun hc_=>(zbk (h39 hc_))) trivial) L fun a s L=>?_;refine sv (t_g1 J J J (fun hc_=>t_eqv zdn (opc hc_) (o_s (by decide)) J J)) L fun a s L=>?_;refine sl 7 (pp h41 (pp (fun hc_=>(zb2 (h43 hc_))) trivial)) L fun a s L=>?_;refine es ?_;subst h;exact wp_ret (zbs J L J)
theorem ze3 {kv_:Int} {r_:Int} (h:zcs kv_ r_):Fn Tryd.prog 45 [(Pi kv_)] (Rq (Pi r_)):=by
 unfold zcs at h;refine zbb Tryd.func45 J Tryd.ntmps45 (by rfl) (by simp) fun s0 a L=>?_;refine rA 1 L fun a s L=>?_;refine wp_seq_k fun K1 H1=>rA 1 L fun a s L=>?_;refine wp_block (rA 2 L fun a s L=>?_);refine cn L h (fun h=>?_) fun h=>?_
 ·refine rA 1 L fun a s L=>?_;subst h;exact wp_ret (zbs J L J)
 ·refine rA 2 L fun a s L=>?_;refine cn L h (fun h=>?_) fun h=>?_
  ·refine rA 1 L fun a s L=>?_;subst h;exact wp_ret (zbs J L J)
  ·refine wp_seq_k fun K2 H2=>?_;refine rA 2 L fun a s L=>?_;refine cn L h (fun h=>?_) fun h=>?_
   ·refine wp_skip (H2 _ _ ?_);refine cn L h (fun h=>?_) fun h=>?_
    ·refine rA 1 L fun a s L=>?_;subst h;exact wp_ret (zbs J L J)
    ·refine wp_skip (H1 _ _ ?_);refine rA 1 L fun a s L=>?_;subst h;exact wp_ret (zbs J L J)
   ·refine rg ?_;refine sA 2 L fun a s L=>?_;refine en' (H2 _ _ ?_);refine cn L h (fun h=>?_) fun h=>?_
    ·refine rA 1 L fun a s L=>?_;subst h;exact wp_ret (zbs J L J)
    ·refine wp_skip (H1 _ _ ?_);refine rA 1 L fun a s L=>?_;subst h;exact wp_ret (zbs J L J)
theorem zd7 {cv_:Int} {r_:Str} (h:zc5 cv_ r_):Fn Tryd.prog 27 [(Pi cv_)] (Rq (Pd.rep En.str r_)):=by
 unfold zc5 at h;refine zbb Tryd.func27 J Tryd.ntmps27 (by rfl) (by simp) fun s0 a L=>?_;refine rs (sv (zo (o_s (by decide)) J J) L fun a s L=>?_);refine es (rs ?_);refine sv (zo (o_s (by decide)) J J) L fun a s L=>?_;refine es ?_;obtain ⟨h1,c2,h3,h4,c5,h6,h⟩:=h;refine wp_seq (rdx 10 (pp h3 (p1 h6)) L fun a s L=>?_);refine sA 1 L fun a s L=>?_;refine es ?_;subst h;exact wp_ret (zbs J L J)
theorem zdg {a_:Cl} {r_:Str} (h:zd a_ r_):Fn Tryd.prog 14 [(Pd.rep En.cls a_)] (Rq (Pd.rep En.str r_)):=by
 unfold zd at h;refine zbb Tryd.func14 J Tryd.ntmps14 (by rfl) (by simp) fun s0 a L=>?_;refine rs (sA 1 L fun a s L=>?_);refine sv (zo (o_s (by decide)) J J) L fun a s L=>?_;refine es (wp_seq_k fun K1 H1=>?_);obtain ⟨r2,h3,h⟩:=h;refine wp_seq (rda zc9 3 [(Pd.rep En.cls a_),(Pd.rep En.cls r2),(Pd.rep En.bool (a_==r2))] L (by kernel_rfl) J J ?_ ?_)
 ·refine z6.cons (zcb ty27 (O 1 J) J J) ?_;refine z6.cons (zc2 (zc6 h3) (xs:=[.const (.int .u8 0),.const (.int .u8 255)]) (.cons (o_i (k:=.u8) (by decide)) (.cons (o_i (k:=.u8) (by decide)) .nil)) J J) ?_;refine z6.cons (t_eqv eq27 (O 7 J) (O 8 J) J J) ?_;exact z6.nil
 intro a s _ L;replace L:=L.kk (L':=[(1,(Pd.ptr En.cls a_)),(9,(Pd.rep En.bool (a_==r2)))]);refine dp ?_;refine es (cn L h (fun h=>?_) fun h=>?_)
 ·refine rs ?_;refine sv (zo (o_s (by decide)) J J) L fun a s L=>?_;refine es ?_;subst h;exact wp_ret (zbs J L J)
 ·refine wp_skip (H1 _ _ ?_);refine rs (sv (zo (o_s (by decide)) J J) L fun a s L=>?_);refine es (wp_seq_k fun K4 H4=>?_);refine rA 1 L fun a s L=>?_;refine wp_block ?_;have J6:∀(s5:Str) (a:Act) (s:St),Has N0 63 s0 a s [(3,(Pd.rep En.str s5))]→((zd.j1 r_) s5)→K4 a s.w:=by
   intro s5 a s L h;unfold zd.j1 at h;show K4 a s.w;refine H4 _ _ ?_;obtain ⟨h7,h⟩:=h;refine rs (sA 1 L fun a s L=>?_);refine sv (zl op (o_s (by decide)) h7 J J) L fun a s L=>?_;refine sA 1 L fun a s L=>?_;refine es ?_;subst h;exact wp_ret (zbs J L J)
  obtain ⟨k10,h⟩:=h;refine lpn (fun k11 a s=>∃(s8:Str) (c9:Int),Has N0 63 s0 a s [(1,(Pd.ptr En.cls a_)),(3,(Pd.rep En.str s8)),(4,(Pi c9))]∧zd.l1 a_ (zd.j1 r_) k11 s8 c9) k10 ⟨([60]:Str),0,L.kk,h⟩ ?_;rintro k11 a s ⟨s8,c9,L,h⟩ KL12 hKL12;unfold zd.l1 at h;refine wp_seq_k fun K13 H13=>rA 2 L fun a s L=>?_;refine cn L h (fun h=>?_) fun h=>?_
  ·refine wp_skip (H13 _ _ ?_);refine wp_seq_k fun K14 H14=>wp_block (wp_seq_k fun K15 H15=>?_);obtain ⟨r16,h17,h⟩:=h;refine ra 5 (p1 (zc8 h17)) L fun a s L=>?_;refine cn L h (fun h=>?_) fun h=>?_
   ·refine wp_exit ?_;show K14 a s.w;refine H14 _ _ ?_;obtain ⟨h18,h⟩:=h;refine rg (sA 3 L fun a s L=>?_);refine en' ?_;exact hKL12 a s ⟨s8,(c9+1),L.kk,h⟩
   ·refine wp_skip (H15 _ _ ?_);obtain ⟨h19,r20,h21,h⟩:=h;refine ra 11 (pp (fun hc_=>(zc8 (h21 hc_))) trivial) L fun a s L=>?_;obtain ⟨h22,r23,h24,h⟩:=h;refine ra 11 (pp (fun hc_=>(zc8 (h24 hc_))) trivial) L fun a s L=>?_;refine wp_seq_k fun K25 H25=>rs (sA 3 L fun a s L=>?_);refine sv (t_g1 J J J (fun hc_=>t_nev zdn (opc hc_) (o_s (by decide)) J J)) L fun a s L=>?_;refine sA 1 L fun a s L=>?_;refine es ?_;have J27:∀(s26:Str) (a:Act) (s:St),Has N0 63 s0 a s [(1,(Pd.ptr En.cls a_)),(3,(Pd.rep En.str s26)),(4,(Pi c9)),(5,(Pd.rep En.bool ((c9==0)||(!r20)))),(6,(Pd.rep En.bool ((c9==255)||(!r23))))]→((zd.j3 (zd.l1 a_ (zd.j1 r_) k11) c9 r20 r23) s26)→K25 a s.w:=by
     intro s26 a s L h;unfold zd.j3 at h;show K25 a s.w;refine H25 _ _ (wp_seq_k fun K28 H28=>?_);refine rA 1 L fun a s L=>?_;have J30:∀(s29:Str) (a:Act) (s:St),Has N0 63 s0 a s [(1,(Pd.ptr En.cls a_)),(3,(Pd.rep En.str s29)),(4,(Pi c9)),(5,(Pd.rep En.bool ((c9==0)||(!r20)))),(6,(Pd.rep En.bool ((c9==255)||(!r23))))]→((zd.j2 (zd.l1 a_ (zd.j1 r_) k11) c9 r20 r23) s29)→K28 a s.w:=by
      intro s29 a s L h;unfold zd.j2 at h;show K28 a s.w;refine H28 _ _ ?_;obtain ⟨b31,h32,h⟩:=h;refine ra 5 (p1 h32) L fun a s L=>?_;refine cn L h (fun h=>?_) fun h=>?_
      ·obtain ⟨h33,r34,h35,h36,h⟩:=h;refine rg (sA 1 L fun a s L=>?_);refine sv (zl op (o_s (by decide)) h33 J J) L fun a s L=>?_;refine sl 4 (p1 (zd7 h35)) L fun a s L=>?_;refine en' (H14 _ _ ?_);obtain ⟨h37,h⟩:=h;refine rg (sA 3 L fun a s L=>?_);refine en' ?_;exact hKL12 a s ⟨((s29++([45]:Str))++r34),(c9+1),L.kk,h⟩
      ·refine wp_skip (H14 _ _ ?_);obtain ⟨h38,h⟩:=h;refine rg (sA 3 L fun a s L=>?_);refine en' ?_;exact hKL12 a s ⟨s29,(c9+1),L.kk,h⟩
     refine cn L h (fun h=>?_) fun h=>?_
     ·obtain ⟨r39,h40,h41,h⟩:=h;refine rg (sl 5 (p1 (zd7 h40)) L fun a s L=>?_);refine en' ?_;exact J30 (s26++r39) a s (L.kk) h
     ·refine wp_skip ?_;exact J30 s26 a s (L.kk) h
    refine cn L h (fun h=>?_) fun h=>?_
    ·obtain ⟨h42,h⟩:=h;refine rg (sA 1 L fun a s L=>?_);refine sv (zl op (o_s (by decide)) h42 J J) L fun a s L=>?_;refine sA 1 L fun a s L=>?_;refine en' ?_;exact J27 (s8++([44]:Str)) a s (L.kk) h
    ·refine wp_skip ?_;exact J27 s8 a s (L.kk) h
  ·refine wp_exit ?_;exact J6 s8 a s (L.kk) h
theorem zbd.n_ok (k_:Nat):∀{nv_:Int} {r_:Str} (h:zbd.n k_ nv_ r_),Fn Tryd.prog 46 [(Pi nv_)] (Rq (Pd.rep En.str r_)):=by
 induction k_ with
 | zero=>intro nv_ r_ h;exact h.elim
 | succ k_ ih_=>
 intro nv_ r_ h;unfold zbd.n at h;refine zbb Tryd.func46 J Tryd.ntmps46 (by rfl) (by simp) fun s0 a L=>?_;refine rs (sv (zo (o_s (by decide)) J J) L fun a s L=>?_);refine es (wp_seq_k fun K1 H1=>?_);refine rA 2 L fun a s L=>?_;refine cn L h (fun h=>?_) fun h=>?_
 ·obtain ⟨h2,h⟩:=h;refine rA 6 L fun a s L=>?_;subst h;exact wp_ret (zbs J L J)
 ·refine wp_skip (H1 _ _ ?_);obtain ⟨h3,r4,h5,h6,h7,h8,h⟩:=h;refine wp_seq (rdx 10 (p1 (ih_ h5)) L fun a s L=>?_);refine sA 1 L fun a s L=>?_;refine es ?_;subst h;exact wp_ret (zbs J L J)
theorem zd8 {nv_:Int} {r_:Str} (h:zbd nv_ r_):Fn Tryd.prog 46 [(Pi nv_)] (Rq (Pd.rep En.str r_)):=by
 obtain ⟨k_,h⟩:=h;exact zbd.n_ok k_ h
theorem zt.n_ok (k_:Nat):∀{d_:SDesc} {i_:Int} {asked_:Int} {r_:Str} (h:zt.n k_ d_ i_ asked_ r_),Fn Tryd.prog 22 [(Pd.rep En.SDesc d_),(Pi i_),(Pi asked_)] (Rq (Pd.rep En.str r_)):=by
 induction k_ with
 | zero=>intro d_ i_ asked_ r_ h;exact h.elim
 | succ k_ ih_=>
 intro d_ i_ asked_ r_ h;unfold zt.n at h;refine zbb Tryd.func22 J Tryd.ntmps22 (by rfl) (by simp) fun s0 a L=>?_;refine rs (sA 1 L fun a s L=>?_);refine sv (zo (o_s (by decide)) J J) L fun a s L=>?_;refine es ?_;obtain ⟨e1,h2,h⟩:=h;refine rs (sl 5 (p1 h2) L fun a s L=>?_);refine z7 En.SNode (z:=(0,0,0,0,0,(0#256),([]:Str))) 7 L zfh J J J J fun a s g3 hg_ L=>?_;refine sB 7 L fun s L=>?_;refine es (wp_seq_k fun K4 H4=>?_);obtain ⟨r5,h6,h⟩:=h;refine ra 5 (p1 (ze3 h6)) L fun a s L=>?_;refine cn L h (fun h=>?_) fun h=>?_
 ·obtain ⟨r7,h8,h9,h10,h⟩:=h;refine rs (sl 3 (p1 (ih_ h8)) L fun a s L=>?_);refine sv (zl (o_s (by decide)) op h9 J J) L fun a s L=>?_;refine sv (zl op (o_s (by decide)) h10 J J) L fun a s L=>?_;refine sA 1 L fun a s L=>?_;refine es ?_;subst h;exact wp_ret (zbs J L J)
 ·refine wp_skip (H4 _ _ ?_);refine wp_seq_k fun K11 H11=>rA 2 L fun a s L=>?_;refine wp_block (rA 2 L fun a s L=>?_);refine cn L h (fun h=>?_) fun h=>?_
  ·refine rs ?_;refine sv (zo (o_s (by decide)) J J) L fun a s L=>?_;refine es ?_;subst h;exact wp_ret (zbs J L J)
  ·refine rA 2 L fun a s L=>?_;refine cn L h (fun h=>?_) fun h=>?_
   ·obtain ⟨r12,h13,h⟩:=h;refine ra 4 (p1 (zdg h13)) L fun a s L=>?_;subst h;exact wp_ret (zbs J L J)
   ·refine rA 2 L fun a s L=>?_;refine cn L h (fun h=>?_) fun h=>?_
    ·obtain ⟨h14,h15,h⟩:=h;refine rs (sA 2 L fun a s L=>?_);refine sv (zl (o_s (by decide)) op h14 J J) L fun a s L=>?_;refine sv (zl op (o_s (by decide)) h15 J J) L fun a s L=>?_;refine sA 1 L fun a s L=>?_;refine es ?_;subst h;exact wp_ret (zbs J L J)
    ·refine rA 2 L fun a s L=>?_;refine cn L h (fun h=>?_) fun h=>?_
     ·obtain ⟨r16,h17,r18,h19,h20,h⟩:=h;refine wp_seq (rdx 9 (pp (ih_ h17) (p1 (ih_ h19))) L fun a s L=>?_);refine sA 1 L fun a s L=>?_;refine es ?_;subst h;exact wp_ret (zbs J L J)
     ·refine rA 2 L fun a s L=>?_;refine cn L h (fun h=>?_) fun h=>?_
      ·obtain ⟨r21,h22,h23,r24,h25,h26,h⟩:=h;refine wp_seq (rda zc9 10 [(Pd.rep En.SDesc d_),(Pd.optr (En.int .i64) s0.w.heap.size (some g3) (1) e1.2.1),(Pi e1.2.1),(Pd.rep En.str r21),(Pd.rep En.str (r21++([124]:Str))),(Pd.rep En.SDesc d_),(Pd.optr (En.int .i64) s0.w.heap.size (some g3) (2) e1.2.2.1),(Pi e1.2.2.1),(Pd.rep En.str r24),(Pd.rep En.str ((r21++([124]:Str))++r24))] L (by kernel_rfl) J J ?_ ?_)
       ·refine z6.cons (zcb ty24 (O 3 J) J J) ?_;refine z6.cons (t_fab (off:=1) (O 7 J) Tryd.underlying43 J (zn (zbu (zba _ _)) J) J ty3 J J) ?_;refine z6.cons (zd0 ty3 (O 52 J) J J) ?_;refine z6.cons (zc2 (ih_ h22) (xs:=[.tmp 51,.tmp 53,.const (.int .i64 0)]) (.cons (O 51 J) (.cons (O 53 J) (.cons oI .nil))) J J) ?_;refine z6.cons (zl (O 54 J) (o_s (by decide)) h23 J J) ?_;refine z6.cons (zcb ty24 (O 3 J) J J) ?_;refine z6.cons (t_fab (off:=2) (O 7 J) Tryd.underlying43 J (zn (zn (zbu (zba _ _)) J) J) J ty3 J J) ?_;refine z6.cons (zd0 ty3 (O 57 J) J J) ?_;refine z6.cons (zc2 (ih_ h25) (xs:=[.tmp 56,.tmp 58,.const (.int .i64 1)]) (.cons (O 56 J) (.cons (O 58 J) (.cons oI .nil))) J J) ?_;refine z6.cons (zl (O 55 J) (O 59 J) h26 J J) ?_;exact z6.nil
       intro a s _ L;replace L:=L.kk (L':=[(60,(Pd.rep En.str ((r21++([124]:Str))++r24)))]);refine dp ?_;refine sA 1 L fun a s L=>?_;refine es ?_;subst h;exact wp_ret (zbs J L J)
      ·refine rA 2 L fun a s L=>?_;refine cn L h (fun h=>?_) fun h=>?_
       ·obtain ⟨r27,h28,h29,h⟩:=h;refine rs (sl 4 (p1 (ih_ h28)) L fun a s L=>?_);refine sv (zl op (o_s (by decide)) h29 J J) L fun a s L=>?_;refine sA 1 L fun a s L=>?_;refine es ?_;subst h;exact wp_ret (zbs J L J)
       ·refine rA 2 L fun a s L=>?_;refine cn L h (fun h=>?_) fun h=>?_
        ·obtain ⟨r30,h31,h32,r33,h34,h35,h36,r37,h38,h39,h40,h⟩:=h;refine wp_seq (rda zc9 15 [(Pd.rep En.SDesc d_),(Pd.optr (En.int .i64) s0.w.heap.size (some g3) (1) e1.2.1),(Pi e1.2.1),(Pd.rep En.str r30),(Pd.rep En.str (r30++([123]:Str))),(Pd.optr (En.int .i64) s0.w.heap.size (some g3) (3) e1.2.2.2.1),(Pi e1.2.2.2.1),(Pd.rep En.str r33),(Pd.rep En.str ((r30++([123]:Str))++r33)),(Pd.rep En.str (((r30++([123]:Str))++r33)++([44]:Str))),(Pd.optr (En.int .i64) s0.w.heap.size (some g3) (4) e1.2.2.2.2.1),(Pi e1.2.2.2.2.1),(Pd.rep En.str r37),(Pd.rep En.str ((((r30++([123]:Str))++r33)++([44]:Str))++r37)),(Pd.rep En.str (((((r30++([123]:Str))++r33)++([44]:Str))++r37)++([125]:Str)))] L (by kernel_rfl) J J ?_ ?_)
         ·refine z6.cons (zcb ty24 (O 3 J) J J) ?_;refine z6.cons (t_fab (off:=1) (O 7 J) Tryd.underlying43 J (zn (zbu (zba _ _)) J) J ty3 J J) ?_;refine z6.cons (zd0 ty3 (O 71 J) J J) ?_;refine z6.cons (zc2 (ih_ h31) (xs:=[.tmp 70,.tmp 72,.const (.int .i64 2)]) (.cons (O 70 J) (.cons (O 72 J) (.cons oI .nil))) J J) ?_;refine z6.cons (zl (O 73 J) (o_s (by decide)) h32 J J) ?_;refine z6.cons (t_fab (off:=3) (O 7 J) Tryd.underlying43 J (zn (zn (zn (zbu (zba _ _)) J) J) J) J ty3 J J) ?_;refine z6.cons (zd0 ty3 (O 75 J) J J) ?_;refine z6.cons (zc2 (zd8 h34) (xs:=[.tmp 76]) (.cons (O 76 J) .nil) J J) ?_;refine z6.cons (zl (O 74 J) (O 77 J) h35 J J) ?_;refine z6.cons (zl (O 78 J) (o_s (by decide)) h36 J J) ?_;refine z6.cons (t_fab (off:=4) (O 7 J) Tryd.underlying43 J (zn (zn (zn (zn (zbu (zba _ _)) J) J) J) J) J ty3 J J) ?_;refine z6.cons (zd0 ty3 (O 80 J) J J) ?_;refine z6.cons (zc2 (zd8 h38) (xs:=[.tmp 81]) (.cons (O 81 J) .nil) J J) ?_;refine z6.cons (zl (O 79 J) (O 82 J) h39 J J) ?_;refine z6.cons (zl (O 83 J) (o_s (by decide)) h40 J J) ?_;exact z6.nil
         intro a s _ L;replace L:=L.kk (L':=[(84,(Pd.rep En.str (((((r30++([123]:Str))++r33)++([44]:Str))++r37)++([125]:Str))))]);refine dp ?_;refine sA 1 L fun a s L=>?_;refine es ?_;subst h;exact wp_ret (zbs J L J)
        ·refine rA 2 L fun a s L=>?_;refine cn L h (fun h=>?_) fun h=>?_
         ·obtain ⟨r41,h42,h43,h44,h⟩:=h;refine rs (sl 4 (p1 (ih_ h42)) L fun a s L=>?_);refine sv (zl (o_s (by decide)) op h43 J J) L fun a s L=>?_;refine sv (zl op (o_s (by decide)) h44 J J) L fun a s L=>?_;refine sA 1 L fun a s L=>?_;refine es ?_;subst h;exact wp_ret (zbs J L J)
         ·refine wp_skip (H11 _ _ ?_);obtain ⟨r45,h46,h47,h48,h⟩:=h;refine rs (sl 4 (p1 (ih_ h46)) L fun a s L=>?_);refine sv (zl (o_s (by decide)) op h47 J J) L fun a s L=>?_;refine sv (zl op (o_s (by decide)) h48 J J) L fun a s L=>?_;refine sA 1 L fun a s L=>?_;refine es ?_;subst h;exact wp_ret (zbs J L J)
theorem ref06_at_ok {d_:SDesc} {i_:Int} {asked_:Int} {r_:Str} (h:zt d_ i_ asked_ r_):Fn Tryd.prog 22 [(Pd.rep En.SDesc d_),(Pi i_),(Pi asked_)] (Rq (Pd.rep En.str r_)):=by
 obtain ⟨k_,h⟩:=h;exact zt.n_ok k_ h
theorem zds {d_:SDesc} {r_:Str} (h:zb4 d_ r_):Fn Tryd.prog 10 [(Pd.rep En.SDesc d_)] (Rq (Pd.rep En.str r_)):=by
 unfold zb4 at h;refine zbb Tryd.func10 J Tryd.ntmps10 (by rfl) (by simp) fun s0 a L=>?_;refine rs (sA 1 L fun a s L=>?_);refine sv (zo (o_s (by decide)) J J) L fun a s L=>?_;refine es ?_;obtain ⟨h1,r2,h3,h⟩:=h;refine ra 7 (p1 (ref06_at_ok h3)) L fun a s L=>?_;subst h;exact wp_ret (zbs J L J)
theorem zfl {d_:SDesc} {r_:Int} (h:zf d_ r_):Fn Tryd.prog 12 [(Pd.rep En.SDesc d_)] (Rq (Pi r_)):=by
 unfold zf at h;refine zbb Tryd.func12 J Tryd.ntmps12 (by rfl) (by simp) fun s0 a L=>?_;refine rA 2 L fun a s L=>?_;obtain ⟨r1,h2,h⟩:=h;refine ra 3 (p1 (zds h2)) L fun a s L=>?_;refine rA 1 L fun a s L=>?_;refine rA 1 L fun a s L=>?_;refine rA 1 L fun a s L=>?_;refine wp_seq_k fun K3 H3=>rA 1 L fun a s L=>?_;refine wp_block ?_;have J5:∀(deep4:Int) (a:Act) (s:St),Has N0 46 s0 a s [(4,(Pi deep4))]→((zf.j1 r_) deep4)→K3 a s.w:=by
  intro deep4 a s L h;unfold zf.j1 at h;show K3 a s.w;refine H3 _ _ (rA 2 L fun a s L=>?_);subst h;exact wp_ret (zbs J L J)
 obtain ⟨k10,h⟩:=h;refine lpn (fun k11 a s=>∃(deep6:Int) (open7:Int) (quoted8:Bool) (i9:Int),Has N0 46 s0 a s [(3,(Pd.rep En.str r1)),(4,(Pi deep6)),(5,(Pi open7)),(6,(Pd.rep En.bool quoted8)),(7,(Pi i9))]∧zf.l1 r1 (zf.j1 r_) k11 deep6 open7 quoted8 i9) k10 ⟨0,0,false,0,L.kk,h⟩ ?_;rintro k11 a s ⟨deep6,open7,quoted8,i9,L,h⟩ KL12 hKL12;unfold zf.l1 at h;refine wp_seq_k fun K13 H13=>rA 4 L fun a s L=>?_;refine cn L h (fun h=>?_) fun h=>?_
 ·refine wp_skip (H13 _ _ ?_);refine wp_seq_k fun K14 H14=>wp_block (wp_seq_k fun K15 H15=>?_);obtain ⟨c16,h17,h⟩:=h;refine ra 4 (p1 h17) L fun a s L=>?_;have J19:∀(quoted18:Bool) (a:Act) (s:St),Has N0 46 s0 a s [(3,(Pd.rep En.str r1)),(4,(Pi deep6)),(5,(Pi open7)),(6,(Pd.rep En.bool quoted18)),(7,(Pi i9))]→((zf.j3 (zf.l1 r1 (zf.j1 r_) k11) r1 deep6 open7 i9) quoted18)→K15 a s.w:=by
   intro quoted18 a s L h;unfold zf.j3 at h;show K15 a s.w;refine H15 _ _ (wp_seq_k fun K20 H20=>?_);obtain ⟨c21,h22,h⟩:=h;refine ra 8 (p1 h22) L fun a s L=>?_;have J24:∀(open23:Int) (a:Act) (s:St),Has N0 46 s0 a s [(3,(Pd.rep En.str r1)),(4,(Pi deep6)),(5,(Pi open23)),(6,(Pd.rep En.bool quoted18)),(7,(Pi i9))]→((zf.j2 (zf.l1 r1 (zf.j1 r_) k11) r1 deep6 i9 quoted18) open23)→K20 a s.w:=by
    intro open23 a s L h;unfold zf.j2 at h;show K20 a s.w;refine H20 _ _ (wp_seq_k fun K25 H25=>?_);obtain ⟨c26,h27,h⟩:=h;refine ra 8 (p1 h27) L fun a s L=>?_;refine cn L h (fun h=>?_) fun h=>?_
    ·obtain ⟨h28,h⟩:=h;refine rg (sA 3 L fun a s L=>?_);refine en' (H25 _ _ ?_);refine rg (sA 4 L fun a s L=>?_);refine en' (H14 _ _ ?_);obtain ⟨h29,h⟩:=h;refine rg (sA 3 L fun a s L=>?_);refine en' ?_;exact hKL12 a s ⟨(max deep6 (open23-1)),(open23-1),quoted18,(i9+1),L.kk,h⟩
    ·refine wp_skip (H25 _ _ ?_);refine rg (sA 4 L fun a s L=>?_);refine en' (H14 _ _ ?_);obtain ⟨h30,h⟩:=h;refine rg (sA 3 L fun a s L=>?_);refine en' ?_;exact hKL12 a s ⟨(max deep6 open23),open23,quoted18,(i9+1),L.kk,h⟩
   refine cn L h (fun h=>?_) fun h=>?_
   ·obtain ⟨h31,h⟩:=h;refine rg (sA 3 L fun a s L=>?_);refine en' ?_;exact J24 (open7+1) a s (L.kk) h
   ·refine wp_skip ?_;exact J24 open7 a s (L.kk) h
  refine cn L h (fun h=>?_) fun h=>?_
  ·refine rg ?_;refine sA 3 L fun a s L=>?_;refine en' ?_;exact J19 (!quoted8) a s (L.kk) h
  ·refine wp_skip ?_;exact J19 quoted8 a s (L.kk) h
 ·refine wp_exit ?_;exact J5 deep6 a s (L.kk) h
theorem law06_PrintTells_ok {d_:SDesc} {a_:Cl} {r_:Bool} (h:zbx d_ a_ r_):Fn Tryd.prog 3 [(Pd.rep En.SDesc d_),(Pd.rep En.cls a_)] (Rq (Pd.rep En.bool r_)):=by
 unfold zbx at h;refine zbb Tryd.func3 J Tryd.ntmps3 (by rfl) (by simp) fun s0 a L=>?_;refine rA 3 L fun a s L=>?_;refine wp_seq_k fun K1 H1=>?_;obtain ⟨r2,h3,r4,h5,r6,h7,h⟩:=h;refine ra 12 (pp (zdj h3) (pp (fun hc_=>(ref04_Few_ok (h5 hc_))) (pp (fun hc_=>(zfq (h7 hc_))) trivial))) L fun a s L=>?_;refine cn L h (fun h=>?_) fun h=>?_
 ·obtain ⟨r8,h9,h⟩:=h;refine ra 2 (p1 (zdj h9)) L fun a s L=>?_;subst h;exact wp_ret (zbs J L J)
 ·refine wp_skip (H1 _ _ ?_);obtain ⟨r10,h11,r12,h13,r14,h15,r16,h17,r18,h19,r20,h21,h⟩:=h;refine wp_seq (rdx 19 (pp (zcu h11) (pp (zds h13) (pp (fun hc_=>(zb2 (h15 hc_))) (pp (fun hc_=>(zfl (h17 hc_))) (pp (fun hc_=>(zbk (h19 hc_))) (pp (fun hc_=>(zdg (h21 hc_))) trivial)))))) L fun a s L=>?_);refine sA 1 L fun a s L=>?_;refine es ?_;subst h;exact wp_ret (zbs J L J)
theorem dt {p:Prop} [Decidable p] (h:decide p=true):p:=of_decide_eq_true h
theorem df {p:Prop} [Decidable p] (h:decide p=false):¬ p:=of_decide_eq_false h
theorem upto {σ:Type} {P:Nat→σ→Int→Prop} (n:Nat) (I:Nat→σ→Prop)
  (hs:∀i s,i<n→I i s→(∀k,P (k+1) s (i:Int))∨∃s',I (i+1) s'∧∀k,P k s' ((i:Int)+1)→P (k+1) s (i:Int))
  (hx:∀s,I n s→∀k,P (k+1) s (n:Int)) (s:σ) (h:I 0 s):∃k,P k s 0:=by
 have:∀m i s,i+m=n→I i s→∃k,P k s (i:Int):=by
  intro m
  induction m with
  | zero=>intro i s hi hI;have:i=n:=by omega
          subst this;exact ⟨1,hx s hI 0⟩
  | succ m ih=>
   intro i s hi hI;rcases hs i s (by omega) hI with h | ⟨s',h1,h2⟩
   ·exact ⟨1,h 0⟩
   ·obtain ⟨k,hk⟩:=ih (i+1) s' (by omega) h1;exact ⟨k+1,h2 k (by simpa using hk)⟩
 simpa using this n 0 s (by omega) h
theorem run {σ:Type} {P:Nat→σ→Prop} (I:σ→Prop) (μ:σ→Nat) (h:∀s,I s→(∀k,P (k+1) s)∨∃s',I s'∧μ s' < μ s∧∀k,P k s'→P (k+1) s) (s:σ) (hI:I s):∃k,P k s:=by
 have:∀m s,μ s<m→I s→∃k,P k s:=by
  intro m
  induction m with
  | zero=>intro s hs;omega
  | succ m ih=>
   intro s hs hI;rcases h s hI with h1 | ⟨s',h1,h2,h3⟩
   ·exact ⟨1,h1 0⟩
   ·obtain ⟨k,hk⟩:=ih s' (by omega) h1;exact ⟨k+1,h3 k hk⟩
 exact this (μ s+1) s (by omega) hI
theorem zj {x:Int} (h1:-9223372036854775808≤x) (h2:x≤9223372036854775807):InR .i64 x:=inR_i64.2 ⟨h1,h2⟩
theorem zdk {α:Type} {xs:List α} {i:Nat}:at? xs (i:Int)=xs[i]?:=by
 unfold at?;rw [if_pos (by omega)];simp
theorem has_w {a:Cl} {n:Nat} (h:n<256):a.has n=(a.word (n / 64)).testBit (n % 64):=by
 rw [Cl.word_bit];simp [Nat.mod_lt,Nat.div_add_mod]
theorem setw_word {a:Cl} {i:Nat} {v:Int} (hv:v.toNat<2 ^ 64) (j:Nat) (hj:j<4):(a.setw (i:Int) v).word j=if j=i then v.toNat else a.word j:=by
 unfold Cl.setw;have hw:∀k,a.word k<2 ^ 64:=a.word_lt;have hb:∀(c:Prop) [Decidable c] (k:Nat),(if c then v.toNat else a.word k)<2 ^ 64:=fun c _ k=>by split <;> simp_all
 obtain ⟨h0,h1,h2,h3⟩:=Cl.ofWords_word (hb ((i:Int)=0) 0) (hb ((i:Int)=1) 1) (hb ((i:Int)=2) 2) (hb ((i:Int)=3) 3)
 match j,hj with
 | 0,_=>rw [h0];split <;> split <;> first | rfl | omega
 | 1,_=>rw [h1];split <;> split <;> first | rfl | omega
 | 2,_=>rw [h2];split <;> split <;> first | rfl | omega
 | 3,_=>rw [h3];split <;> split <;> first | rfl | omega
theorem shr_bit {w k:Nat} (hk:k<64):(andI (shrI (w:Int) (k:Int)) 1==1)=w.testBit k:=by
 unfold andI shrI;rw [show min ((k:Int)).toNat 64=k by simp;omega];have h:((w:Int) / 2 ^ k).toNat=w / 2 ^ k:=by
  rw [show ((2:Int) ^ k)=((2 ^ k:Nat):Int) by simp,← Int.natCast_ediv];exact Int.toNat_natCast _
 rw [h];simp only [Int.toNat_one,Nat.and_one_is_mod,Nat.testBit_eq_decide_div_mod_eq];have:=Nat.mod_two_eq_zero_or_one (w / 2 ^ k);rcases this with h | h <;> rw [h] <;> rfl
def Cl.row (f t:Int):Cl:=Cl.of fun n=>decide (f≤(n:Int))&&decide ((n:Int)≤t)
theorem has_row {f t:Int} {n:Nat} (h:n<256):(Cl.row f t).has n=(decide (f≤(n:Int))&&decide ((n:Int)≤t)):=Cl.of_has _ h
def Cl.count (a:Cl):Nat:=(List.range 256).countP a.has
theorem u8_of {c:Int} (h:InR .u8 c):∃n:Nat,n<256∧c=n:=by
 rw [inR_u8] at h;exact ⟨c.toNat,by omega,by omega⟩
def Cl.ofL (l:List Bool):Cl:=Cl.of fun n=>l.getD n false
theorem has_ofL {l:List Bool} {n:Nat} (h:n<256):(Cl.ofL l).has n=l.getD n false:=Cl.of_has _ h
theorem at_in {α:Type} {xs:List α} {i:Int} (h0:0≤i) (h1:i<(xs.length:Int)):∃x,at? xs i=some x∧x∈xs:=by
 refine ⟨xs[i.toNat]'(by omega), ?_,List.getElem_mem _⟩;unfold at?;rw [if_pos h0];exact List.getElem?_eq_getElem _
theorem at_nn {α:Type} {l:List α} {i:Int} {x:α} (h:at? l i=some x):∃k:Nat,i=(k:Int)∧l[k]?=some x:=by
 unfold at? at h;split at h
 ·exact ⟨i.toNat,by omega,h⟩
 ·cases h
theorem zc0 {α:Type} {d:List α} {i:Int} {n:α} (hn:at? d i=some n):0≤i∧i<(d.length:Int):=by
 obtain ⟨j,rfl,hj⟩:=at_nn hn;have:=(List.getElem?_eq_some_iff.1 hj).1;omega
theorem exl {ρ:Type} {γ:Sort _} {P:γ→ρ→Prop} (c:γ) (h:∃r,P c r):∃r,∃c,P c r:=let ⟨r,h⟩:=h;⟨r,c,h⟩
theorem zed {ρ:Type} {A:Prop} {B:ρ→Prop} (a:A) (h:∃r,B r):∃r,A∧B r:=let ⟨r,h⟩:=h;⟨r,a,h⟩
theorem pick {ρ:Type} [Inhabited ρ] {b:Bool} {X Y:ρ→Prop} (h1:b=true→∃r,X r) (h2:b=false→∃r,Y r):∃r,(b=true→X r)∧(b=false→Y r):=by
 cases b
 ·obtain ⟨r,h⟩:=h2 rfl;exact ⟨r,(fun h=>by cases h),fun _=>h⟩
 ·obtain ⟨r,h⟩:=h1 rfl;exact ⟨r,fun _=>h,(fun h=>by cases h)⟩
def sumT (l:List SNode):Nat:=(l.map fun n=>n.2.2.2.2.2.2.length).sum
theorem sumT_le {l:List SNode} (h:∀n∈l,n.2.2.2.2.2.2.length≤140737488351232):sumT l≤l.length*140737488351232:=by
 induction l with
 | nil=>simp [sumT]
 | cons x l ih=>
  have h1:=h x (by simp);have h2:=ih fun n hn=>h n (by simp [hn]);simp only [sumT,List.map_cons,List.sum_cons,List.length_cons] at h2 ⊢;omega
theorem few_ex {d:List SNode} (ht:∀n∈d,n.2.2.2.2.2.2.length≤140737488351232):∃r,zz d r∧(r=true→d.length≤100):=by
 refine ⟨decide ((d.length:Int)≤100)&&decide (((sumT (d.take (min d.length 200)):Nat):Int)≤2000), ?_,fun h=>?_⟩
 ·refine upto (P:=fun k (s:Int) v=>zz.l1 d _ k s v) (min d.length 200) (fun i s=>s=((sumT (d.take i):Nat):Int)) ?_ ?_ _ (by simp [sumT])
  ·rintro i s hi rfl;have hd:i<d.length:=by omega
   have h1:=sumT_le (l:=d.take i) fun n hn=>ht n (List.mem_of_mem_take hn);have h2:=ht _ (List.getElem_mem hd);have h3:(d.take i).length=i:=by simp;omega
   rw [h3] at h1;have h4:i*140737488351232≤200*140737488351232:=Nat.mul_le_mul_right _ (by omega);have e:sumT (d.take (i+1))=sumT (d.take i)+d[i].2.2.2.2.2.2.length:=by
    unfold sumT;rw [List.take_succ_eq_append_getElem hd,List.map_append,List.sum_append];simp only [List.map_cons,List.map_nil,List.sum_cons,List.sum_nil,Nat.add_zero]
   refine .inr ⟨_,rfl,fun k h=>⟨true,by simp;omega,fun _=>⟨d[i],by rw [zdk];simp [hd],zj (by omega) (by omega),zj (by omega) (by omega), ?_⟩,(fun h=>by cases h)⟩⟩;rw [e] at h;simpa using h
  ·rintro s rfl k;exact ⟨false,by simp;omega,(fun h=>by cases h),fun _=>⟨_,rfl,rfl⟩⟩
 ·simp only [Bool.and_eq_true,decide_eq_true_eq] at h;omega
theorem byte_in {s:Str} {i:Int} (h0:0≤i) (h1:i<(s.length:Int)):∃c,zcz s i=some c:=by
 obtain ⟨x,hx,_⟩:=at_in h0 h1;exact ⟨_,by unfold zcz;rw [hx];rfl⟩
theorem in_ex (s:Str) {i:Int} (f t:Int) (h0:0≤i):∃r,zbv s i f t r:=by
 by_cases h1:i<(s.length:Int)
 ·obtain ⟨c,hc⟩:=byte_in h0 h1;exact ⟨_,c,fun _=>hc,_,rfl,c,fun _=>hc,rfl⟩
 ·exact ⟨_,0,fun h=>absurd (dt h) h1,_,rfl,0,fun h=>absurd h (by simp [h1]),rfl⟩
theorem utf8_ex {s:Str} (hl:s.length≤140737488351232):∃r,zh s r:=by
 have key:∀(m:Nat) (i:Int),0≤i→(s.length:Int)+4-i≤m→i≤(s.length:Int)+4→∃q:Bool × Nat,zh.l1 s q.1 (zh.j1 q.1) q.2 i:=by
  intro m
  induction m with
  | zero=>
   intro i h0 h1 h2;exact ⟨(true,1),fun h=>absurd (dt h) (by omega),fun _=>rfl⟩
  | succ m ih=>
   intro i h0 h1 h2
   suffices h:∃q:Bool × Nat,zh.l1 s q.1 (zh.j1 q.1) (q.2+1) i by
    obtain ⟨q,hq⟩:=h;exact ⟨(q.1,q.2+1),hq⟩
   unfold zh.l1;refine pick (fun hd=>?_) (fun hd=>⟨(true,0),rfl⟩);have hlt:=dt hd;obtain ⟨c,hc⟩:=byte_in h0 hlt;obtain ⟨r17,h17⟩:=in_ex s (i:=i+1) 128 191 (by omega);obtain ⟨r21,h21⟩:=in_ex s (i:=i+2) 128 191 (by omega);obtain ⟨r25,h25⟩:=in_ex s (i:=i+3) 128 191 (by omega);obtain ⟨r35,h35⟩:=in_ex s (i:=i+1) 160 191 (by omega);obtain ⟨r44,h44⟩:=in_ex s (i:=i+1) 128 159 (by omega);obtain ⟨r49,h49⟩:=in_ex s (i:=i+1) 144 191 (by omega);obtain ⟨r58,h58⟩:=in_ex s (i:=i+1) 128 143 (by omega);have i1:InR .i64 (i+1):=zj (by omega) (by omega);have i2:InR .i64 (i+2):=zj (by omega) (by omega);have i3:InR .i64 (i+3):=zj (by omega) (by omega);have i4:InR .i64 (i+4):=zj (by omega) (by omega);have g1:=ih (i+1) (by omega) (by omega) (by omega);have g2:=ih (i+2) (by omega) (by omega) (by omega);have g3:=ih (i+3) (by omega) (by omega) (by omega);have g4:=ih (i+4) (by omega) (by omega) (by omega);refine exl c (zed hc (zed i1 (exl r17 (zed h17 (zed i2 (exl r21 (zed h21 (zed i3 (exl r25 (zed h25 (pick (fun _=>zed i1 g1) (fun _=>?_))))))))))));refine exl _ (zed rfl (pick (fun _=>zed i2 g2) (fun _=>?_)));refine zed (fun _=>i1) (exl r35 (zed (fun _=>h35) (pick (fun _=>zed i3 g3) (fun _=>?_))));refine exl _ (zed rfl (pick (fun _=>zed i3 g3) (fun _=>?_)));refine zed (fun _=>i1) (exl r44 (zed (fun _=>h44) (pick (fun _=>zed i3 g3) (fun _=>?_))));refine zed (fun _=>i1) (exl r49 (zed (fun _=>h49) (pick (fun _=>zed i4 g4) (fun _=>?_))));refine exl _ (zed rfl (pick (fun _=>zed i4 g4) (fun _=>?_)));refine zed (fun _=>i1) (exl r58 (zed (fun _=>h58) (pick (fun _=>zed i4 g4) (fun _=>?_))))
   exact ⟨(false,0),rfl⟩
 obtain ⟨q,hq⟩:=key (s.length+4) 0 (by omega) (by omega) (by omega);exact ⟨q.1,q.2,hq⟩
theorem text_ex {s:Str} (hl:s.length≤140737488351232):∃r,zr s r∧(r=true→s≠[]∧∀b∈s,b≠34):=by
 obtain ⟨u,hu⟩:=utf8_ex hl;have tne:∀u:Bool,(decide (0<(s.length:Int))&&u)=true→s≠[]:=fun u h e=>by subst e;simp at h
 have key:∀(m:Nat) (i:Nat),s.length-i≤m→i≤s.length→(∀b∈s.take i,b≠34)→∃q:Bool × Nat,zr.l1 s q.1 (zr.j1 s q.1) q.2 (i:Int)∧(q.1=true→s≠[]∧∀b∈s,b≠34):=by
  intro m
  induction m with
  | zero=>
   intro i h1 h2 h3;rw [List.take_of_length_le (by omega)] at h3;exact ⟨(decide (0<(s.length:Int))&&u,1),⟨fun h=>absurd (dt h) (by omega),fun _=>⟨u,fun _=>hu,rfl⟩⟩,fun h=>⟨tne u h,h3⟩⟩
  | succ m ih=>
   intro i h1 h2 h3
   by_cases hlt:i<s.length
   ·have hat:at? s (i:Int)=some s[i]:=by rw [zdk];exact List.getElem?_eq_getElem hlt
    have hc:zcz s (i:Int)=some (s[i].toNat:Int):=by unfold zcz;rw [hat];rfl
    by_cases h34:(s[i].toNat:Int)=34
    ·exact ⟨(false,1),⟨fun _=>⟨_,hc,fun _=>rfl,fun h=>by simp [h34] at h⟩,fun h=>absurd (by omega) (df h)⟩,(fun h=>by cases h)⟩
    ·obtain ⟨q,hq,hq2⟩:=ih (i+1) (by omega) (by omega) (fun b hb=>by
      rw [List.take_succ_eq_append_getElem hlt,List.mem_append,List.mem_singleton] at hb;rcases hb with hb | rfl
      ·exact h3 b hb
      ·intro e;rw [e] at h34;exact h34 (by decide))
     exact ⟨(q.1,q.2+1),⟨fun _=>⟨_,hc,fun h=>by simp at h;exact absurd h (by omega),fun _=>⟨zj (by omega) (by omega),hq⟩⟩,fun h=>absurd (by omega) (df h)⟩,hq2⟩
   ·rw [List.take_of_length_le (by omega)] at h3;exact ⟨(decide (0<(s.length:Int))&&u,1),⟨fun h=>absurd (dt h) (by omega),fun _=>⟨u,fun _=>hu,rfl⟩⟩,fun h=>⟨tne u h,h3⟩⟩
 obtain ⟨q,hq,hq2⟩:=key s.length 0 (by omega) (by omega) (by simp);exact ⟨q.1,⟨q.2,hq⟩,hq2⟩
inductive Tr (l:List SNode):Int→Int→Prop
 | leaf {i:Int} {e:SNode} (he:at? l i=some e) (hk:e.1=1∨e.1=2∨e.1=3) (hx:e.1=3→e.2.2.2.2.2.2≠[]∧∀b∈e.2.2.2.2.2.2,b≠34) (h0:e.2.1=0∧e.2.2.1=0):Tr l i i
 | one {f i:Int} {e:SNode} (he:at? l i=some e) (hk:e.1=6∨e.1=7∨e.1=8∨e.1=9) (ha:e.2.1=i-1) (hb:e.2.2.1=0) (hr:e.1=7→0≤e.2.2.2.1∧e.2.2.2.1≤e.2.2.2.2.1∧e.2.2.2.2.1≤255) (h:Tr l f (i-1)):Tr l f i
 | two {f p i:Int} {e:SNode} (he:at? l i=some e) (hk:e.1=4∨e.1=5) (ha:e.2.1=p-1) (hb:e.2.2.1=i-1) (h1:Tr l p (i-1)) (h2:Tr l f (p-1)):Tr l f i
theorem Tr.le {l:List SNode} {f i:Int} (h:Tr l f i):0≤f∧f≤i:=by
 induction h with
 | leaf he _ _ _=>exact ⟨(zc0 he).1,Int.le_refl _⟩
 | one _ _ _ _ _ _ ih=>omega
 | two _ _ _ _ _ _ i1 i2=>omega
theorem Tr.lt {l:List SNode} {f i:Int} (h:Tr l f i):i<(l.length:Int):=by
 cases h with
 | leaf he _ _ _=>exact (zc0 he).2
 | one he _ _ _ _ _=>exact (zc0 he).2
 | two he _ _ _ _ _=>exact (zc0 he).2
theorem Tr.sub {l:List SNode} {f i:Int} (h:Tr l f i):∀k,f≤k→k≤i→∃g,Tr l g k∧f≤g:=by
 induction h with
 | leaf he hk hx h0=>
  rename_i i e
  intro k h1 h2;obtain rfl:k=i:=by omega
  exact ⟨k,.leaf he hk hx h0,Int.le_refl _⟩
 | one he hk ha hb hr h ih=>
  rename_i f i e
  intro k h1 h2
  by_cases hki:k=i
  ·subst hki;exact ⟨f,.one he hk ha hb hr h,Int.le_refl _⟩
  ·exact ih k h1 (by omega)
 | two he hk ha hb h1 h2 i1 i2=>
  rename_i f p i e
  intro k k1 k2;have l1:=h1.le;have l2:=h2.le
  by_cases hki:k=i
  ·subst hki;exact ⟨f,.two he hk ha hb h1 h2,Int.le_refl _⟩
  ·by_cases hkp:p≤k
   ·obtain ⟨g,g1,g2⟩:=i1 k hkp (by omega);exact ⟨g,g1,by omega⟩
   ·exact i2 k k1 (by omega)
def zd3 (l:List SNode) (i r:Int):Prop:=r = -1∨Tr l r i
theorem first_ex {l:List SNode} (hl:l.length≤1000) (ht:∀n∈l,n.2.2.2.2.2.2.length≤140737488351232):∀(m:Nat) (i:Int),i<(m:Int)→-1≤i→i<(l.length:Int)→∃r,zb.n (m+1) l i r∧zd3 l i r:=by
 intro m
 induction m with
 | zero=>
  intro i h1 h2 h3;exact ⟨-1,⟨fun _=>rfl,fun h=>absurd (by omega) (df h)⟩,.inl rfl⟩
 | succ m ih=>
  intro i h1 h2 h3
  by_cases h0:i<0
  ·exact ⟨-1,⟨fun _=>rfl,fun h=>absurd h0 (df h)⟩,.inl rfl⟩
  ·obtain ⟨e,he,hm⟩:=at_in (xs:=l) (i:=i) (by omega) h3;have i1:InR .i64 (i-1):=zj (by omega) (by omega);obtain ⟨p,hp,hpo⟩:=ih (i-1) (by omega) (by omega) (by omega);have one:∀w:SNode,(e=w→w.2.1=i-1∧(w.1=6∨w.1=7∨w.1=8∨w.1=9)∧(w.1=7→0≤w.2.2.2.1∧w.2.2.2.1≤w.2.2.2.2.1∧w.2.2.2.2.1≤255)∧w.2.2.1=0)→∃r,zb.j1 (zb.n (m+1)) l i r e w∧zd3 l i r:=by
    intro w hw
    by_cases hew:e=w
    ·refine ⟨p,⟨i1,p,hp,fun h=>by simp [hew] at h,fun _=>rfl⟩, ?_⟩;rcases hpo with rfl | p0
     ·exact .inl rfl
     ·obtain ⟨w1,w2,w3,w4⟩:=hw hew;exact .inr (.one he (by rw [hew];exact w2) (by rw [hew];exact w1) (by rw [hew];exact w4) (by rw [hew];exact w3) p0)
    ·exact ⟨-1,⟨i1,p,hp,fun _=>rfl,fun h=>by simp at h;exact absurd h hew⟩,.inl rfl⟩
   have two:(e.1=4∨e.1=5)→∃r,zb.j2 (zb.n (m+1)) l i r e true∧zd3 l i r:=by
    intro hk
    by_cases hp0:p<0
    ·exact ⟨-1,⟨fun _=>⟨i1,i1,p,hp,fun _=>rfl,fun h=>absurd hp0 (df h)⟩,(fun h=>by cases h)⟩,.inl rfl⟩
    ·have htr:Tr l p (i-1):=by
      rcases hpo with rfl | h
      ·omega
      ·exact h
     have p1:=htr.le;obtain ⟨q,hq,hqo⟩:=ih (p-1) (by omega) (by omega) (by omega);have j1:InR .i64 (p-1):=zj (by omega) (by omega)
     by_cases hew:e=(e.1,p-1,i-1,0,0,(0#256),([]:Str))
     ·refine ⟨q,⟨fun _=>⟨i1,i1,p,hp,fun h=>absurd (dt h) hp0,fun _=>⟨j1,j1,q,hq,false, ?_,(fun h=>by cases h),fun _=>rfl⟩⟩,(fun h=>by cases h)⟩, ?_⟩
      ·have:(e != (e.1,p-1,i-1,0,0,(0#256),([]:Str)))=false:=by rw [← hew];simp
       exact this.symm
      ·rcases hqo with rfl | q0
       ·exact .inl rfl
       ·exact .inr (.two he hk (by rw [hew]) (by rw [hew]) htr q0)
     ·refine ⟨-1,⟨fun _=>⟨i1,i1,p,hp,fun h=>absurd (dt h) hp0,fun _=>⟨j1,j1,q,hq,true, ?_,fun _=>rfl,(fun h=>by cases h)⟩⟩,(fun h=>by cases h)⟩,.inl rfl⟩;exact (bne_iff_ne.2 hew).symm
   have three:(e.1=6∨e.1=7∨e.1=8∨e.1=9)→∃r,zb.j3 (zb.n (m+1)) l i r e true∧zd3 l i r:=by
    intro hk
    by_cases h7:e.1=7
    ·by_cases hb:((decide (e.2.2.2.1<0))||(decide (e.2.2.2.2.1<e.2.2.2.1))||(decide (255<e.2.2.2.2.1)))=true
     ·exact ⟨-1,⟨fun _=>⟨i1,fun _=>⟨_,rfl,fun _=>rfl,fun h=>by rw [hb] at h;cases h⟩,fun h=>by simp [h7] at h⟩,(fun h=>by cases h)⟩,.inl rfl⟩
     ·obtain ⟨r,hr1,hr2⟩:=one (e.1,i-1,0,e.2.2.2.1,e.2.2.2.2.1,(0#256),([]:Str)) fun _=>⟨rfl,hk,fun _=>by
       simp only [Bool.or_eq_true,decide_eq_true_eq,not_or] at hb;exact ⟨by show (0:Int)≤e.2.2.2.1;omega,by show e.2.2.2.1≤e.2.2.2.2.1;omega,by show e.2.2.2.2.1≤255;omega⟩,rfl⟩
      exact ⟨r,⟨fun _=>⟨i1,fun _=>⟨_,rfl,fun h=>absurd h hb,fun _=>hr1⟩,fun h=>by simp [h7] at h⟩,(fun h=>by cases h)⟩,hr2⟩
    ·obtain ⟨r,hr1,hr2⟩:=one (e.1,i-1,0,0,0,(0#256),([]:Str)) fun _=>⟨rfl,hk,fun h=>absurd h h7,rfl⟩;exact ⟨r,⟨fun _=>⟨i1,fun h=>by simp at h;exact absurd h h7,fun _=>hr1⟩,(fun h=>by cases h)⟩,hr2⟩
   have ne:∀{a b:Int},a≠b→(a==b)=true→False:=fun h k=>h (eq_of_beq k);have last:∀b:Bool,(b=true↔e.1=9)→e.1≠6→e.1≠7→e.1≠8→∃r,zb.j3 (zb.n (m+1)) l i r e b∧zd3 l i r:=by
    intro b hb n6 n7 n8;cases b
    ·have n9:e.1≠9:=fun h=>by have:=hb.2 h;cases this
     by_cases h4:e.1=4
     ·obtain ⟨r,hr1,hr2⟩:=two (.inl h4);exact ⟨r,⟨(fun h=>by cases h),fun _=>⟨fun h=>by rw [h];exact hr1,fun h=>by simp [h4] at h⟩⟩,hr2⟩
     ·by_cases h5:e.1=5
      ·obtain ⟨r,hr1,hr2⟩:=two (.inr h5);have e5:(e.1==5)=true:=by simp [h5]
       exact ⟨r,⟨(fun h=>by cases h),fun _=>⟨fun h=>by simp at h;exact absurd h h4,fun _=>by rw [e5];exact hr1⟩⟩,hr2⟩
      ·have e5:(e.1==5)=false:=by simp [h5]
       exact ⟨-1,⟨(fun h=>by cases h),fun _=>⟨fun h=>by simp at h;exact absurd h h4,fun _=>by rw [e5];exact ⟨(fun h=>by cases h),fun _=>rfl⟩⟩⟩,.inl rfl⟩
    ·exact three (.inr (.inr (.inr (hb.1 rfl))))
   suffices h:∃r,(∃e6:SNode,at? l i=some e6∧_)∧zd3 l i r by
    obtain ⟨r,hr,ho⟩:=h;exact ⟨r,⟨fun h=>absurd (dt h) h0,fun _=>hr⟩,ho⟩
   by_cases k1:e.1=1
   ·by_cases hw:e=(e.1,0,0,0,0,(0#256),([]:Str))
    ·exact ⟨i,⟨e,he,fun _=>⟨fun h=>by rw [← hw] at h;simp at h,fun _=>rfl⟩,fun h=>by simp [k1] at h⟩,.inr (.leaf he (.inl k1) (fun h=>by omega) ⟨by rw [hw],by rw [hw]⟩)⟩
    ·exact ⟨-1,⟨e,he,fun _=>⟨fun _=>rfl,fun h=>by simp at h;exact absurd h hw⟩,fun h=>by simp [k1] at h⟩,.inl rfl⟩
   ·by_cases k2:e.1=2
    ·by_cases hw:e=(e.1,0,0,0,0,e.2.2.2.2.2.1,([]:Str))
     ·exact ⟨i,⟨e,he,fun h=>(ne k1 h).elim,fun _=>⟨fun _=>⟨false,by rw [← hw];simp,(fun h=>by cases h),fun _=>rfl⟩,fun h=>by simp [k2] at h⟩⟩,.inr (.leaf he (.inr (.inl k2)) (fun h=>by omega) ⟨by rw [hw],by rw [hw]⟩)⟩
     ·exact ⟨-1,⟨e,he,fun h=>(ne k1 h).elim,fun _=>⟨fun _=>⟨true,(bne_iff_ne.2 hw).symm,fun _=>rfl,(fun h=>by cases h)⟩,fun h=>by simp [k2] at h⟩⟩,.inl rfl⟩
    ·by_cases k3:e.1=3
     ·obtain ⟨t,htx,htn⟩:=text_ex (ht e hm);cases t
      ·exact ⟨-1,⟨e,he,fun h=>(ne k1 h).elim,fun _=>⟨fun h=>(ne k2 h).elim,fun _=>⟨fun _=>⟨false,htx,fun _=>rfl,(fun h=>by cases h)⟩,fun h=>by simp [k3] at h⟩⟩⟩,.inl rfl⟩
      ·by_cases hw:e=(e.1,0,0,0,0,(0#256),e.2.2.2.2.2.2)
       ·exact ⟨i,⟨e,he,fun h=>(ne k1 h).elim,fun _=>⟨fun h=>(ne k2 h).elim,fun _=>⟨fun _=>⟨true,htx,(fun h=>by cases h),fun _=>⟨false,by rw [← hw];simp,(fun h=>by cases h),fun _=>rfl⟩⟩,fun h=>by simp [k3] at h⟩⟩⟩,.inr (.leaf he (.inr (.inr k3)) (fun _=>htn rfl) ⟨by rw [hw],by rw [hw]⟩)⟩
       ·exact ⟨-1,⟨e,he,fun h=>(ne k1 h).elim,fun _=>⟨fun h=>(ne k2 h).elim,fun _=>⟨fun _=>⟨true,htx,(fun h=>by cases h),fun _=>⟨true,(bne_iff_ne.2 hw).symm,fun _=>rfl,(fun h=>by cases h)⟩⟩,fun h=>by simp [k3] at h⟩⟩⟩,.inl rfl⟩
     ·by_cases k6:e.1=6
      ·obtain ⟨r,hr1,hr2⟩:=three (.inl k6);exact ⟨r,⟨e,he,fun h=>(ne k1 h).elim,fun _=>⟨fun h=>(ne k2 h).elim,fun _=>⟨fun h=>(ne k3 h).elim,fun _=>⟨fun h=>by rw [h];exact hr1,fun h=>by simp [k6] at h⟩⟩⟩⟩,hr2⟩
      ·by_cases k7:e.1=7
       ·obtain ⟨r,hr1,hr2⟩:=three (.inr (.inl k7));exact ⟨r,⟨e,he,fun h=>(ne k1 h).elim,fun _=>⟨fun h=>(ne k2 h).elim,fun _=>⟨fun h=>(ne k3 h).elim,fun _=>⟨fun h=>(ne k6 h).elim,fun _=>⟨fun h=>by rw [h];exact hr1,fun h=>by simp [k7] at h⟩⟩⟩⟩⟩,hr2⟩
       ·by_cases k8:e.1=8
        ·obtain ⟨r,hr1,hr2⟩:=three (.inr (.inr (.inl k8)));exact ⟨r,⟨e,he,fun h=>(ne k1 h).elim,fun _=>⟨fun h=>(ne k2 h).elim,fun _=>⟨fun h=>(ne k3 h).elim,fun _=>⟨fun h=>(ne k6 h).elim,fun _=>⟨fun h=>(ne k7 h).elim,fun _=>⟨fun h=>by rw [h];exact hr1,fun h=>by simp [k8] at h⟩⟩⟩⟩⟩⟩,hr2⟩
        ·obtain ⟨r,hr1,hr2⟩:=last (e.1==9) beq_iff_eq k6 k7 k8;exact ⟨r,⟨e,he,fun h=>(ne k1 h).elim,fun _=>⟨fun h=>(ne k2 h).elim,fun _=>⟨fun h=>(ne k3 h).elim,fun _=>⟨fun h=>(ne k6 h).elim,fun _=>⟨fun h=>(ne k7 h).elim,fun _=>⟨fun h=>(ne k8 h).elim,fun _=>hr1⟩⟩⟩⟩⟩⟩,hr2⟩
theorem form_ex {d:List SNode} (hl:d.length≤1000) (ht:∀n∈d,n.2.2.2.2.2.2.length≤140737488351232):∃r,zco d r∧(r=true→Tr d 0 ((d.length:Int)-1)):=by
 obtain ⟨r,hr,ho⟩:=first_ex hl ht d.length ((d.length:Int)-1) (by omega) (by omega) (by omega);refine ⟨_,⟨fun _=>zj (by omega) (by omega),r,fun _=>⟨_,hr⟩,rfl⟩,fun h=>?_⟩;simp only [Bool.and_eq_true,decide_eq_true_eq,beq_iff_eq] at h;rcases ho with rfl | h2
 ·omega
 ·rw [h.2] at h2;exact h2
theorem Tr.at {d:List SNode} (h:Tr d 0 ((d.length:Int)-1)) {i:Int} {n:SNode} (hn:at? d i=some n):∃g,Tr d g i:=by
 have hb:=zc0 hn;obtain ⟨g,hg,_⟩:=h.sub i hb.1 (by omega);exact ⟨g,hg⟩
def movN (c:Int) (n:SNode):SNode:=(n.1,if 4≤n.1 then n.2.1+c else n.2.1,if n.1=4∨n.1=5 then n.2.2.1+c else n.2.2.1,n.2.2.2.1,n.2.2.2.2.1,n.2.2.2.2.2.1,n.2.2.2.2.2.2)
def zfc (c:Int) (l:List SNode):List SNode:=l.map (movN c)
theorem zck (c:Int) (l:List SNode):(zfc c l).length=l.length:=List.length_map ..
theorem moved_in {l:List SNode} {c:Int} (hl:l.length≤1000) (hr:∀n∈l,InR .i64 (n.2.1+c)∧InR .i64 (n.2.2.1+c)):ze l c (zfc c l):=by
 refine upto (P:=fun k (o:List SNode) v=>ze.l1 l c _ k o v) l.length (fun i o=>o=zfc c (l.take i)) ?_ ?_ [] (by simp [zfc])
 ·rintro i o hi rfl;have hat:at? l (i:Int)=some l[i]:=by rw [zdk];simp [hi]
  obtain ⟨r1,r2⟩:=hr _ (List.getElem_mem hi);have e:zfc c (l.take (i+1))=zfc c (l.take i)++[movN c l[i]]:=by
   unfold zfc;rw [List.take_succ_eq_append_getElem hi,List.map_append];rfl
  have hll:(zfc c (l.take i)).length=i:=by rw [zck];simp;omega
  refine .inr ⟨_,rfl,fun k hk=>⟨fun _=>⟨l[i],hat, ?_⟩,fun h=>absurd (by omega) (df h)⟩⟩;rw [e] at hk;have last:∀w:SNode,w=movN c l[i]→ze.j2 (ze.l1 l c (ze.j1 (zfc c l)) k) (zfc c (l.take i)) (i:Int) w:=by
   rintro w rfl;exact ⟨by rw [hll];simp;omega,zj (by omega) (by omega),hk⟩
  generalize l[i]=n at *;obtain ⟨k0,a,b,lo,hi2,cl,tx⟩:=n;simp only at r1 r2;refine ⟨fun h4=>⟨r1,fun h5=>⟨r2,last _ ?_⟩,fun h5=>last _ ?_⟩,fun h4=>⟨fun h5=>?_,fun h5=>last _ ?_⟩⟩
  ·have:=dt h4;simp only at this;simp only [Bool.or_eq_true,beq_iff_eq] at h5;simp only [movN,if_pos this,if_pos h5]
  ·have:=dt h4;simp only at this;simp only [Bool.or_eq_false_iff,beq_eq_false_iff_ne] at h5;have h5':¬ (k0=4∨k0=5):=by omega
   simp only [movN,if_pos this,if_neg h5']
  ·exfalso;have:=df h4;simp only at this;simp only [Bool.or_eq_true,beq_iff_eq] at h5;omega
  ·have:=df h4;simp only at this;have h5':¬ (k0=4∨k0=5):=by omega
   simp only [movN,if_neg this,if_neg h5']
 ·rintro o rfl k;refine ⟨fun h=>absurd (dt h) (by omega),fun _=>?_⟩;show zfc c l=zfc c (l.take l.length);rw [List.take_length]
theorem movN_zero (n:SNode):movN 0 n=n:=by
 obtain ⟨k,a,b,r⟩:=n;simp [movN]
theorem movL_zero (l:List SNode):zfc 0 l=l:=by
 unfold zfc;rw [show movN 0=id from funext movN_zero,List.map_id]
def zeu (k:Int) (a b:List SNode):List SNode:=(a++zfc (a.length:Int) b)++[(k,(a.length:Int)-1,((a.length:Int)+(b.length:Int))-1,0,0,(0#256),([]:Str))]
def zfg (k:Int) (a:List SNode):List SNode:=a++[(k,(a.length:Int)-1,0,0,0,(0#256),([]:Str))]
structure Sma (d:List SNode):Prop where
 a:∀n∈d,0≤n.2.1∧n.2.1≤(d.length:Int)
 b:∀n∈d,0≤n.2.2.1∧n.2.2.1≤(d.length:Int)
theorem Tr.parts {l:List SNode} {f i:Int} (h:Tr l f i) {n:SNode} (hn:at? l i=some n):(0≤n.2.1∧n.2.1≤i)∧(0≤n.2.2.1∧n.2.2.1≤i):=by
 have hb:=zc0 hn;cases h with
 | leaf he hk hx h0=>rw [hn] at he;cases he;omega
 | one he hk ha hb hr h=>rw [hn] at he;cases he;have:=h.le;omega
 | two he hk ha hb h1 h2=>rw [hn] at he;cases he;have:=h1.le;have:=h2.le;omega
theorem mem_at {α:Type} {l:List α} {x:α} (h:x∈l):∃i:Int,at? l i=some x:=by
 obtain ⟨i,hi,e⟩:=List.mem_iff_getElem.1 h;exact ⟨(i:Int),by rw [zdk];simp [hi,e]⟩
theorem Tr.sma {d:List SNode} (h:Tr d 0 ((d.length:Int)-1)):Sma d:=by
 constructor
 all_goals
  intro n hn;obtain ⟨i,hi⟩:=mem_at hn;obtain ⟨g,hg⟩:=h.at hi;have:=hg.parts hi;have:=zc0 hi;omega
theorem zft {d:List SNode} (h:Tr d 0 ((d.length:Int)-1)) (hl:d.length≤1000) {c:Int} (h0:0≤c) (h1:c≤1000):ze d c (zfc c d):=
 moved_in hl fun n hn=>by
  have:=h.sma.a n hn;have:=h.sma.b n hn;exact ⟨zj (by omega) (by omega),zj (by omega) (by omega)⟩
theorem Pair_in {k:Int} {a b:List SNode} (ha:Tr a 0 ((a.length:Int)-1)) (hb:Tr b 0 ((b.length:Int)-1)) (la:a.length≤1000) (lb:b.length≤1000):zdc k a b (zeu k a b):=by
 refine ⟨_,zft ha la (Int.le_refl 0) (by omega),_,zft hb lb (c:=(a.length:Int)) (by omega) (by omega),by rw [zck,zck];omega,zj (by omega) (by omega),zj (by omega) (by omega),zj (by omega) (by omega),by rw [List.length_append,zck,zck];simp;omega, ?_⟩;rw [movL_zero];rfl
theorem Wrap_in {k:Int} {a:List SNode} (ha:Tr a 0 ((a.length:Int)-1)) (la:a.length≤1000):zcn k 0 0 a (zfg k a):=by
 refine ⟨_,zft ha la (Int.le_refl 0) (by omega),zj (by omega) (by omega),by rw [zck];simp;omega, ?_⟩;rw [movL_zero];rfl
structure Emb (l l':List SNode) (c:Int):Prop where
 nn:0≤c
 at':∀i n,at? l i=some n→at? l' (i+c)=some (movN c n)
theorem Tr.emb {l l':List SNode} {c:Int} (h:Emb l l' c) {f i:Int} (t:Tr l f i):Tr l' (f+c) (i+c):=by
 induction t with
 | leaf he hk hx h0=>
  rename_i i e
  have e1:movN c e=e:=by
   obtain ⟨k,a,b,r⟩:=e;simp only at hk;simp only [movN,if_neg (show ¬ 4≤k by omega),if_neg (show ¬ (k=4∨k=5) by omega)]
  exact .leaf (e1 ▸ h.at' _ _ he) hk hx h0
 | one he hk ha hb hr t ih=>
  rename_i f i e
  refine .one (h.at' _ _ he) hk ?_ ?_ hr (by have e:i-1+c=i+c-1:=by omega
                                             rw [← e];exact ih)
  ·simp only [movN];rw [if_pos (by omega)];omega
  ·simp only [movN];rw [if_neg (by omega)];exact hb
 | two he hk ha hb t1 t2 i1 i2=>
  rename_i f p i e
  refine .two (p:=p+c) (h.at' _ _ he) hk ?_ ?_ (by have e:i-1+c=i+c-1:=by omega
                                                   rw [← e];exact i1) (by have e:p-1+c=p+c-1:=by omega
                                                                          rw [← e];exact i2)
  ·simp only [movN];rw [if_pos (by omega)];omega
  ·simp only [movN];rw [if_pos (by omega)];omega
theorem at_left {α:Type} {a b:List α} {i:Int} {x:α} (h:at? a i=some x):at? (a++b) i=some x:=by
 obtain ⟨k,rfl,hk⟩:=at_nn h;rw [zdk,List.getElem?_append_left (List.getElem?_eq_some_iff.1 hk).1];exact hk
theorem zfw {α:Type} {a b:List α} {i:Int} {x:α} (h:at? b i=some x):at? (a++b) (i+(a.length:Int))=some x:=by
 obtain ⟨k,rfl,hk⟩:=at_nn h;have e:(k:Int)+(a.length:Int)=((k+a.length:Nat):Int):=by omega
 rw [e,zdk,List.getElem?_append_right (by omega),Nat.add_sub_cancel];exact hk
theorem at_movL {c:Int} {l:List SNode} {i:Int} {n:SNode} (h:at? l i=some n):at? (zfc c l) i=some (movN c n):=by
 obtain ⟨k,rfl,hk⟩:=at_nn h;rw [zdk];unfold zfc;rw [List.getElem?_map,hk];rfl
theorem emb_left {a:List SNode} (r:List SNode):Emb a (a++r) 0:=⟨Int.le_refl _,fun i n h=>by rw [movN_zero,Int.add_zero];exact at_left h⟩
theorem emb_mid {a b r:List SNode}:Emb b ((a++zfc (a.length:Int) b)++r) (a.length:Int):=⟨by omega,fun i n h=>at_left (zfw (at_movL h))⟩
theorem pair_len (k:Int) (a b:List SNode):(zeu k a b).length=a.length+b.length+1:=by simp [zeu,zck];omega
theorem wrap_len (k:Int) (a:List SNode):(zfg k a).length=a.length+1:=by simp [zfg]
theorem pair_root (k:Int) (a b:List SNode):at? (zeu k a b) ((a.length:Int)+(b.length:Int))=some (k,(a.length:Int)-1,((a.length:Int)+(b.length:Int))-1,0,0,(0#256),([]:Str)):=by
 have:=zfw (a:=a++zfc (a.length:Int) b) (b:=[(k,(a.length:Int)-1,((a.length:Int)+(b.length:Int))-1,0,0,(0#256),([]:Str))]) (i:=0) rfl;rw [List.length_append,zck] at this;have e:(0:Int)+((a.length+b.length:Nat):Int)=(a.length:Int)+(b.length:Int):=by omega
 rw [e] at this;exact this
theorem wrap_root (k:Int) (a:List SNode):at? (zfg k a) (a.length:Int)=some (k,(a.length:Int)-1,0,0,0,(0#256),([]:Str)):=by
 have:=zfw (a:=a) (b:=[(k,(a.length:Int)-1,0,0,0,(0#256),([]:Str))]) (i:=0) rfl;rw [Int.zero_add] at this;exact this
theorem pair_embs {k:Int} {a b:List SNode}:Emb a (zeu k a b) 0∧Emb b (zeu k a b) (a.length:Int):=⟨by unfold zeu;rw [List.append_assoc];exact emb_left _,emb_mid⟩
theorem pair_tr {k:Int} {a b:List SNode} (ha:Tr a 0 ((a.length:Int)-1)) (hb:Tr b 0 ((b.length:Int)-1)) (hk:k=4∨k=5):Tr (zeu k a b) 0 (((zeu k a b).length:Int)-1):=by
 obtain ⟨ea,eb⟩:=pair_embs (k:=k) (a:=a) (b:=b);have ta:=ha.emb ea;have tb:=hb.emb eb;have e:(((zeu k a b).length:Int)-1)=(a.length:Int)+(b.length:Int):=by rw [pair_len];omega
 rw [e];refine .two (p:=(a.length:Int)) (pair_root k a b) hk rfl rfl ?_ ?_
 ·have e1:(b.length:Int)-1+(a.length:Int)=(a.length:Int)+(b.length:Int)-1:=by omega
  rw [e1,Int.zero_add] at tb;exact tb
 ·rw [Int.add_zero,Int.add_zero] at ta;exact ta
theorem wrap_tr {k:Int} {a:List SNode} (ha:Tr a 0 ((a.length:Int)-1)) (hk:k=6∨k=8∨k=9):Tr (zfg k a) 0 (((zfg k a).length:Int)-1):=by
 have ta:=ha.emb (emb_left (a:=a) [(k,(a.length:Int)-1,0,0,0,(0#256),([]:Str))]);have e:(((zfg k a).length:Int)-1)=(a.length:Int):=by rw [wrap_len];omega
 rw [e];refine .one (wrap_root k a) (by simp only;omega) rfl rfl (fun h=>by simp only at h;omega) ?_;rw [Int.add_zero,Int.add_zero] at ta;exact ta
theorem leaf_tr {n:SNode} (hk:n.1=1∨n.1=2) (h0:n.2.1=0∧n.2.2.1=0):Tr [n] 0 ((([n]:List SNode).length:Int)-1):=.leaf (e:=n) rfl (by omega) (fun h=>by omega) h0
abbrev Txt (d:List SNode):Prop:=∀n∈d,n.2.2.2.2.2.2.length≤140737488351232
theorem class_Has_in {a:Cl} {n:Nat} (hn:n<256):zca a (n:Int) (a.has n):=by
 refine ⟨⟨by omega,by omega⟩,_,rfl, ?_⟩;rw [show ((n:Int) / 64)=((n / 64:Nat):Int) by omega,show ((n:Int) % 64)=((n % 64:Nat):Int) by omega];show _=(andI (shrI (((a.word ((n / 64:Nat):Int).toNat):Nat):Int) _) 1==1);rw [Int.toNat_natCast,shr_bit (Nat.mod_lt _ (by omega)),has_w hn]
theorem zbp {a:Cl} {i:Nat} (hi:i<256):zca a ((i:Int) % 256) (a.has i):=by
 rw [show ((i:Int) % 256)=(i:Int) by omega];exact class_Has_in hi
theorem ze6 {a:Cl}:zp a (a.count:Int):=by
 refine upto (P:=fun k (s:Int) v=>zp.l1 a _ k s v) 256 (fun i s=>s=(((List.range i).countP a.has:Nat):Int)) ?_ ?_ _ (by simp)
 ·rintro i s hi rfl;have hle:=List.countP_le_length (l:=List.range i) (p:=a.has);simp only [List.length_range] at hle;refine .inr ⟨_,rfl,fun k h=>⟨fun _=>⟨a.has i,zbp hi,fun hc=>?_,fun hc=>?_⟩,fun h=>absurd (by omega) (df h)⟩⟩
  ·rw [List.range_succ,List.countP_append,List.countP_singleton,hc] at h;exact ⟨zj (by omega) (by omega),zj (by omega) (by omega),by simpa using h⟩
  ·rw [List.range_succ,List.countP_append,List.countP_singleton,hc] at h;exact ⟨zj (by omega) (by omega),by simpa using h⟩
 ·rintro s rfl k;exact ⟨fun h=>absurd (dt h) (by omega),fun _=>rfl⟩
theorem word_of_bits {r:Cl} {i v:Nat} (hi:i<4) (hv:v<2 ^ 64) (h:∀j,j<64→r.has (64*i+j)=v.testBit j):r.word i=v:=by
 apply Nat.eq_of_testBit_eq;intro j;rw [Cl.word_bit]
 by_cases hj:j<64
 ·simp [hj,h j hj]
 ·have:v<2 ^ j:=Nat.lt_of_lt_of_le hv (Nat.pow_le_pow_right (by omega) (by omega));simp [hj,Nat.testBit_lt_two_pow this]
theorem ref01_Has_in {a:Cl} {n:Nat} (hn:n<256):zw a (n:Int) (a.has n):=by
 refine ⟨by omega,⟨by omega,by omega⟩, ?_⟩;have hw:Cl.w a ((n:Int) / 64)=((a.word (n / 64):Nat):Int):=by
  rw [show ((n:Int) / 64)=((n / 64:Nat):Int) by omega];rfl
 rw [hw];refine upto (P:=fun k (s:Int) v=>zw.l1 (n:Int) _ k s v) (n % 64) (fun i s=>s=((a.word (n / 64) / 2 ^ i:Nat):Int)) ?_ ?_ _ (by simp)
 ·rintro i s hi rfl;refine .inr ⟨_,rfl,fun k h=>⟨by omega,fun _=>⟨zj (by omega) (by omega), ?_⟩,fun h=>absurd (by omega) (df h)⟩⟩;rw [Nat.pow_succ,← Nat.div_div_eq_div_mul,Int.natCast_ediv] at h;exact h
 ·rintro s rfl k;refine ⟨by omega,fun h=>absurd (dt h) (by omega),fun _=>?_⟩;show a.has n=_;rw [has_w hn,Nat.testBit_eq_decide_div_mod_eq];rcases Nat.mod_two_eq_zero_or_one (a.word (n / 64) / 2 ^ (n % 64)) with h | h
  ·rw [h,show (((a.word (n / 64) / 2 ^ (n % 64):Nat):Int) % 2)=0 by omega];rfl
  ·rw [h,show (((a.word (n / 64) / 2 ^ (n % 64):Nat):Int) % 2)=1 by omega];rfl
theorem zct {a:Cl} {i:Nat} (hi:i<256):zw a ((i:Int) % 256) (a.has i):=by
 rw [show ((i:Int) % 256)=(i:Int) by omega];exact ref01_Has_in hi
theorem ref01_Of_l2 {l:List Bool} (hl:l.length=256) {w:Nat} (hw:w<4) {X:Cl→Prop} {s:Cl} (h0:s.word w=0) (hX:∀t:Cl,(∀j,j<4→t.word j=if j=w then zbj (fun j=>l.getD (64*w+j) false) 64 else s.word j)→X t):
  ∃k,zm.l2 l (w:Int) X k s 1 0:=by
 refine upto (P:=fun k (s:Cl × Int) v=>zm.l2 l (w:Int) X k s.1 s.2 v) 64
  (fun i t=>(∀j,j<4→t.1.word j=if j=w then zbj (fun j=>l.getD (64*w+j) false) i else s.word j)∧t.2=((2 ^ i % 2 ^ 64:Nat):Int)) ?_ ?_ (s,1) ?_
 ·rintro i ⟨t,b⟩ hi ⟨h1,h2⟩;simp only at h1 h2;subst h2;have hb:=ze0 (fun j=>l.getD (64*w+j) false) (i+1);have hp:2 ^ (i+1)≤2 ^ 64:=Nat.pow_le_pow_right (by omega) (by omega);have hp2:2 ^ i<2 ^ 64:=Nat.pow_lt_pow_right (by omega) hi;have hbit:IntKind.wrap .u64 (((2 ^ i % 2 ^ 64:Nat):Int)*2)=((2 ^ (i+1) % 2 ^ 64:Nat):Int):=by
   rw [wrap_u64,Nat.mod_eq_of_lt hp2,Nat.pow_succ];omega
  have hat:at? l (64*(w:Int)+(i:Int))=some (l.getD (64*w+i) false):=by
   rw [show (64*(w:Int)+(i:Int))=((64*w+i:Nat):Int) by omega,zdk,List.getElem?_eq_getElem (by omega)];simp [List.getD,List.getElem?_eq_getElem (show 64*w+i<l.length by omega)]
  cases he:l.getD (64*w+i) false
  ·refine .inr ⟨(t,((2 ^ (i+1) % 2 ^ 64:Nat):Int)),⟨fun j hj=>?_,rfl⟩,fun k h=>⟨fun _=>⟨zj (by omega) (by omega),zj (by omega) (by omega),_,hat,fun hc=>(by rw [he] at hc;cases hc),fun _=>⟨zj (by omega) (by omega), ?_⟩⟩,fun h=>absurd (by omega) (df h)⟩⟩
   ·simp only;rw [h1 j hj];split
    ·simp only [zbj,he,cond_false]
    ·rfl
   ·rw [hbit];exact h
  ·refine .inr ⟨(t.setw (w:Int) ((zbj (fun j=>l.getD (64*w+j) false) (i+1):Nat):Int),((2 ^ (i+1) % 2 ^ 64:Nat):Int)),⟨fun j hj=>?_,rfl⟩,fun k h=>⟨fun _=>⟨zj (by omega) (by omega),zj (by omega) (by omega),_,hat,fun _=>⟨⟨by omega,by omega⟩,⟨by omega,by omega⟩,zj (by omega) (by omega), ?_⟩,fun hc=>(by rw [he] at hc;cases hc)⟩,fun h=>absurd (by omega) (df h)⟩⟩
   ·simp only;rw [setw_word (by rw [Int.toNat_natCast];omega) j hj,Int.toNat_natCast];split
    ·rfl
    ·rename_i e;rw [h1 j hj,if_neg e]
   ·have hww:(Cl.w t (w:Int))=((zbj (fun j=>l.getD (64*w+j) false) i:Nat):Int):=by
     show ((t.word ((w:Int).toNat):Nat):Int)=_;rw [Int.toNat_natCast,h1 w hw,if_pos rfl]
    have hsum:IntKind.wrap .u64 (Cl.w t (w:Int)+((2 ^ i % 2 ^ 64:Nat):Int))=((zbj (fun j=>l.getD (64*w+j) false) (i+1):Nat):Int):=by
     have e2:zbj (fun j=>l.getD (64*w+j) false) (i+1)=2 ^ i+zbj (fun j=>l.getD (64*w+j) false) i:=by simp only [zbj,he,cond_true]
     rw [hww,wrap_u64,Nat.mod_eq_of_lt hp2];omega
    rw [hbit,hsum];exact h
 ·rintro ⟨t,b⟩ ⟨h1,_⟩ k;exact ⟨fun h=>absurd (dt h) (by omega),fun _=>hX t h1⟩
 ·refine ⟨fun j hj=>?_,by rfl⟩;split
  ·rename_i e;subst e;simpa [zbj] using h0
  ·rfl
theorem ofL_word {l:List Bool} {w:Nat} (hw:w<4):(Cl.ofL l).word w=zbj (fun j=>l.getD (64*w+j) false) 64:=by
 refine word_of_bits hw (ze0 _ 64) fun j hj=>?_;rw [has_ofL (by omega),zfd];simp [hj]
theorem ref01_Of_in {l:List Bool} (hl:l.length=256):zm l (Cl.ofL l):=by
 refine upto (P:=fun k (s:Cl) v=>zm.l1 l _ k s v) 4 (fun i s=>∀j,j<4→s.word j=if j<i then (Cl.ofL l).word j else 0) ?_ ?_ _ ?_
 ·intro i s hi h;refine .inr ⟨Cl.ofWords (if 0<i+1 then (Cl.ofL l).word 0 else 0) (if 1<i+1 then (Cl.ofL l).word 1 else 0) (if 2<i+1 then (Cl.ofL l).word 2 else 0) (if 3<i+1 then (Cl.ofL l).word 3 else 0), ?_,fun k hk=>⟨fun _=>?_,fun h=>absurd (by omega) (df h)⟩⟩
  ·have hb:∀(c:Prop) [Decidable c] (k:Nat),(if c then (Cl.ofL l).word k else 0)<2 ^ 64:=fun c _ k=>by
    split
    ·exact Cl.word_lt _ _
    ·omega
   obtain ⟨e0,e1,e2,e3⟩:=Cl.ofWords_word (hb (0<i+1) 0) (hb (1<i+1) 1) (hb (2<i+1) 2) (hb (3<i+1) 3);intro j hj
   match j,hj with
   | 0,_=>exact e0
   | 1,_=>exact e1
   | 2,_=>exact e2
   | 3,_=>exact e3
  ·refine ref01_Of_l2 hl hi (by rw [h i hi,if_neg (by omega)]) fun t ht=>?_;refine ⟨zj (by omega) (by omega), ?_⟩;have hb:∀(c:Prop) [Decidable c] (k:Nat),(if c then (Cl.ofL l).word k else 0)<2 ^ 64:=fun c _ k=>by
    split
    ·exact Cl.word_lt _ _
    ·omega
   obtain ⟨e0,e1,e2,e3⟩:=Cl.ofWords_word (hb (0<i+1) 0) (hb (1<i+1) 1) (hb (2<i+1) 2) (hb (3<i+1) 3);have key:∀j,j<4→t.word j=if j<i+1 then (Cl.ofL l).word j else 0:=fun j hj=>by
    rw [ht j hj]
    by_cases e:j=i
    ·subst e;rw [if_pos rfl,if_pos (by omega),ofL_word hj]
    ·rw [if_neg e,h j hj]
     by_cases e2:j<i
     ·rw [if_pos e2,if_pos (by omega)]
     ·rw [if_neg e2,if_neg (by omega)]
   have:t=_:=Cl.ext_words (x:=t) (y:=Cl.ofWords (if 0<i+1 then (Cl.ofL l).word 0 else 0) (if 1<i+1 then (Cl.ofL l).word 1 else 0) (if 2<i+1 then (Cl.ofL l).word 2 else 0) (if 3<i+1 then (Cl.ofL l).word 3 else 0)) fun j hj=>by
    rw [key j hj]
    match j,hj with
    | 0,_=>exact e0.symm
    | 1,_=>exact e1.symm
    | 2,_=>exact e2.symm
    | 3,_=>exact e3.symm
   rw [this];exact hk
 ·intro s h k;refine ⟨fun h=>absurd (dt h) (by omega),fun _=>?_⟩;show Cl.ofL l=s;exact Cl.ext_words fun j hj=>by rw [h j hj,if_pos hj]
 ·intro j hj;simp [Cl.word]
theorem ofL_set {l:List Bool} {f:Nat→Bool} (h:∀n,n<256→l[n]?=some (f n)):Cl.ofL l=Cl.of f:=by
 apply Cl.ext;intro c hc;rw [has_ofL hc,Cl.of_has _ hc];simp [List.getD,h c hc]
theorem zc7 {f t:Int} (hf:InR .u8 f) (ht:InR .u8 t):zu f t (Cl.row f t):=by
 obtain ⟨f,hf1,rfl⟩:=u8_of hf;obtain ⟨t,ht1,rfl⟩:=u8_of ht;refine run (P:=fun k (s:List Bool × Int)=>zu.l1 (t:Int) _ k s.1 s.2)
  (fun s=>s.1.length=256∧∃i:Nat,s.2=i∧f≤i∧(i≤t+1∨i=f)∧∀n,n<256→s.1[n]?=some (decide (f≤n)&&decide (n<i))) (fun s=>257-s.2.toNat) ?_ (List.replicate 256 false,(f:Int)) ?_
 ·rintro ⟨l,i'⟩ ⟨hl,i,hi,h1,h2,h3⟩;simp only at hl hi h3;subst hi
  by_cases hc:i≤t
  ·refine .inr ⟨(l.set i true,((i+1:Nat):Int)),⟨by simpa using hl,i+1,rfl,by omega,by omega,fun n hn=>?_⟩, ?_,fun k h=>⟨fun _=>⟨l[i]'(by omega),by rw [zdk];exact List.getElem?_eq_getElem (by show i<l.length;omega),zj (by simp only;omega) (by simp only;omega), ?_⟩,fun h=>absurd (by show (i:Int)≤(t:Int);omega) (df h)⟩⟩
   ·simp only [List.getElem?_set];split
    ·rename_i e;subst e;simp [show i<l.length by omega,h1]
    ·rename_i e
     rw [h3 n hn];congr 2;apply decide_eq_decide.2;omega
   ·simp only [Int.toNat_natCast];omega
   ·simpa using h
  ·refine .inl fun k=>⟨fun h=>absurd (dt h) (by simp only;omega),fun _=>⟨Cl.ofL l,ref01_Of_in hl, ?_⟩⟩;rw [ofL_set h3];apply Cl.ext;intro c hc2;rw [has_row hc2,Cl.of_has _ hc2]
   by_cases e:f≤c
   ·have e3:(decide (c<i):Bool)=decide (c≤t):=decide_eq_decide.2 (by omega);rw [e3]
    congr 1
    ·apply decide_eq_decide.2;omega
    ·apply decide_eq_decide.2;omega
   ·rw [decide_eq_false (show ¬ (f:Int)≤(c:Int) by omega),decide_eq_false e];simp
 ·refine ⟨List.length_replicate,f,rfl,Nat.le_refl _,by omega,fun n hn=>?_⟩;show (List.replicate 256 false)[n]?=_;rw [List.getElem?_replicate,if_pos hn]
  by_cases e:f≤n
  ·simp [show ¬ n<f by omega]
  ·simp [e]
def hx16:Str:=[48,49,50,51,52,53,54,55,56,57,97,98,99,100,101,102]
def hexS (c:Nat):Str:=[hx16.getD (c / 16) 0,hx16.getD (c % 16) 0]
theorem hx_part:∀n:Fin 16,(hx16.take ((n.val:Int)+1).toNat).drop (n.val:Int).toNat=[hx16.getD n.val 0]:=by decide +kernel
theorem hx_byte:∀n:Fin 16,zcz hx16 (n.val:Int)=some ((hx16.getD n.val 0).toNat:Int):=by decide +kernel
theorem zec {c:Nat} (h:c<256):zcp (c:Int) (hexS c):=by
 have e1:(c:Int) / 16=((c / 16:Nat):Int):=by omega
 have e2:(c:Int) % 16=((c % 16:Nat):Int):=by omega
 have k1:=hx_part ⟨c / 16,by omega⟩;have k2:=hx_part ⟨c % 16,by omega⟩;have l16:hx16.length=16:=rfl;unfold zcp;rw [e1,e2];have hxe:([48,49,50,51,52,53,54,55,56,57,97,98,99,100,101,102]:Str)=hx16:=rfl;rw [hxe,l16];simp only at k1 k2;rw [k1,k2];exact ⟨by omega,by omega,zj (by omega) (by omega),⟨by omega,by omega,by omega⟩,by omega,by omega,zj (by omega) (by omega),⟨by omega,by omega,by omega⟩,by simp,rfl⟩
theorem ref06_hex_in {c:Nat} (h:c<256):zc5 (c:Int) (hexS c):=by
 have e1:(c:Int) / 16=((c / 16:Nat):Int):=by omega
 have e2:(c:Int) % 16=((c % 16:Nat):Int):=by omega
 have k1:=hx_byte ⟨c / 16,by omega⟩;have k2:=hx_byte ⟨c % 16,by omega⟩;refine ⟨by omega,_,by rw [e1];exact k1,by omega,_,by rw [e2];exact k2, ?_⟩;simp [strB,hexS]
theorem zde (c:Nat):(hexS c).length=2:=rfl
def bgC (P:Nat→Bool) (c:Nat):Bool:=((c:Int)==0)||!(P (c-1))
def enC (P:Nat→Bool) (c:Nat):Bool:=((c:Int)==255)||!(P (c+1))
def s1C (P:Nat→Bool) (c:Nat) (s:Str):Str:=if (bgC P c&&(s != [60]))=true then s++[44] else s
def s2C (P:Nat→Bool) (c:Nat) (s:Str):Str:=if bgC P c=true then s1C P c s++hexS c else s1C P c s
def s3C (P:Nat→Bool) (c:Nat) (s:Str):Str:=if (enC P c&&!(bgC P c))=true then (s2C P c s++[45])++hexS c else s2C P c s
def refS (P:Nat→Bool):Nat→Str
 | 0=>[60]
 | c+1=>if P c=true then s3C P c (refS P c) else refS P c
theorem s3C_len (P:Nat→Bool) (c:Nat) (s:Str):(s3C P c s).length≤s.length+3:=by
 unfold s3C s2C s1C;cases bgC P c <;> cases enC P c <;> cases hs:(s != [60]) <;> simp [zde]
theorem zdb (P:Nat→Bool):∀c,(refS P c).length≤1+3*c
 | 0=>by simp [refS]
 | c+1=>by
  have h1:=zdb P c;have h2:=s3C_len P c (refS P c);unfold refS;split
  ·omega
  ·omega
def ze1 (a:Cl):Str:=if a=Cl.row 0 255 then [46] else refS a.has 256++[62]
theorem clsT_len (a:Cl):(ze1 a).length≤1000:=by
 have:=zdb a.has 256;unfold ze1;split
 ·simp
 ·rw [List.length_append,List.length_singleton];omega
theorem row_in {a:Cl}:zu 0 255 (Cl.row 0 255):=zc7 (inR_u8.2 (by decide)) (inR_u8.2 (by decide))
theorem zdh {a:Cl}:zd a (ze1 a):=by
 refine ⟨_,row_in (a:=a),fun h=>?_,fun h=>?_⟩
 ·unfold ze1;rw [if_pos (by simpa using h)]
 ·have hne:a≠Cl.row 0 255:=by simpa using h
  refine upto (P:=fun k s v=>zd.l1 a (zd.j1 (ze1 a)) k s v) 256 (fun i s=>s=refS a.has i) ?_ ?_ [60] rfl
  ·rintro i s hi rfl;have hl:=zdb a.has i;refine .inr ⟨_,rfl,fun k hk=>⟨fun _=>⟨a.has i,zct hi,fun hP=>⟨zj (by omega) (by omega), ?_⟩,fun hP=>⟨fun h0=>zj (by omega) (by omega),a.has (i-1),fun h0=>?_,fun h255=>zj (by omega) (by omega),a.has (i+1),fun h255=>?_, ?_⟩⟩,fun h=>absurd (by omega) (df h)⟩⟩
   ·have hP:a.has i=false:=by simpa using hP
    unfold refS at hk;rw [hP] at hk;exact hk
   ·have:(i:Int)≠0:=by simpa using h0
    have:=zct (a:=a) (i:=i-1) (by omega)
    rwa [show ((i-1:Nat):Int)=(i:Int)-1 by omega] at this
   ·have:(i:Int)≠255:=by simpa using h255
    exact zct (a:=a) (i:=i+1) (by omega)
   ·have hP:a.has i=true:=by simpa using hP
    unfold refS at hk;rw [if_pos hP] at hk;have hx:=ref06_hex_in hi;have ii:InR .i64 ((i:Int)+1):=zj (by omega) (by omega);generalize refS a.has i=s at *;have k2:∀s',s3C a.has i s=(if (enC a.has i&&!(bgC a.has i))=true then (s'++[45])++hexS i else s')→s'.length≤10000→zd.j2 (zd.l1 a (zd.j1 (ze1 a)) k) (i:Int) (a.has (i-1)) (a.has (i+1)) s':=fun s' he hl'=>by
     rw [he] at hk;refine ⟨_,rfl,fun hb=>⟨by simp;omega,_,hx,by simp [zde];omega,ii, ?_⟩,fun hb=>⟨ii, ?_⟩⟩
     ·rw [if_pos (show (enC a.has i&&!(bgC a.has i))=true from hb)] at hk;exact hk
     ·rw [if_neg (show ¬ (enC a.has i&&!(bgC a.has i))=true by rw [Bool.not_eq_true];exact hb)] at hk;exact hk
    have k3:∀s',s1C a.has i s=s'→s'.length≤9000→zd.j3 (zd.l1 a (zd.j1 (ze1 a)) k) (i:Int) (a.has (i-1)) (a.has (i+1)) s':=fun s' he hl'=>by
     refine ⟨fun hb=>⟨_,hx,by rw [zde];omega,k2 _ ?_ (by rw [List.length_append,zde];omega)⟩,fun hb=>k2 _ ?_ (by omega)⟩
     ·have hb:bgC a.has i=true:=hb;have e2:s2C a.has i s=s'++hexS i:=by unfold s2C;rw [if_pos hb,he]
      unfold s3C;rw [e2]
     ·have hb:bgC a.has i=false:=hb;have e2:s2C a.has i s=s':=by unfold s2C;rw [if_neg (by rw [hb];simp),he]
      unfold s3C;rw [e2]
    refine ⟨fun hb=>⟨by simp;omega,k3 _ ?_ (by simp;omega)⟩,fun hb=>k3 _ ?_ (by omega)⟩
    ·unfold s1C;rw [if_pos (show (bgC a.has i&&(s != [60]))=true from hb)]
    ·unfold s1C;rw [if_neg (show ¬ (bgC a.has i&&(s != [60]))=true by rw [Bool.not_eq_true];exact hb)]
  ·rintro s rfl k;have hl:=zdb a.has 256;refine ⟨fun h=>absurd (dt h) (by omega),fun _=>⟨by simp;omega, ?_⟩⟩;unfold ze1;rw [if_neg hne]
def jn (rows:List Str):Str:=Lib.join rows [44]
theorem jn_cons (x:Str) (r:List Str):jn (x::r)=x++Lib.joinTail [44] r:=Lib.join_cons x r [44]
theorem jn_snoc {rows:List Str} (h:rows≠[]) (x:Str):jn (rows++[x])=(jn rows++[44])++x:=by
 cases rows with
 | nil=>exact absurd rfl h
 | cons y r=>
  rw [List.cons_append,jn_cons,jn_cons];simp [Lib.joinTail,List.append_assoc]
theorem jn_one (x:Str):jn [x]=x:=Lib.join_one x [44]
theorem jn_ne {rows:List Str} (h:rows≠[]) (hx:∀x∈rows,x≠[]):jn rows≠[]:=by
 cases rows with
 | nil=>exact absurd rfl h
 | cons y r=>
  rw [jn_cons];have:=hx y (by simp);intro e;exact this (List.append_eq_nil_iff.1 e).1
def runT (c l:Nat):Str:=if c<l then hexS c++([45]++hexS l) else hexS c
theorem refS_run {P:Nat→Bool} {c l:Nat} (hl:l<256) (hP:∀j,c≤j→j≤l→P j=true) (hb:bgC P c=true) (he:enC P l=true):∀m,c+m≤l→refS P (c+m+1)=s1C P c (refS P c)++(if m=0∨c+m<l then hexS c else runT c l):=by
 intro m
 induction m with
 | zero=>
  intro h;rw [if_pos (.inl rfl),Nat.add_zero];rw [refS,if_pos (hP c (Nat.le_refl _) (by omega))];unfold s3C;rw [if_neg (by rw [hb];simp)];unfold s2C;rw [if_pos hb]
 | succ m ih=>
  intro h;have ih:=ih (by omega);have hbg:bgC P (c+(m+1))=false:=by
   unfold bgC;rw [show c+(m+1)-1=c+m by omega,hP (c+m) (by omega) (by omega)];simp;omega
  have ecm:c+m+1=c+(m+1):=by omega
  rw [refS,if_pos (hP _ (by omega) h)];have e2:s2C P (c+(m+1)) (refS P (c+(m+1)))=refS P (c+(m+1)):=by
   unfold s2C s1C;rw [if_neg (by rw [hbg];simp),if_neg (by rw [hbg];simp)]
  have hpre:refS P (c+(m+1))=s1C P c (refS P c)++hexS c:=by
   rw [← ecm,ih]
   by_cases hm:m=0
   ·rw [if_pos (.inl hm)]
   ·rw [if_pos (.inr (by omega))]
  unfold s3C;rw [e2,hbg,hpre]
  by_cases hlast:c+(m+1)<l
  ·have hen:enC P (c+(m+1))=false:=by
    unfold enC;rw [hP (c+(m+1)+1) (by omega) (by omega)];simp;omega
   rw [hen,if_neg (by simp),if_pos (.inr hlast)]
  ·obtain rfl:l=c+(m+1):=by omega
   rw [he,if_pos (show (true&&!false)=true from rfl),if_neg (by omega)];unfold runT;rw [if_pos (by omega)];simp [List.append_assoc]
theorem run_end (P:Nat→Bool):∀(m c:Nat),c+m=255→P c=true→∃l,c≤l∧l<256∧(∀j,c≤j→j≤l→P j=true)∧enC P l=true
 | 0,c,h,hP=>⟨c,Nat.le_refl _,by omega,fun j h1 h2=>by rw [show j=c by omega];exact hP,by unfold enC;rw [show c=255 by omega];rfl⟩
 | m+1,c,h,hP=>by
  cases hn:P (c+1)
  ·exact ⟨c,Nat.le_refl _,by omega,fun j h1 h2=>by rw [show j=c by omega];exact hP,by unfold enC;rw [hn];simp⟩
  ·obtain ⟨l,l1,l2,l3,l4⟩:=run_end P m (c+1) (by omega) hn;refine ⟨l,by omega,l2,fun j h1 h2=>?_,l4⟩
   by_cases e:j=c
   ·rw [e];exact hP
   ·exact l3 j (by omega) h2
theorem count_all {a:Cl}:a.count=256↔a=Cl.row 0 255:=by
 constructor
 ·intro h;have h:(List.range 256).countP a.has=(List.range 256).length:=by rw [List.length_range];exact h
  rw [List.countP_eq_length] at h;refine Cl.ext fun c hc=>?_;rw [h c (List.mem_range.2 hc),Cl.row,Cl.of_has _ hc];simp;omega
 ·rintro rfl;decide +kernel
theorem zbl {a:Cl}:za a (ze1 a):=by
 refine ⟨_,ze6,fun h=>?_,fun h=>?_⟩
 ·have h:(a.count:Int)=256:=by simpa using h
  unfold ze1;rw [if_pos (count_all.1 (by omega))]
 ·have h:(a.count:Int)≠256:=by simpa using h
  have hne:a≠Cl.row 0 255:=fun e=>h (by have:=count_all.2 e;omega);have:=run (P:=fun k (s:List Str × Int)=>za.l1 a (za.j1 (ze1 a)) k s.1 s.2) (fun s=>∃n:Nat,s.2=(n:Int)∧n≤256∧refS a.has n=[60]++jn s.1∧(n<256→a.has n=true→bgC a.has n=true)∧(∀x∈s.1,x≠[])∧s.1.length≤n) (fun s=>256-s.2.toNat) ?_ ([],0) ⟨0,rfl,by omega,rfl,fun _ _=>rfl,by simp,by simp⟩
  ·exact this
  ·rintro ⟨rows,c⟩ ⟨n,h1,h2,h3,h4,h5,h6⟩;simp only at h1 h3 h5 h6;subst h1
   by_cases hn:n<256
   ·cases hP:a.has n
    ·refine .inr ⟨(rows,(n:Int)+1),⟨n+1,by simp,by omega, ?_,fun h k=>?_,h5,by simp only;omega⟩,by simp only;omega,fun k hk=>⟨fun _=>⟨_,zbp hn,fun _=>⟨zj (by omega) (by omega),hk⟩,(fun h=>by rw [hP] at h;cases h)⟩,fun h=>absurd (by omega) (df h)⟩⟩
     ·rw [refS,if_neg (by rw [hP];simp)];exact h3
     ·unfold bgC;rw [Nat.add_sub_cancel,hP];simp
    ·obtain ⟨l,l1,l2,l3,l4⟩:=run_end a.has (255-n) n (by omega) hP;have hb:=h4 hn hP;have hr:=refS_run l2 l3 hb l4 (l-n) (by omega);rw [show n+(l-n)+1=l+1 by omega] at hr;have hrT:(if l-n=0∨n+(l-n)<l then hexS n else runT n l)=runT n l:=by
      by_cases e:l-n=0
      ·rw [if_pos (.inl e)];unfold runT;rw [if_neg (by omega)]
      ·rw [if_neg (by omega)]
     rw [hrT] at hr;have hnew:refS a.has (l+1)=[60]++jn (rows++[runT n l]):=by
      rw [hr,h3];unfold s1C;rw [hb]
      by_cases hrw:rows=[]
      ·subst hrw;rw [List.nil_append,jn_one,if_neg (by simp [jn,Lib.join_nil])];simp [jn,Lib.join_nil]
      ·have:=jn_ne hrw h5;rw [jn_snoc hrw,if_pos (by simpa using this)];simp [List.append_assoc]
     have hrn:runT n l≠[]:=by unfold runT;split <;> simp [hexS]
     have hlen:=zdb a.has (l+1);refine .inr ⟨(rows++[runT n l],((l+1:Nat):Int)),⟨l+1,rfl,by omega,hnew,fun h k=>?_,fun x hx=>?_,by simp;omega⟩,by simp only;omega,fun k hk=>⟨fun _=>⟨_,zbp hn,(fun h=>by rw [hP] at h;cases h),fun _=>?_⟩,fun h=>absurd (by omega) (df h)⟩⟩
     ·exfalso;unfold enC at l4;rw [k] at l4;have:(l:Int)=255:=by simpa using l4
      omega
     ·rcases List.mem_append.1 hx with hx | hx
      ·exact h5 x hx
      ·rw [List.mem_singleton.1 hx];exact hrn
     ·-- the run's end
      simp only at hk;have hk2:za.j2 (za.l1 a (za.j1 (ze1 a)) k) rows (l:Int) (runT n l):=⟨by simp;omega,zj (by omega) (by omega),hk⟩;have hX:za.j3 (za.l1 a (za.j1 (ze1 a)) k) rows (n:Int) (l:Int):=by
       refine ⟨_,zec hn,fun hlt=>⟨_,zec l2,by simp [zde],by simp [zde], ?_⟩,fun hlt=>?_⟩
       ·have hlt:=dt hlt;unfold runT at hk2;rw [if_pos (by omega)] at hk2;exact hk2
       ·have hlt:=df hlt;unfold runT at hk2;rw [if_neg (by omega)] at hk2;exact hk2
      refine run (P:=fun k' (j:Int)=>za.l2 a (za.j3 (za.l1 a (za.j1 (ze1 a)) k) rows (n:Int)) k' j) (fun j=>∃i:Nat,j=(i:Int)∧n≤i∧i≤l) (fun j=>256-j.toNat) ?_ (n:Int) ⟨n,rfl,Nat.le_refl _,l1⟩;rintro j ⟨i,rfl,i1,i2⟩
      by_cases hil:i=l
      ·subst hil;refine .inl fun k'=>⟨zj (by omega) (by omega),fun _=>zj (by omega) (by omega),a.has (i+1),fun hd=>?_,fun hd=>?_,fun _=>hX⟩
       ·have hd:=dt hd;exact zbp (a:=a) (i:=i+1) (by omega)
       ·exfalso;rw [Bool.and_eq_true] at hd;have hd1:=dt hd.1;unfold enC at l4;rw [hd.2] at l4;have:(i:Int)=255:=by simpa using l4
        omega
      ·refine .inr ⟨((i+1:Nat):Int),⟨i+1,rfl,by omega,by omega⟩,by simp only [Int.toNat_natCast];omega,fun k' hk'=>⟨zj (by omega) (by omega),fun _=>zj (by omega) (by omega),a.has (i+1),fun hd=>zbp (a:=a) (i:=i+1) (by omega),fun _=>⟨zj (by omega) (by omega),hk'⟩,fun hd=>?_⟩⟩;exfalso;rw [l3 (i+1) (by omega) (by omega),Bool.and_true] at hd;exact absurd (by omega) (df hd)
   ·obtain rfl:n=256:=by omega
    have hlen:=zdb a.has 256;rw [h3] at hlen;have hjl:(jn rows).length≤1000:=by simp at hlen;omega
    refine .inl fun k=>⟨fun h=>absurd (dt h) (by omega),fun _=>⟨jn rows,⟨⟨by show rows.length≤_;omega,by show (jn rows).length≤_;omega⟩,rfl⟩,by simp;omega,by simp;omega, ?_⟩⟩;unfold ze1;rw [if_neg hne,h3]
def lvl (k:Int):Int:=if k=5 then 0 else if k=4 then 1 else if k=6∨k=7 then 2 else 3
def kd (d:List SNode) (i:Int):Int:=match at? d i with
 | some n=>n.1
 | none=>0
def brk (own lv:Int) (r:Str × Int):Str × Int:=if own<lv then (([40]++r.1)++[41],r.2+1) else r
def txN:Nat→List SNode→Int→Str × Int
 | 0,_,_=>([],0)
 | f+1,d,i=>
  let sub:=fun (j lv:Int)=>brk (lvl (kd d j)) lv (txN f d j)
  match at? d i with
  | none=>([],0)
  | some n=>
   if n.1=1 then ([40,41],1)
   else if n.1=2 then (ze1 n.2.2.2.2.2.1,0)
   else if n.1=3 then (([34]++n.2.2.2.2.2.2)++[34],0)
   else if n.1=4 then ((sub n.2.1 1).1++(sub n.2.2.1 2).1,max (sub n.2.1 1).2 (sub n.2.2.1 2).2)
   else if n.1=5 then (((sub n.2.1 0).1++[124])++(sub n.2.2.1 1).1,max (sub n.2.1 0).2 (sub n.2.2.1 1).2)
   else if n.1=6 then ((sub n.2.1 2).1++[42],(sub n.2.1 2).2)
   else if n.1=7 then ((sub n.2.1 2).1++(((([123]++Lib.itoa n.2.2.2.1)++[44])++Lib.itoa n.2.2.2.2.1)++[125]),(sub n.2.1 2).2)
   else if n.1=8 then (([98,40]++(sub n.2.1 0).1)++[41],(sub n.2.1 0).2+1)
   else (([119,40]++(sub n.2.1 0).1)++[41],(sub n.2.1 0).2+1)
def sbN (f:Nat) (d:List SNode) (i lv:Int):Str × Int:=brk (lvl (kd d i)) lv (txN f d i)
theorem zfu {d:List SNode} {i:Int} {n:SNode} (h:at? d i=some n):kd d i=n.1:=by unfold kd;rw [h]
section
variable {d : List SNode} {i : Int} {n : SNode} (h : at? d i = some n) (f : Nat)
include h
theorem tx1 (k:n.1=1):txN (f+1) d i=([40,41],1):=by unfold txN;rw [h];simp [k]
theorem tx2 (k:n.1=2):txN (f+1) d i=(ze1 n.2.2.2.2.2.1,0):=by unfold txN;rw [h];simp [k]
theorem tx3 (k:n.1=3):txN (f+1) d i=(([34]++n.2.2.2.2.2.2)++[34],0):=by unfold txN;rw [h];simp [k]
theorem tx4 (k:n.1=4):txN (f+1) d i=((sbN f d n.2.1 1).1++(sbN f d n.2.2.1 2).1,max (sbN f d n.2.1 1).2 (sbN f d n.2.2.1 2).2):=by unfold txN;rw [h];simp [k,sbN]
theorem tx5 (k:n.1=5):txN (f+1) d i=(((sbN f d n.2.1 0).1++[124])++(sbN f d n.2.2.1 1).1,max (sbN f d n.2.1 0).2 (sbN f d n.2.2.1 1).2):=by unfold txN;rw [h];simp [k,sbN]
theorem tx6 (k:n.1=6):txN (f+1) d i=((sbN f d n.2.1 2).1++[42],(sbN f d n.2.1 2).2):=by unfold txN;rw [h];simp [k,sbN]
theorem tx7 (k:n.1=7):txN (f+1) d i=((sbN f d n.2.1 2).1++(((([123]++Lib.itoa n.2.2.2.1)++[44])++Lib.itoa n.2.2.2.2.1)++[125]),(sbN f d n.2.1 2).2):=by unfold txN;rw [h];simp [k,sbN]
theorem tx8 (k:n.1=8):txN (f+1) d i=(([98,40]++(sbN f d n.2.1 0).1)++[41],(sbN f d n.2.1 0).2+1):=by unfold txN;rw [h];simp [k,sbN]
theorem tx9 (k:n.1=9):txN (f+1) d i=(([119,40]++(sbN f d n.2.1 0).1)++[41],(sbN f d n.2.1 0).2+1):=by unfold txN;rw [h];simp [k,sbN]
end
theorem zcx {x:Int} (h0:0≤x) (h1:x≤255):(Lib.itoa x).length≤21:=Lib.itoa_length_le x (by omega) (by omega)
structure Lim (r:Str × Int) (m:Int):Prop where
 len:(r.1.length:Int)≤140737488354000*m
 lo:0≤r.2
 hi:r.2≤4*m
theorem brk_lim {own lv m:Int} {r:Str × Int} (h1:(r.1.length:Int)+2≤140737488354000*m) (h2:0≤r.2) (h3:r.2+1≤4*m):Lim (brk own lv r) m:=by
 unfold brk;split
 ·refine ⟨?_,by simp only;omega,by simp only;omega⟩;simp only [List.length_append,List.length_singleton];omega
 ·exact ⟨by omega,h2,by omega⟩
theorem ze8 {d:List SNode} (ht:Txt d):∀(m:Nat) {f i:Int},Tr d f i→(txN m d i).1.length+2≤(140737488354000*(i-f+1))∧0≤(txN m d i).2∧(txN m d i).2+1≤4*(i-f+1)
 | 0,f,i,h=>by have:=h.le;simp only [txN,List.length_nil];omega
 | m+1,f,i,h=>by
  have ih:=fun {f i:Int} (h:Tr d f i)=>ze8 ht m h;have sub:∀{f i:Int} (h:Tr d f i) (lv:Int),Lim (sbN m d i lv) (i-f+1):=fun {f i} h lv=>brk_lim (own:=lvl (kd d i)) (lv:=lv) (ih h).1 (ih h).2.1 (ih h).2.2;cases h with
  | leaf he hk hx h0=>
   rename_i n
   have hm:=ht n (by obtain ⟨k,_,hk⟩:=at_nn he;exact List.mem_of_getElem? hk);have hc:=clsT_len n.2.2.2.2.2.1;rcases hk with k | k | k
   ·rw [tx1 he m k];simp
   ·rw [tx2 he m k];simp only;omega
   ·rw [tx3 he m k];simp only [List.length_append,List.length_singleton];omega
  | one he hk ha hb hr h1=>
   rename_i n
   have hle:=h1.le;have s0:=sub h1 0;have s2:=sub h1 2;rw [← ha] at s0 s2;have a1:=s0.len;have a2:=s0.lo;have a3:=s0.hi;have b1:=s2.len;have b2:=s2.lo;have b3:=s2.hi;rcases hk with k | k | k | k
   ·rw [tx6 he m k];simp only [List.length_append,List.length_singleton];omega
   ·obtain ⟨r1,r2,r3⟩:=hr k;have e1:=zcx r1 (by omega);have e2:=zcx (show 0≤n.2.2.2.2.1 by omega) r3;rw [tx7 he m k];simp only [List.length_append,List.length_singleton];omega
   ·rw [tx8 he m k];simp only [List.length_append,List.length_cons,List.length_nil];omega
   ·rw [tx9 he m k];simp only [List.length_append,List.length_cons,List.length_nil];omega
  | two he hk ha hb h1 h2=>
   rename_i p n
   have l1:=h1.le;have l2:=h2.le;rcases hk with k | k
   ·have sA:=sub h2 1;have sB:=sub h1 2;rw [← ha] at sA;rw [← hb] at sB;have a1:=sA.len;have a2:=sA.lo;have a3:=sA.hi;have b1:=sB.len;have b2:=sB.lo;have b3:=sB.hi;rw [tx4 he m k];simp only [List.length_append];omega
   ·have sA:=sub h2 0;have sB:=sub h1 1;rw [← ha] at sA;rw [← hb] at sB;have a1:=sA.len;have a2:=sA.lo;have a3:=sA.hi;have b1:=sB.len;have b2:=sB.lo;have b3:=sB.hi;rw [tx5 he m k];simp only [List.length_append,List.length_singleton];omega
theorem sb_lim {d:List SNode} (ht:Txt d) (m:Nat) {f i:Int} (h:Tr d f i) (lv:Int):Lim (sbN m d i lv) (i-f+1):=
 let ⟨a,b,c⟩:=ze8 ht m h
 brk_lim a b c
end Go.Proofs.YtamjkbneebghmaaDoor.V
namespace Go.Proofs.YtamjkbneebghmaaDoor.V
open Go
set_option linter.unusedVariables false
theorem dec1:∀n:Fin 10,Lib.itoa (n.val:Int)=strB [(48+(n.val:Int)) % 256]:=by decide +kernel
theorem dec2:∀n:Fin 256,10≤n.val→Lib.itoa (n.val:Int)=Lib.itoa ((n.val:Int) / 10)++strB [(48+((n.val:Int) % 10)) % 256]:=by decide +kernel
theorem dec_n:∀(k n:Nat),n<256→n<10 ^ (k+1)→zbd.n (k+1) (n:Int) (Lib.itoa (n:Int))
 | 0,n,h,hk=>⟨fun _=>⟨zj (by omega) (by omega),dec1 ⟨n,by omega⟩⟩,fun h=>absurd (by omega) (df h)⟩
 | k+1,n,h,hk=>by
  by_cases h10:n<10
  ·exact ⟨fun _=>⟨zj (by omega) (by omega),dec1 ⟨n,h10⟩⟩,fun h=>absurd (by omega) (df h)⟩
  ·have ih:=dec_n k (n / 10) (by omega) (by rw [Nat.pow_succ] at hk;omega);have hl:=zcx (x:=((n / 10:Nat):Int)) (by omega) (by omega);have e:(n:Int) / 10=((n / 10:Nat):Int):=by omega
   refine ⟨fun h=>absurd (dt h) (by omega),fun _=>⟨by omega,_,by rw [e];exact ih,by omega,zj (by omega) (by omega),by rw [show (strB [(48+((n:Int) % 10)) % 256]).length=1 from rfl];omega, ?_⟩⟩;rw [← e];exact dec2 ⟨n,h⟩ (by simp only;omega)
theorem zd9 {x:Int} (h0:0≤x) (h1:x≤255):zbd x (Lib.itoa x):=by
 obtain ⟨n,rfl⟩:∃n:Nat,x=n:=⟨x.toNat,by omega⟩;exact ⟨3,dec_n 2 n (by omega) (by omega)⟩
theorem zc4 {x:Int} (h0:0≤x) (h1:x≤255):zcc x (Lib.itoa x):=⟨zj (by omega) (by omega),rfl⟩
theorem zq (k:Int):zcs k (lvl k):=by
 unfold lvl;refine ⟨fun h=>?_,fun h=>⟨fun h4=>?_,fun h4=>⟨fun h6=>⟨fun _=>?_,fun h=>?_⟩,fun h6=>⟨fun h7=>?_,fun h7=>?_⟩⟩⟩⟩
 ·rw [if_pos (by simpa using h)]
 ·rw [if_neg (by simpa using h),if_pos (by simpa using h4)]
 ·have h6:k=6:=by simpa using h6
  subst h6;rfl
 ·rw [h6] at h;cases h
 ·have h7:k=7:=by simpa using h7
  subst h7;rfl
 ·have a5:k≠5:=by simpa using h
  have a4:k≠4:=by simpa using h4
  have a6:k≠6:=by simpa using h6
  have a7:k≠7:=by simpa using h7
  rw [if_neg a5,if_neg a4,if_neg (by omega)]
theorem own_in {k:Int} (h1:1≤k) (h9:k≤9):(zew gfm0 k=false→lvl k=3)∧(zew gfm0 k=true→lvI (zcl gfm0 k none)=lvl k):=by
 have:k=1∨k=2∨k=3∨k=4∨k=5∨k=6∨k=7∨k=8∨k=9:=by omega
 rcases this with rfl | rfl | rfl | rfl | rfl | rfl | rfl | rfl | rfl <;> decide
section
variable {α : Type} (F1 F2 F3 F4 F5 F6 F7 F8 F9 z : α)
theorem mp9:zx (zx (zx (zx (zx (zx (zx (zx (zx ([]:List (Int × α)) 1 F1) 2 F2) 3 F3) 4 F4) 5 F5) 6 F6) 7 F7) 8 F8) 9 F9=[(1,F1),(2,F2),(3,F3),(4,F4),(5,F5),(6,F6),(7,F7),(8,F8),(9,F9)]:=by simp [zx,zew]
theorem mp_1:zcl (zx (zx (zx (zx (zx (zx (zx (zx (zx ([]:List (Int × α)) 1 F1) 2 F2) 3 F3) 4 F4) 5 F5) 6 F6) 7 F7) 8 F8) 9 F9) 1 z=F1:=by rw [mp9];simp [zcl]
theorem mp_2:zcl (zx (zx (zx (zx (zx (zx (zx (zx (zx ([]:List (Int × α)) 1 F1) 2 F2) 3 F3) 4 F4) 5 F5) 6 F6) 7 F7) 8 F8) 9 F9) 2 z=F2:=by rw [mp9];simp [zcl]
theorem mp_3:zcl (zx (zx (zx (zx (zx (zx (zx (zx (zx ([]:List (Int × α)) 1 F1) 2 F2) 3 F3) 4 F4) 5 F5) 6 F6) 7 F7) 8 F8) 9 F9) 3 z=F3:=by rw [mp9];simp [zcl]
theorem mp_4:zcl (zx (zx (zx (zx (zx (zx (zx (zx (zx ([]:List (Int × α)) 1 F1) 2 F2) 3 F3) 4 F4) 5 F5) 6 F6) 7 F7) 8 F8) 9 F9) 4 z=F4:=by rw [mp9];simp [zcl]
theorem mp_5:zcl (zx (zx (zx (zx (zx (zx (zx (zx (zx ([]:List (Int × α)) 1 F1) 2 F2) 3 F3) 4 F4) 5 F5) 6 F6) 7 F7) 8 F8) 9 F9) 5 z=F5:=by rw [mp9];simp [zcl]
theorem mp_6:zcl (zx (zx (zx (zx (zx (zx (zx (zx (zx ([]:List (Int × α)) 1 F1) 2 F2) 3 F3) 4 F4) 5 F5) 6 F6) 7 F7) 8 F8) 9 F9) 6 z=F6:=by rw [mp9];simp [zcl]
theorem mp_7:zcl (zx (zx (zx (zx (zx (zx (zx (zx (zx ([]:List (Int × α)) 1 F1) 2 F2) 3 F3) 4 F4) 5 F5) 6 F6) 7 F7) 8 F8) 9 F9) 7 z=F7:=by rw [mp9];simp [zcl]
theorem mp_8:zcl (zx (zx (zx (zx (zx (zx (zx (zx (zx ([]:List (Int × α)) 1 F1) 2 F2) 3 F3) 4 F4) 5 F5) 6 F6) 7 F7) 8 F8) 9 F9) 8 z=F8:=by rw [mp9];simp [zcl]
theorem mp_9:zcl (zx (zx (zx (zx (zx (zx (zx (zx (zx ([]:List (Int × α)) 1 F1) 2 F2) 3 F3) 4 F4) 5 F5) 6 F6) 7 F7) 8 F8) 9 F9) 9 z=F9:=by rw [mp9];simp [zcl]
end
structure SbT (n_:SDesc→Int→Int→(Str × Int)→Prop) (d:List SNode) (f:Nat) (j:Int):Prop where
 run:∀lv,n_ d j lv (sbN f d j lv)
 lim:∀lv,Lim (sbN f d j lv) 1000
theorem one_in {n_:SDesc→Int→Int→(Str × Int)→Prop} {d:List SNode} {n:SNode} {f:Nat} (s:SbT n_ d f n.2.1) (lv:Int) {front back:Str} (h1:front.length≤1000) (h2:back.length≤1000):print_text_1.b n_ lv front back d n ((front++(sbN f d n.2.1 lv).1)++back,(sbN f d n.2.1 lv).2):=by
 have:=(s.lim lv).len;exact ⟨_,s.run lv,by omega,by rw [List.length_append];omega,rfl⟩
theorem two_in {n_:SDesc→Int→Int→(Str × Int)→Prop} {d:List SNode} {n:SNode} {f:Nat} (s:SbT n_ d f n.2.1) (t:SbT n_ d f n.2.2.1) {lv:Int} (hlv:0≤lv∧lv≤9) {bt:Str} (h1:bt.length≤1000):print_text_2.b n_ lv bt d n (((sbN f d n.2.1 lv).1++bt)++(sbN f d n.2.2.1 (lv+1)).1,max (sbN f d n.2.1 lv).2 (sbN f d n.2.2.1 (lv+1)).2):=by
 have a:=(s.lim lv).len;have b:=(t.lim (lv+1)).len;exact ⟨_,s.run lv,zj (by omega) (by omega),_,t.run (lv+1),by omega,by rw [List.length_append];omega,rfl⟩
def Kn (d:List SNode) (i:Int):Prop:=∃n,at? d i=some n∧1≤n.1∧n.1≤9
theorem Tr.kn {d:List SNode} {f i:Int} (h:Tr d f i):Kn d i:=by
 cases h with
 | leaf he hk _ _=>exact ⟨_,he,by omega,by omega⟩
 | one he hk _ _ _ _=>exact ⟨_,he,by omega,by omega⟩
 | two he hk _ _ _ _=>exact ⟨_,he,by omega,by omega⟩
theorem sb_of {d:List SNode} (ht:Txt d) (hl:d.length≤1000) (m:Nat) {f i:Int} (h:Tr d f i) (lv:Int):Lim (sbN m d i lv) 1000:=by
 have:=sb_lim ht m h lv;have h1:=h.le;have h2:=h.lt;exact ⟨by have:=this.len;omega,this.lo,by have:=this.hi;omega⟩
theorem text_own {n_:SDesc→Int→Int→(Str × Int)→Prop} {d:List SNode} (ht:Txt d) {f:Nat} {g i:Int} (h:Tr d g i) (hs:∀{g' j:Int},Tr d g' j→j<i→SbT n_ d f j) {lv:Int} (hlv:lv≤lvl (kd d i)) {r:Str × Int} (hr0:txN (f+1) d i=r):
  ∃n,at? d i=some n∧zg.j1 n_ d i lv r n (lvl n.1):=by
 cases h with
 | leaf he hk hx h0=>
  rename_i n
  rw [zfu he] at hlv;have hno:¬ lvl n.1<lv:=by omega
  have hm:=ht n (by obtain ⟨k,_,hk⟩:=at_nn he;exact List.mem_of_getElem? hk);rcases hk with k | k | k
  ·refine ⟨n,he,fun h=>absurd (dt h) hno,fun _=>⟨r, ?_,rfl⟩⟩;rw [← hr0,k,mp_1];exact (tx1 he f k)
  ·refine ⟨n,he,fun h=>absurd (dt h) hno,fun _=>⟨r, ?_,rfl⟩⟩;rw [← hr0,k,mp_2];exact ⟨_,zbl,by rw [tx2 he f k]⟩
  ·refine ⟨n,he,fun h=>absurd (dt h) hno,fun _=>⟨r, ?_,rfl⟩⟩;rw [← hr0,k,mp_3];exact ⟨by simp;omega,by simp;omega,by rw [tx3 he f k]⟩
 | one he hk ha hb hr h1=>
  rename_i n
  rw [zfu he] at hlv;have s:SbT n_ d f n.2.1:=by rw [ha];exact hs h1 (by omega)
  have hno:¬ lvl n.1<lv:=by omega
  rcases hk with k | k | k | k
  ·refine ⟨n,he,fun h=>absurd (dt h) hno,fun _=>⟨r, ?_,rfl⟩⟩;rw [← hr0,k,mp_6];exact ⟨(([]++(sbN f d n.2.1 2).1)++[42],(sbN f d n.2.1 2).2),one_in s 2 (front:=[]) (back:=[42]) (by simp) (by simp),by rw [tx6 he f k];simp⟩
  ·refine ⟨n,he,fun h=>absurd (dt h) hno,fun _=>⟨r, ?_,rfl⟩⟩;rw [← hr0,k,mp_7];obtain ⟨r1,r2,r3⟩:=hr k;have e1:=zcx r1 (show n.2.2.2.1≤255 by omega);have e2:=zcx (show 0≤n.2.2.2.2.1 by omega) r3;exact ⟨_,zc4 r1 (by omega),by simp;omega,by simp;omega,_,zc4 (by omega) r3,by simp;omega,by simp;omega,(([]++(sbN f d n.2.1 2).1)++(((([123]++Lib.itoa n.2.2.2.1)++[44])++Lib.itoa n.2.2.2.2.1)++[125]),(sbN f d n.2.1 2).2),one_in s 2 (front:=[]) (back:=((([123]++Lib.itoa n.2.2.2.1)++[44])++Lib.itoa n.2.2.2.2.1)++[125]) (by simp) (by simp;omega),by rw [tx7 he f k];simp⟩
  ·refine ⟨n,he,fun h=>absurd (dt h) hno,fun _=>⟨r, ?_,rfl⟩⟩;rw [← hr0,k,mp_8];have:=(s.lim 0).hi;have:=(s.lim 0).lo;exact ⟨(([98,40]++(sbN f d n.2.1 0).1)++[41],(sbN f d n.2.1 0).2+1),⟨(([98,40]++(sbN f d n.2.1 0).1)++[41],(sbN f d n.2.1 0).2),one_in s 0 (front:=[98,40]) (back:=[41]) (by simp) (by simp),zj (by omega) (by omega),rfl⟩,by rw [tx8 he f k]⟩
  ·refine ⟨n,he,fun h=>absurd (dt h) hno,fun _=>⟨r, ?_,rfl⟩⟩;rw [← hr0,k,mp_9];have:=(s.lim 0).hi;have:=(s.lim 0).lo;exact ⟨(([119,40]++(sbN f d n.2.1 0).1)++[41],(sbN f d n.2.1 0).2+1),⟨(([119,40]++(sbN f d n.2.1 0).1)++[41],(sbN f d n.2.1 0).2),one_in s 0 (front:=[119,40]) (back:=[41]) (by simp) (by simp),zj (by omega) (by omega),rfl⟩,by rw [tx9 he f k]⟩
 | two he hk ha hb h1 h2=>
  rename_i p n
  rw [zfu he] at hlv;have l1:=h1.le;have s:SbT n_ d f n.2.1:=by rw [ha];exact hs h2 (by omega)
  have t:SbT n_ d f n.2.2.1:=by rw [hb];exact hs h1 (by omega)
  have hno:¬ lvl n.1<lv:=by omega
  rcases hk with k | k
  ·refine ⟨n,he,fun h=>absurd (dt h) hno,fun _=>⟨r, ?_,rfl⟩⟩;rw [← hr0,k,mp_4];exact ⟨(((sbN f d n.2.1 1).1++[])++(sbN f d n.2.2.1 2).1,max (sbN f d n.2.1 1).2 (sbN f d n.2.2.1 2).2),two_in s t (lv:=1) (by omega) (bt:=[]) (by simp),by rw [tx4 he f k];simp⟩
  ·refine ⟨n,he,fun h=>absurd (dt h) hno,fun _=>⟨r, ?_,rfl⟩⟩;rw [← hr0,k,mp_5];exact ⟨(((sbN f d n.2.1 0).1++[124])++(sbN f d n.2.2.1 1).1,max (sbN f d n.2.1 0).2 (sbN f d n.2.2.1 1).2),two_in s t (lv:=0) (by omega) (bt:=[124]) (by simp),by rw [tx5 he f k]⟩
theorem own_step {n_:SDesc→Int→Int→(Str × Int)→Prop} {d:List SNode} {i lv:Int} {r:Str × Int} {n:SNode} (h1:1≤n.1) (h9:n.1≤9) (h:zg.j1 n_ d i lv r n (lvl n.1)):
  (((!(zew gfm0 n.1)))=true→(zg.j1 n_ d i lv r n) 3)∧(((!(zew gfm0 n.1)))=false→(zg.j1 n_ d i lv r n) (lvI (zcl gfm0 n.1 none))):=by
 obtain ⟨o1,o2⟩:=own_in h1 h9;refine ⟨fun hm=>?_,fun hm=>?_⟩
 ·rw [← o1 (by simpa using hm)];exact h
 ·rw [o2 (by simpa using hm)];exact h
theorem print_in {d:List SNode} (ht:Txt d) (hl:d.length≤1000):∀(f:Nat) {g i:Int},Tr d g i→i<(f:Int)→(∀k lv,2*f≤k+1→lv≤lvl (kd d i)→zg.n k d i lv (txN f d i))∧∀k lv,2*f≤k→zg.n k d i lv (sbN f d i lv)
 | 0,g,i,h,hi=>by have:=h.le;omega
 | f+1,g,i,h,hi=>by
  have ih:=fun {g i:Int} (h:Tr d g i) (hi:i<(f:Int))=>print_in ht hl f h hi;have A:∀k lv,2*(f+1)≤k+1→lv≤lvl (kd d i)→zg.n k d i lv (txN (f+1) d i):=fun k lv hk hlv=>by
   obtain ⟨k,rfl⟩:∃m,k=m+1:=⟨k-1,by omega⟩;obtain ⟨n,hn,hj⟩:=text_own (n_:=zg.n k) ht (f:=f) h (fun h' hj=>⟨fun lv=>(ih h' (by omega)).2 k lv (by omega),sb_of ht hl f h'⟩) hlv rfl;obtain ⟨m,hm,k1,k9⟩:=h.kn;rw [hn] at hm;cases hm;exact ⟨n,hn,own_step k1 k9 hj⟩
  refine ⟨A,fun k lv hk=>?_⟩
  by_cases hlv:lvl (kd d i)<lv
  ·obtain ⟨k,rfl⟩:∃m,k=m+1:=⟨k-1,by omega⟩;obtain ⟨n,hn,k1,k9⟩:=h.kn;have hL:=ze8 ht (f+1) h;have h1:=h.le;have h2:=h.lt;refine ⟨n,hn,own_step k1 k9 ⟨fun _=>⟨txN (f+1) d i, ?_,by simp;omega,by simp;omega,zj (by omega) (by omega), ?_⟩,fun hd=>?_⟩⟩
   ·have:=A k (lvl (kd d i)) (by omega) (Int.le_refl _)
    rwa [zfu hn] at this
   ·unfold sbN brk;rw [if_pos hlv]
   ·rw [zfu hn] at hlv;exact absurd hlv (df hd)
  ·have:=A k lv (by omega) (by omega);unfold sbN brk;rw [if_neg hlv];exact this
def txD (d:List SNode):Str × Int:=txN d.length d ((d.length:Int)-1)
theorem lvl_pos (k:Int):0≤lvl k:=by
 unfold lvl;split
 ·omega
 ·split
  ·omega
  ·split <;> omega
theorem zdw {d:List SNode} (h:Tr d 0 ((d.length:Int)-1)) (hl:d.length≤1000) (ht:Txt d):zg d ((d.length:Int)-1) 0 (txD d):=by
 have:=h.le;exact ⟨2*d.length,(print_in ht hl d.length h (by omega)).1 _ 0 (by omega) (lvl_pos _)⟩
theorem zcv {d:List SNode} (h:Tr d 0 ((d.length:Int)-1)) (hl:d.length≤1000) (ht:Txt d):zbn d (txD d).1:=⟨zj (by omega) (by omega),_,zdw h hl ht,rfl⟩
theorem zb3 {d:List SNode} (h:Tr d 0 ((d.length:Int)-1)) (hl:d.length≤1000) (ht:Txt d):zbe d (txD d).2:=⟨zj (by omega) (by omega),_,zdw h hl ht,rfl⟩
end Go.Proofs.YtamjkbneebghmaaDoor.V
namespace Go.Proofs.YtamjkbneebghmaaDoor.V
open Go
set_option linter.unusedVariables false
def oDot:List SNode:=[(2,0,0,0,0,Cl.row 0 255,([]:Str))]
def oOr:List SNode:=zeu 5 oDot oDot
def oS:List SNode:=zfg 6 oOr
def oW:List SNode:=zfg 8 oS
theorem zev:Tr oDot 0 ((oDot.length:Int)-1):=leaf_tr (.inr rfl) ⟨rfl,rfl⟩
theorem oOr_tr:Tr oOr 0 ((oOr.length:Int)-1):=pair_tr zev zev (.inr rfl)
theorem oS_tr:Tr oS 0 ((oS.length:Int)-1):=wrap_tr oOr_tr (.inl rfl)
theorem oW_tr:Tr oW 0 ((oW.length:Int)-1):=wrap_tr oS_tr (.inr (.inl rfl))
theorem no_txt {d:List SNode} (h:∀n∈d,n.2.2.2.2.2.2=[]):Txt d:=fun n hn=>by rw [h n hn];simp
theorem awake06:zb7 true:=by
 have u8:∀c:Int,0≤c∧c≤255→InR .u8 c:=fun c h=>inR_u8.2 h;have tS:Txt oS:=no_txt (by decide +kernel);have tW:Txt oW:=no_txt (by decide +kernel);have tD:Txt oDot:=no_txt (by decide +kernel);have w1:zbn oS [40,46,124,46,41,42]:=by
  have:=zcv oS_tr (by decide +kernel) tS
  rwa [show (txD oS).1=[40,46,124,46,41,42] by decide +kernel] at this
 have w2:zbe oS 1:=by
  have:=zb3 oS_tr (by decide +kernel) tS
  rwa [show (txD oS).2=1 by decide +kernel] at this
 have w3:zbn oW [98,40,40,46,124,46,41,42,41]:=by
  have:=zcv oW_tr (by decide +kernel) tW
  rwa [show (txD oW).1=[98,40,40,46,124,46,41,42,41] by decide +kernel] at this
 have w4:zbe oW 2:=by
  have:=zb3 oW_tr (by decide +kernel) tW
  rwa [show (txD oW).2=2 by decide +kernel] at this
 have w5:za (Cl.row 97 98) [60,54,49,45,54,50,62]:=by
  have:=zbl (a:=Cl.row 97 98)
  rwa [show ze1 (Cl.row 97 98)=[60,54,49,45,54,50,62] by decide +kernel] at this
 have w6:za (0#256) [60,62]:=by
  have:=zbl (a:=0#256)
  rwa [show ze1 (0#256)=[60,62] by decide +kernel] at this
 have w7:za (Cl.ofWords 5 0 0 0) [60,48,48,44,48,50,62]:=by
  have:=zbl (a:=Cl.ofWords 5 0 0 0)
  rwa [show ze1 (Cl.ofWords 5 0 0 0)=[60,48,48,44,48,50,62] by decide +kernel] at this
 have w8:zbe oDot 0:=by
  have:=zb3 zev (by decide +kernel) tD
  rwa [show (txD oDot).2=0 by decide +kernel] at this
 refine ⟨Cl.row 0 255,zc7 (u8 0 (by decide)) (u8 255 (by decide)),oOr,Pair_in zev zev (by decide) (by decide),oS,Wrap_in oOr_tr (by decide +kernel),oW,Wrap_in oS_tr (by decide +kernel),_,w1,_,fun _=>w2,_,rfl,_,fun _=>w3,_,rfl,_,fun _=>w4,_,fun _=>zc7 (u8 97 (by decide)) (u8 98 (by decide)),_,fun _=>w5,_,rfl,_,fun _=>w6,_,fun _=>w7,_,rfl,_,fun _=>w8, ?_⟩;decide
theorem guard06 {d:List SNode} (ht:Txt d):∃r4 r6:Bool,zz d r4∧(r4=true→zco d r6)∧(r4=true→r6=true→d.length≤100∧Tr d 0 ((d.length:Int)-1)):=by
 obtain ⟨r,h,k⟩:=few_ex ht;cases r
 ·exact ⟨false,false,h,(fun h=>by cases h),fun h=>by cases h⟩
 ·have hl:=k rfl;obtain ⟨s,hs,ks⟩:=form_ex (by omega) ht;exact ⟨true,s,h,fun _=>hs,fun _ e=>⟨hl,ks e⟩⟩
theorem nq {a b:Int} {p:Prop} (h:a≠b) (e:(a==b)=true):p:=absurd (eq_of_beq e) h
theorem yq {a b:Int} {p:Prop} (h:a=b) (e:(a==b)=false):p:=by subst h;simp at e
theorem refat_own {d:List SNode} (ht:Txt d) (hl:d.length≤1000) {f k:Nat} {g i:Int} (h:Tr d g i) (hs:∀{g' j:Int},Tr d g' j→j<i→∀lv,zt.n k d j lv (sbN f d j lv).1) {lv:Int} (hlv:lv≤lvl (kd d i)) {r:Str} (hr0:(txN (f+1) d i).1=r):zt.n (k+1) d i lv r:=by
 have lim:=fun {g' j:Int} (t:Tr d g' j) (lv:Int)=>(sb_of ht hl f t lv).len;cases h with
 | leaf he hk hx h0=>
  rename_i n
  rw [zfu he] at hlv;have hno:¬ lvl n.1<lv:=by omega
  have hm:=ht n (by obtain ⟨k,_,hk⟩:=at_nn he;exact List.mem_of_getElem? hk);subst hr0;rcases hk with e | e | e
  ·exact ⟨n,he,_,zq _,fun h=>absurd (dt h) hno,fun _=>⟨fun _=>by rw [tx1 he f e],yq e⟩⟩
  ·exact ⟨n,he,_,zq _,fun h=>absurd (dt h) hno,fun _=>⟨nq (by omega),fun _=>⟨fun _=>⟨_,zdh,by rw [tx2 he f e]⟩,yq e⟩⟩⟩
  ·exact ⟨n,he,_,zq _,fun h=>absurd (dt h) hno,fun _=>⟨nq (by omega),fun _=>⟨nq (by omega),fun _=>⟨fun _=>⟨by simp;omega,by simp;omega,by rw [tx3 he f e]⟩,yq e⟩⟩⟩⟩
 | one he hk ha hb hr h1=>
  rename_i n
  rw [zfu he] at hlv;have hno:¬ lvl n.1<lv:=by omega
  have s:=fun lv=>hs h1 (by omega) lv;have l0:=lim h1 0;have l2:=lim h1 2;rw [← ha] at s l0 l2;subst hr0;rcases hk with e | e | e | e
  ·exact ⟨n,he,_,zq _,fun h=>absurd (dt h) hno,fun _=>⟨nq (by omega),fun _=>⟨nq (by omega),fun _=>⟨nq (by omega),fun _=>⟨nq (by omega),fun _=>⟨nq (by omega),fun _=>⟨fun _=>⟨_,s 2,by simp;omega,by rw [tx6 he f e]⟩,yq e⟩⟩⟩⟩⟩⟩⟩
  ·obtain ⟨r1,r2,r3⟩:=hr e;have e1:=zcx r1 (show n.2.2.2.1≤255 by omega);have e2:=zcx (show 0≤n.2.2.2.2.1 by omega) r3;exact ⟨n,he,_,zq _,fun h=>absurd (dt h) hno,fun _=>⟨nq (by omega),fun _=>⟨nq (by omega),fun _=>⟨nq (by omega),fun _=>⟨nq (by omega),fun _=>⟨nq (by omega),fun _=>⟨nq (by omega),fun _=>⟨fun _=>⟨_,s 2,by simp;omega,_,zd9 r1 (by omega),by simp;omega,by simp;omega,_,zd9 (by omega) r3,by simp;omega,by simp;omega,by rw [tx7 he f e];simp⟩,yq e⟩⟩⟩⟩⟩⟩⟩⟩
  ·exact ⟨n,he,_,zq _,fun h=>absurd (dt h) hno,fun _=>⟨nq (by omega),fun _=>⟨nq (by omega),fun _=>⟨nq (by omega),fun _=>⟨nq (by omega),fun _=>⟨nq (by omega),fun _=>⟨nq (by omega),fun _=>⟨nq (by omega),fun _=>⟨fun _=>⟨_,s 0,by simp;omega,by simp;omega,by rw [tx8 he f e]⟩,yq e⟩⟩⟩⟩⟩⟩⟩⟩⟩
  ·exact ⟨n,he,_,zq _,fun h=>absurd (dt h) hno,fun _=>⟨nq (by omega),fun _=>⟨nq (by omega),fun _=>⟨nq (by omega),fun _=>⟨nq (by omega),fun _=>⟨nq (by omega),fun _=>⟨nq (by omega),fun _=>⟨nq (by omega),fun _=>⟨nq (by omega),fun _=>⟨_,s 0,by simp;omega,by simp;omega,by rw [tx9 he f e]⟩⟩⟩⟩⟩⟩⟩⟩⟩⟩
 | two he hk ha hb h1 h2=>
  rename_i p n
  rw [zfu he] at hlv;have hno:¬ lvl n.1<lv:=by omega
  have l1:=h1.le;have s:=fun lv=>hs h2 (by omega) lv;have t:=fun lv=>hs h1 (by omega) lv;have s0:=lim h2 0;have s1:=lim h2 1;have t1:=lim h1 1;have t2:=lim h1 2;rw [← ha] at s s0 s1;rw [← hb] at t t1 t2;subst hr0;rcases hk with e | e
  ·exact ⟨n,he,_,zq _,fun h=>absurd (dt h) hno,fun _=>⟨nq (by omega),fun _=>⟨nq (by omega),fun _=>⟨nq (by omega),fun _=>⟨fun _=>⟨_,s 1,_,t 2,by omega,by rw [tx4 he f e]⟩,yq e⟩⟩⟩⟩⟩
  ·exact ⟨n,he,_,zq _,fun h=>absurd (dt h) hno,fun _=>⟨nq (by omega),fun _=>⟨nq (by omega),fun _=>⟨nq (by omega),fun _=>⟨nq (by omega),fun _=>⟨fun _=>⟨_,s 0,by simp;omega,_,t 1,by simp;omega,by rw [tx5 he f e]⟩,yq e⟩⟩⟩⟩⟩⟩
theorem refat_in {d:List SNode} (ht:Txt d) (hl:d.length≤1000):∀(f:Nat) {g i:Int},Tr d g i→i<(f:Int)→(∀k lv,2*f≤k+1→lv≤lvl (kd d i)→zt.n k d i lv (txN f d i).1)∧∀k lv,2*f≤k→zt.n k d i lv (sbN f d i lv).1
 | 0,g,i,h,hi=>by have:=h.le;omega
 | f+1,g,i,h,hi=>by
  have ih:=fun {g i:Int} (h:Tr d g i) (hi:i<(f:Int))=>refat_in ht hl f h hi;have A:∀k lv,2*(f+1)≤k+1→lv≤lvl (kd d i)→zt.n k d i lv (txN (f+1) d i).1:=fun k lv hk hlv=>by
   obtain ⟨k,rfl⟩:∃m,k=m+1:=⟨k-1,by omega⟩;exact refat_own ht hl h (fun h' hj lv=>(ih h' (by omega)).2 k lv (by omega)) hlv rfl
  refine ⟨A,fun k lv hk=>?_⟩
  by_cases hlv:lvl (kd d i)<lv
  ·obtain ⟨k,rfl⟩:∃m,k=m+1:=⟨k-1,by omega⟩;obtain ⟨n,hn,k1,k9⟩:=h.kn;have hL:=ze8 ht (f+1) h;have h1:=h.le;have h2:=h.lt;have hA:=A k 0 (by omega) (lvl_pos _);unfold sbN brk;rw [if_pos hlv];rw [zfu hn] at hlv;exact ⟨n,hn,_,zq _,fun _=>⟨_,hA,by simp;omega,by simp;omega,rfl⟩,fun hd=>absurd hlv (df hd)⟩
  ·have:=A k lv (by omega) (by omega);unfold sbN brk;rw [if_neg hlv];exact this
theorem zdt {d:List SNode} (h:Tr d 0 ((d.length:Int)-1)) (hl:d.length≤1000) (ht:Txt d):zb4 d (txD d).1:=by
 have:=h.le;exact ⟨zj (by omega) (by omega),_,⟨2*d.length,(refat_in ht hl d.length h (by omega)).1 _ 0 (by omega) (lvl_pos _)⟩,rfl⟩
abbrev Sca:=Int × Int × Bool
def st6 (s:Sca) (c:UInt8):Sca:=
 let q:=if ((c.toNat:Int)==34)=true then !s.2.2 else s.2.2
 let o:=if (((c.toNat:Int)==40)&&(!q))=true then s.2.1+1 else s.2.1
 let p:=if (((c.toNat:Int)==41)&&(!q))=true then o-1 else o
 (max s.1 p,p,q)
def sca (t:Str) (s:Sca):Sca:=t.foldl st6 s
theorem zd1 (a b:Str) (s:Sca):sca (a++b) s=sca b (sca a s):=List.foldl_append ..
theorem st6_op (s:Sca) (c:UInt8):s.2.1-1≤(st6 s c).2.1∧(st6 s c).2.1≤s.2.1+1:=by
 unfold st6;simp only;split <;> split <;> split <;> omega
theorem zfn {d:List SNode} {t:Str} (h:zb4 d t) (hl:t.length≤1000000000000000000):zf d (sca t (0,0,false)).1:=by
 refine ⟨t,h, ?_⟩;refine upto (P:=fun k (s:Sca) v=>zf.l1 t (zf.j1 (sca t (0,0,false)).1) k s.1 s.2.1 s.2.2 v) t.length (fun i s=>s=sca (t.take i) (0,0,false)∧-(i:Int)≤s.2.1∧s.2.1≤(i:Int)) ?_ ?_ (0,0,false) ⟨by simp [sca],by simp,by simp⟩
 ·rintro i s hi ⟨h1,h2,h3⟩;have hat:at? t (i:Int)=some t[i]:=by rw [zdk];exact List.getElem?_eq_getElem hi
  have hb:zcz t (i:Int)=some (t[i].toNat:Int):=by unfold zcz;rw [hat];rfl
  have hnx:sca (t.take (i+1)) (0,0,false)=st6 s t[i]:=by
   rw [List.take_succ_eq_append_getElem hi,zd1,← h1];rfl
  have hop:=st6_op s t[i];refine .inr ⟨st6 s t[i],⟨hnx.symm,by omega,by omega⟩,fun k hk=>⟨fun _=>⟨_,hb, ?_⟩,fun h=>absurd (by omega) (df h)⟩⟩;have ii:InR .i64 ((i:Int)+1):=zj (by omega) (by omega);have k2:∀q o,(st6 s t[i])=(max s.1 (if (((t[i].toNat:Int)==41)&&(!q))=true then o-1 else o),(if (((t[i].toNat:Int)==41)&&(!q))=true then o-1 else o),q)→-(i:Int)-1≤o→o≤(i:Int)+1→zf.j2 (zf.l1 t (zf.j1 (sca t (0,0,false)).1) k) t s.1 (i:Int) q o:=fun q o he o1 o2=>by
   rw [he] at hk;refine ⟨_,hb,fun hc=>⟨zj (by omega) (by omega),ii, ?_⟩,fun hc=>⟨ii, ?_⟩⟩
   ·rw [if_pos hc] at hk;exact hk
   ·rw [if_neg (by rw [hc];simp)] at hk;exact hk
  have k3:∀q,(if ((t[i].toNat:Int)==34)=true then !s.2.2 else s.2.2)=q→zf.j3 (zf.l1 t (zf.j1 (sca t (0,0,false)).1) k) t s.1 s.2.1 (i:Int) q:=fun q he=>by
   refine ⟨_,hb,fun hc=>⟨zj (by omega) (by omega),k2 q _ ?_ (by omega) (by omega)⟩,fun hc=>k2 q _ ?_ (by omega) (by omega)⟩
   ·unfold st6;simp only [he];rw [if_pos hc]
   ·unfold st6;simp only [he];rw [if_neg (show ¬ ((((t[i].toNat:Int)==40)&&(!q))=true) by rw [hc];simp)]
  refine ⟨fun hc=>k3 _ ?_,fun hc=>k3 _ ?_⟩
  ·rw [if_pos hc]
  ·rw [if_neg (by rw [hc];simp)]
 ·rintro s ⟨h1,_,_⟩ k;refine ⟨fun h=>absurd (dt h) (by omega),fun _=>?_⟩;show (sca t (0,0,false)).1=s.1;rw [h1,List.take_length]
def ScD (t:Str) (D:Int):Prop:=∀a b:Int,b≤a→sca t (a,b,false)=(max a (b+D),b,false)
theorem sc_nil:ScD [] 0:=fun a b h=>by
 unfold sca;rw [List.foldl_nil,show max a (b+0)=a by omega]
theorem zel {s t:Str} {D E:Int} (h:ScD s D) (k:ScD t E):ScD (s++t) (max D E):=fun a b hb=>by
 rw [zd1,h a b hb,k _ b (by omega)];rw [show max (max a (b+D)) (b+E)=max a (b+max D E) by omega]
def Pln (c:UInt8):Prop:=c≠34∧c≠40∧c≠41
theorem nat_ne {c k:UInt8} (h:c≠k):((c.toNat:Int)==(k.toNat:Int))=false:=by
 rw [beq_eq_false_iff_ne];intro e;exact h (UInt8.toNat.inj (by omega))
theorem st6_pln {c:UInt8} (h:Pln c) (s:Sca):st6 s c=(max s.1 s.2.1,s.2.1,s.2.2):=by
 have e1:((c.toNat:Int)==34)=false:=nat_ne h.1;have e2:((c.toNat:Int)==40)=false:=nat_ne h.2.1;have e3:((c.toNat:Int)==41)=false:=nat_ne h.2.2;unfold st6;simp [e1,e2,e3]
theorem sc_pln {s:Str} (h:∀c∈s,Pln c):ScD s 0:=by
 induction s with
 | nil=>exact sc_nil
 | cons c s ih=>
  intro a b hb;have ih:=ih fun x hx=>h x (by simp [hx]);have:sca (c::s) (a,b,false)=sca s (st6 (a,b,false) c):=rfl;rw [this,st6_pln (h c (by simp))];simp only;rw [show max a b=a by omega];exact ih a b hb
theorem sc_brk {s:Str} {D:Int} (h:ScD s D) (h0:0≤D):ScD (([40]++s)++[41]) (D+1):=fun a b hb=>by
 rw [zd1,zd1];have e1:sca [40] (a,b,false)=(max a (b+1),b+1,false):=rfl;rw [e1,h _ _ (by omega)];have e2:∀x y:Int,sca [41] (x,y,false)=(max x (y-1),y-1,false):=fun _ _=>rfl;rw [e2,show b+1-1=b by omega,show max (max (max a (b+1)) (b+1+D)) b=max a (b+(D+1)) by omega]
theorem sca_quo {s:Str} (h:∀c∈s,c≠34):∀{a b:Int},b≤a→sca s (a,b,true)=(a,b,true):=by
 induction s with
 | nil=>intro a b _;rfl
 | cons c s ih=>
  intro a b hb;have e:sca (c::s) (a,b,true)=sca s (st6 (a,b,true) c):=rfl;have e1:((c.toNat:Int)==34)=false:=nat_ne (h c (by simp));have e2:st6 (a,b,true) c=(a,b,true):=by
   unfold st6;simp [e1];omega
  rw [e,e2];exact ih (fun x hx=>h x (by simp [hx])) hb
theorem sc_quo {s:Str} (h:∀c∈s,c≠34):ScD (([34]++s)++[34]) 0:=fun a b hb=>by
 rw [zd1,zd1];have e1:sca [34] (a,b,false)=(max a b,b,true):=rfl;rw [e1,sca_quo h (by omega)];have e2:∀x y:Int,sca [34] (x,y,true)=(max x y,y,false):=fun _ _=>rfl;rw [e2,show max (max a b) b=max a (b+0) by omega]
instance (c : UInt8) : Decidable (Pln c):=by unfold Pln; infer_instance
theorem hx_pln:∀n:Fin 16,Pln (hx16.getD n.val 0):=by decide +kernel
theorem hexS_pln {c:Nat} (h:c<256):∀x∈hexS c,Pln x:=fun x hx=>by
 unfold hexS at hx;simp only [List.mem_cons,List.not_mem_nil,or_false] at hx;rcases hx with rfl | rfl
 ·exact hx_pln ⟨c / 16,by omega⟩
 ·exact hx_pln ⟨c % 16,by omega⟩
theorem refS_pln (P:Nat→Bool):∀c,c≤256→∀x∈refS P c,Pln x
 | 0,_,x,hx=>by
  unfold refS at hx;rw [List.mem_singleton.1 hx];decide
 | c+1,h,x,hx=>by
  have ih:=refS_pln P c (by omega);have hh:=hexS_pln (c:=c) (by omega);have one:∀{s:Str} {k:UInt8},(∀x∈s,Pln x)→Pln k→∀x∈s++[k],Pln x:=fun h1 h2 x hx=>(List.mem_append.1 hx).elim (h1 x) fun e=>by rw [List.mem_singleton.1 e];exact h2
  have app:∀{s:Str},(∀x∈s,Pln x)→∀x∈s++hexS c,Pln x:=fun h1 x hx=>(List.mem_append.1 hx).elim (h1 x) (hh x);have e1:∀x∈s1C P c (refS P c),Pln x:=by
   unfold s1C;split
   ·exact one ih (by decide)
   ·exact ih
  have e2:∀x∈s2C P c (refS P c),Pln x:=by
   unfold s2C;split
   ·exact app e1
   ·exact e1
  unfold refS at hx;split at hx
  ·unfold s3C at hx;split at hx
   ·exact app (one e2 (by decide)) x hx
   ·exact e2 x hx
  ·exact ih x hx
theorem clsT_pln (a:Cl):∀x∈ze1 a,Pln x:=fun x hx=>by
 unfold ze1 at hx;split at hx
 ·rw [List.mem_singleton.1 hx];decide
 ·rcases List.mem_append.1 hx with hx | hx
  ·exact refS_pln a.has 256 (Nat.le_refl _) x hx
  ·rw [List.mem_singleton.1 hx];decide
theorem itoa_pln0:∀n:Fin 256,∀c∈Lib.itoa (n.val:Int),Pln c:=by decide +kernel
theorem itoa_pln {x:Int} (h0:0≤x) (h1:x≤255):∀c∈Lib.itoa x,Pln c:=by
 obtain ⟨n,rfl⟩:∃n:Nat,x=n:=⟨x.toNat,by omega⟩;exact itoa_pln0 ⟨n,by omega⟩
theorem tx_sc {d:List SNode} (ht:Txt d):∀(m:Nat) {f i:Int},Tr d f i→ScD (txN m d i).1 (txN m d i).2
 | 0,f,i,h=>sc_nil
 | m+1,f,i,h=>by
  have sub:∀{f i:Int} (h:Tr d f i) (lv:Int),ScD (sbN m d i lv).1 (sbN m d i lv).2∧0≤(sbN m d i lv).2:=fun {f i} h lv=>by
   have h1:=tx_sc ht m h;have h2:=(ze8 ht m h).2.1;unfold sbN brk;split
   ·exact ⟨sc_brk h1 h2,by simp only;omega⟩
   ·exact ⟨h1,h2⟩
  have pl:∀{l:Str},(∀c∈l,Pln c)→ScD l 0:=sc_pln;have p1:∀{k:UInt8},Pln k→∀c∈([k]:Str),Pln c:=fun h c hc=>by rw [List.mem_singleton.1 hc];exact h
  have pa:∀{s t:Str},(∀c∈s,Pln c)→(∀c∈t,Pln c)→∀c∈s++t,Pln c:=fun h k c hc=>(List.mem_append.1 hc).elim (h c) (k c);cases h with
  | leaf he hk hx h0=>
   rename_i n
   rcases hk with k | k | k
   ·rw [tx1 he m k];have:=sc_brk sc_nil (Int.le_refl 0);simpa using this
   ·rw [tx2 he m k];exact pl (clsT_pln _)
   ·rw [tx3 he m k];exact sc_quo (hx k).2
  | one he hk ha hb hr h1=>
   rename_i n
   obtain ⟨s0,z0⟩:=sub h1 0;obtain ⟨s2,z2⟩:=sub h1 2;rw [← ha] at s0 z0 s2 z2;rcases hk with k | k | k | k
   ·rw [tx6 he m k];have:=zel s2 (pl (p1 (k:=42) (by decide)))
    rwa [show max (sbN m d n.2.1 2).2 0=(sbN m d n.2.1 2).2 by omega] at this
   ·obtain ⟨r1,r2,r3⟩:=hr k;rw [tx7 he m k];have:=zel s2 (pl (pa (pa (pa (pa (p1 (k:=123) (by decide)) (itoa_pln r1 (show n.2.2.2.1≤255 by omega))) (p1 (k:=44) (by decide))) (itoa_pln (show 0≤n.2.2.2.2.1 by omega) r3)) (p1 (k:=125) (by decide))))
    rwa [show max (sbN m d n.2.1 2).2 0=(sbN m d n.2.1 2).2 by omega] at this
   ·rw [tx8 he m k];have:=zel (pl (p1 (k:=98) (by decide))) (sc_brk s0 z0);rw [show max 0 ((sbN m d n.2.1 0).2+1)=(sbN m d n.2.1 0).2+1 by omega] at this;simpa using this
   ·rw [tx9 he m k];have:=zel (pl (p1 (k:=119) (by decide))) (sc_brk s0 z0);rw [show max 0 ((sbN m d n.2.1 0).2+1)=(sbN m d n.2.1 0).2+1 by omega] at this;simpa using this
  | two he hk ha hb h1 h2=>
   rename_i p n
   rcases hk with k | k
   ·have sA:=(sub h2 1).1;have sB:=(sub h1 2).1;rw [← ha] at sA;rw [← hb] at sB;rw [tx4 he m k];exact zel sA sB
   ·obtain ⟨sA,zA⟩:=sub h2 0;have sB:=(sub h1 1).1;rw [← ha] at sA zA;rw [← hb] at sB;rw [tx5 he m k];have:=zel (zel sA (pl (p1 (k:=124) (by decide)))) sB
    rwa [show max (sbN m d n.2.1 0).2 0=(sbN m d n.2.1 0).2 by omega] at this
theorem zfm {d:List SNode} (h:Tr d 0 ((d.length:Int)-1)) (hl:d.length≤1000) (ht:Txt d):zf d (txD d).2:=by
 have h1:=ze8 ht d.length h;have h2:=tx_sc ht d.length h;have:=zfn (zdt h hl ht) (by unfold txD;omega);have e:(sca (txD d).1 (0,0,false)).1=(txD d).2:=by
  unfold txD;rw [h2 0 0 (Int.le_refl 0)];simp only;omega
 rwa [e] at this
theorem law06_PrintTells_true {d:List SNode} {a:Cl} (ht:Txt d):zbx d a true:=by
 obtain ⟨r4,r6,h4,h6,hD⟩:=guard06 ht;refine ⟨true,awake06,r4,fun _=>h4,r6,fun h=>h6 (by cases r4 <;> simp_all),fun _=>⟨true,awake06,rfl⟩,fun hc=>?_⟩;simp only [Bool.not_true,Bool.false_or,Bool.or_eq_false_iff,Bool.not_eq_false'] at hc;obtain ⟨g1,g2⟩:=hc;obtain ⟨l,t⟩:=hD g1 g2;refine ⟨_,zcv t (by omega) ht,_,zdt t (by omega) ht,_,fun _=>zb3 t (by omega) ht,_,fun _=>zfm t (by omega) ht,_,fun _=>zbl,_,fun _=>zdh, ?_⟩;simp
open Go.ChangeShapes Go.WideShapes Go.RowKit
structure Rd (P:Program) (t:TypeId) {α:Type} (E:En α) (G:α→Prop):Prop where
 sz:P.cellsOf t=E.sz
 rd:∀{H:Type} (enc:TypeId × Value→H) (w:World) (fuel:Nat) (cs:List Value) (x:DataW H × List MemPlace),
  DataW.trod enc P w 0 (fun _=>true) true fuel t cs=some x→(∀n∈x.1.weights P t,n≤reachBytes)→∃y,E.R w (fun b=>b<w.heap.size) cs y∧G y
 vl:∀(w:World) (v:Value),Value.okWide P w .any 0 t v→(∃y,E.R w (fun b=>b<w.heap.size) v.cells.toList y)→v=E.val v.cells.toList
theorem Rd.int {P:Program} {t:TypeId} {k:IntKind} (ht:P.underlying t=some (.int k)) (hc:P.cellsOf t=1):Rd P t (En.int k) (InR k):=by
 refine ⟨hc, ?_, ?_⟩
 ·intro H enc w fuel cs x h _;obtain ⟨n,rfl,_,hw⟩:=DataW.trod_int ht h;have:InR k n:=by simpa [Lit.wf,InR] using hw
  exact ⟨n,⟨rfl,this⟩,this⟩
 ·intro w v hv _;obtain ⟨n,rfl⟩:=okWide_int ht hv;rfl
theorem Rd.str {P:Program} {t:TypeId} (ht:P.underlying t=some .string) (hc:P.cellsOf t=1):Rd P t En.str (fun y=>y.length≤140737488351232):=by
 refine ⟨hc, ?_, ?_⟩
 ·intro H enc w fuel cs x h hwt;obtain ⟨s,rfl,hx,hs⟩:=DataW.trod_string ht h;have hl:s.data.toList.length≤9223372036854775807:=by simpa [maxLen] using hs
  have h2:s.data.toList.length≤140737488351232:=hwt _ (by rw [hx];simp [DataW.weights]);exact ⟨s.data.toList,⟨rfl,hl⟩,h2⟩
 ·intro w v hv _;simp only [Value.okWide,ht,Cell.okWide,Cell.ok] at hv;cases v <;> simp at hv;rfl
theorem zei {H:Type} {P:Program} {e:TypeId}:∀{l:List (DataW H)} {d:DataW H},d∈l→∀n∈d.weights P e,n∈DataW.weightsAll P e l
 | [],_,h,_,_=>by cases h
 | d'::l,d,h,n,hn=>by
  simp only [DataW.weightsAll,List.mem_append];rcases List.mem_cons.1 h with rfl | h
  ·exact .inl hn
  ·exact .inr (zei h n hn)
theorem Rd.slice {P:Program} {t e:TypeId} {α:Type} {E:En α} {G:α→Prop} (ht:P.underlying t=some (.slice e)) (hc:P.cellsOf t=1) (hby:Nat.blt 0 (P.bytesOf e)=true) (he:Rd P e E G):
  Rd P t (En.slice E) (fun xs=>xs.length≤140737488351232∧∀y∈xs,G y):=by
 refine ⟨hc, ?_, ?_⟩
 ·intro H enc w fuel cs x h hwt;rcases Deep.open_slice ht h with ⟨rfl,_⟩ | ⟨a,len,cap,m,n,D,Pl,rfl,hb,hl,hm,hmm,hxe,hx⟩
  ·exact ⟨[],⟨_,rfl,slV_nil E _ _⟩,Nat.zero_le _,by simp⟩
  ·simp only [if_true] at hmm;subst hmm;have hall:∀i,i<len→∃p:α × List Value,w.cells? 0 (a.add (i*P.cellsOf e)) (P.cellsOf e)=some p.2∧E.R w (fun b=>b<w.heap.size) p.2 p.1∧G p.1:=fun i hi=>by
    obtain ⟨cs',h1,h2⟩:=hx i (by omega);obtain ⟨y,h3,h4⟩:=he.rd enc w n cs' _ h2 fun q hq=>hwt q (by
     rw [hxe];simp only [DataW.weights,ht,List.mem_cons,List.mem_append];exact .inr (.inl (zei (List.mem_map.2 ⟨i,by simpa using hi,rfl⟩) q hq)))
    exact ⟨(y,cs'),h1,h3,h4⟩
   have hmax2:len≤140737488351232:=by
    have h1:=hwt ((len+(m-len))*P.bytesOf e) (by rw [hxe];simp [DataW.weights,ht]);have h2:0<P.bytesOf e:=Nat.le_of_ble_eq_true hby;have h3:(len+(m-len))*1≤(len+(m-len))*P.bytesOf e:=Nat.mul_le_mul_left _ h2;have h4:reachBytes=140737488351232:=rfl;omega
   have hmax:len≤lim:=by have:maxLen≤lim:=by decide
                         omega
   by_cases h0:len=0
   ·subst h0;exact ⟨[],⟨_,rfl,some a,m,rfl,Nat.zero_le _,(fun h=>by cases h),Nat.zero_le _,fun h=>absurd rfl h⟩,Nat.zero_le _,by simp⟩
   have hinh:Inhabited (α × List Value):=⟨(hall 0 (by omega)).choose⟩;obtain ⟨f,hf⟩:=Deep.choose_lt hall;have hsz:=E.pos;rw [← he.sz] at hsz;obtain ⟨hcell0,hblk⟩:a.spot=none∧a.block<w.heap.size:=by
    obtain ⟨_,hl2,hcl⟩:=World.cells?_some (hf 0 (by omega)).1;have h2:=hcl 0 hsz;rw [List.getElem?_eq_getElem (by omega)] at h2;simp only [Nat.zero_mul,Addr.add,if_true,World.cell?] at h2;cases hb2:w.heap[a.block]? with
    | none=>simp [hb2] at h2
    | some o=>
     refine ⟨?_,(Array.getElem?_eq_some_iff.1 hb2).1⟩;cases o <;> simp [hb2] at h2;exact h2.1
   refine ⟨(List.range len).map (fun i=>(f i).1),⟨_,rfl,some a,m, ?_,by simpa using hl,(fun h=>by cases h),by simpa using hmax,fun _=>⟨a.block,a.off,(List.range len).map (fun i=>(f i).2), ?_,hblk,⟨by simp, ?_⟩, ?_⟩⟩,by simpa using hmax2, ?_⟩
   ·simp
   ·cases a;simp at hcell0;subst hcell0;rfl
   ·intro i c y hc1 hy1;have hi:i<len:=by have:=(List.getElem?_eq_some_iff.1 hc1).1;simpa using this
    simp [hi] at hc1 hy1;subst hc1;subst hy1;exact (hf i hi).2.1
   ·have hlens:∀c∈(List.range len).map (fun i=>(f i).2),c.length=E.sz:=by
     intro c hc;simp only [List.mem_map,List.mem_range] at hc;obtain ⟨i,hi,rfl⟩:=hc;rw [(World.cells?_some (hf i hi).1).2.1,he.sz]
    intro j u hj;have hjl:j<len*E.sz:=by
     have:=(List.getElem?_eq_some_iff.1 hj).1;rw [zeh hlens] at this;simpa using this
    have hp:0<E.sz:=E.pos;have hi:j / E.sz<len:=Nat.div_lt_of_lt_mul (by rw [Nat.mul_comm];exact hjl);have hk:j % E.sz<E.sz:=Nat.mod_lt _ hp;obtain ⟨_,hl2,hcl⟩:=World.cells?_some (hf _ hi).1;have hcell:=hcl (j % E.sz) (by rw [he.sz];exact hk);rw [he.sz] at hl2;have hg:=zfv hlens (i:=j / E.sz) (cs:=(f (j / E.sz)).2) (j:=j % E.sz) (u:=(f (j / E.sz)).2[j % E.sz]'(by omega)) (by simp [hi]) (by simp);rw [Nat.mul_comm,Nat.div_add_mod] at hg;rw [hg] at hj;rw [List.getElem?_eq_getElem (by omega),hj,Deep.add_add,he.sz,Nat.mul_comm,Nat.div_add_mod] at hcell;rw [← hcell];cases a;simp at hcell0;subst hcell0;rw [zdp]
   ·intro y hy;simp only [List.mem_map,List.mem_range] at hy;obtain ⟨i,hi,rfl⟩:=hy;exact (hf i hi).2.2
 ·intro w v hv _;simp only [Value.okWide,ht,Cell.okWide,Cell.ok] at hv;cases v <;> simp at hv;rfl
theorem u64_word {n:Int} (h:InR .u64 n):∃m:Nat,m<2 ^ 64∧n=m:=by
 simp [InR,IntKind.min,IntKind.max,IntKind.signed,IntKind.bits] at h;exact ⟨n.toNat,by omega,by omega⟩
theorem Rd.cls {P:Program} {t e:TypeId} (ht:P.underlying t=some (.array 4 e)) (hc:P.cellsOf t=4) (he:P.underlying e=some (.int .u64)) (hce:P.cellsOf e=1):Rd P t En.cls (fun _=>True):=by
 refine ⟨hc, ?_, ?_⟩
 ·intro H enc w fuel cs x h _;obtain ⟨xs,m,rfl,rfl,hlen,hn,hx⟩:=DataW.trod_array ht h;rw [hc] at hlen
  match cs,hlen with
  | [u0,u1,u2,u3],_=>
   have hx':∀i (hi:i<4) u,[u0,u1,u2,u3][i]?=some u→∃q:Nat,q<2 ^ 64∧u = .int .u64 q:=by
    intro i hi u hu;have h1:=hx i hi;rw [hce,Nat.mul_one,List.getElem?_eq_getElem (by omega)] at h1;have h2:List.take 1 (List.drop i [u0,u1,u2,u3])=[u]:=by
     match i,hi with
     | 0,_ | 1,_ | 2,_ | 3,_=>simp at hu;subst hu;rfl
    rw [h2] at h1;obtain ⟨n,h3,_,h4⟩:=DataW.trod_int he h1;obtain ⟨q,hq,rfl⟩:=u64_word (n:=n) (by simpa [Lit.wf,InR] using h4);simp at h3;exact ⟨q,hq,h3⟩
   obtain ⟨q0,h0,rfl⟩:=hx' 0 (by omega) u0 rfl;obtain ⟨q1,h1,rfl⟩:=hx' 1 (by omega) u1 rfl;obtain ⟨q2,h2,rfl⟩:=hx' 2 (by omega) u2 rfl;obtain ⟨q3,h3,rfl⟩:=hx' 3 (by omega) u3 rfl;refine ⟨Cl.ofWords q0 q1 q2 q3, ?_,trivial⟩;obtain ⟨e0,e1,e2,e3⟩:=Cl.ofWords_word h0 h1 h2 h3;show _=zy _;unfold zy;rw [e0,e1,e2,e3]
 ·intro w v hv _;simp only [Value.okWide,ht] at hv;obtain ⟨cs,rfl,_⟩:=hv;simp [En.val,En.cls,Value.cells]
structure RdF (P:Program) (fs:List Field) (o:Nat) {α:Type} (E:En α) (G:α→Prop):Prop where
 rd:∀{H:Type} (enc:TypeId × Value→H) (w:World) (fuel:Nat) (cs:List Value) (xs:List (DataW H × List MemPlace)),xs.length=fs.length →
  (∀(i:Nat) (f:Field),fs[i]?=some f→DataW.trod enc P w 0 (fun _=>true) true fuel f.type ((cs.drop f.offset).take (P.cellsOf f.type))=xs[i]?) →
  (∀n∈DataW.weightsEach P (fs.map (·.type)) (xs.map (·.1)),n≤reachBytes)→∃y,E.R w (fun b=>b<w.heap.size) ((cs.drop o).take E.sz) y∧G y
theorem RdF.last {P:Program} {f:Field} {o:Nat} {α:Type} {E:En α} {G:α→Prop} (h:Rd P f.type E G) (ho:f.offset=o):RdF P [f] o E G:=⟨by
 intro H enc w fuel cs xs hl hx hw;obtain ⟨x,rfl⟩:∃x,xs=[x]:=List.length_eq_one_iff.1 hl;have h1:=hx 0 f rfl;rw [ho,h.sz] at h1;exact h.rd enc w fuel _ x h1 fun n hn=>hw n (by simp [DataW.weightsEach,hn])⟩
theorem RdF.solo {P:Program} {fs:List Field} {o:Nat} {α:Type} {E:En α} {G:α→Prop} (h:RdF P fs o E G):RdF P fs o E.solo G:=⟨h.rd⟩
theorem ze2 {xs:List Value} {o m n:Nat}:(xs.drop o).take (m+n)=(xs.drop o).take m++(xs.drop (o+m)).take n:=by
 rw [List.take_add,List.drop_drop]
theorem RdF.cons {P:Program} {f:Field} {fs:List Field} {o:Nat} {α β:Type} {E:En α} {F:En β} {G:α→Prop} {K:β→Prop} (h:Rd P f.type E G) (ho:f.offset=o) (hr:RdF P fs (o+E.sz) F K):RdF P (f::fs) o (E.cat F) (fun x=>G x.1∧K x.2):=⟨by
 intro H enc w fuel cs xs hl hx hw;obtain ⟨x,xs',rfl⟩:∃x xs',xs=x::xs':=by
  cases xs with
  | nil=>simp at hl
  | cons x xs'=>exact ⟨x,xs',rfl⟩
 have h1:=hx 0 f rfl;rw [ho,h.sz] at h1;obtain ⟨y,hy1,hy2⟩:=h.rd enc w fuel _ x h1 fun n hn=>hw n (by simp [DataW.weightsEach,hn]);obtain ⟨z,hz1,hz2⟩:=hr.rd enc w fuel cs xs' (by simpa using hl) (fun i g hg=>by have:=hx (i+1) g (by simpa using hg);simpa using this) fun n hn=>hw n (by
  simp only [List.map_cons,DataW.weightsEach,List.mem_append];exact .inr hn)
 exact ⟨(y,z),⟨_,_,ze2,hy1,hz1⟩,hy2,hz2⟩⟩
theorem Rd.struct {P:Program} {t:TypeId} {fs:Array Field} {α:Type} {E:En α} {G:α→Prop} (ht:P.underlying t=some (.struct fs)) (ha:E.agg=true) (hc:P.cellsOf t=E.sz) (h:RdF P fs.toList 0 E G):Rd P t E G:=by
 refine ⟨hc, ?_, ?_⟩
 ·intro H enc w fuel cs x hx hw;obtain ⟨xs,n,rfl,rfl,hlen,hxl,hf⟩:=DataW.trod_struct ht hx;obtain ⟨y,hy1,hy2⟩:=h.rd enc w n cs xs (by simpa using hxl) (fun i f hi=>hf i f (by simpa using hi)) fun q hq=>hw q (by
   simp only [DataW.weights,ht];exact hq)
  rw [List.drop_zero,List.take_of_length_le (by rw [hlen,hc];exact Nat.le_refl _)] at hy1;exact ⟨y,hy1,hy2⟩
 ·intro w v hv _;obtain ⟨cs,rfl,_⟩:=okWide_struct ht hv;unfold En.val;rw [ha];simp [Value.cells]
theorem Rd.open {P:Program} {t:TypeId} {α:Type} {E:En α} {G:α→Prop} (hr:Rd P t E G) {H:Type} {enc:TypeId × Value→H} {W:World} {v:Value} {d:DataW H} {p:List MemPlace}
  (hv:Value.okWide P W .any 0 t v) (hd:DataW.Trod enc P W 0 (fun _=>true) true t v d p) (hw:∀n∈d.weights P t,n≤reachBytes):∃y,(Pd.rep E y).p ⟨W,fun _=>False,fun _ h=>h.elim⟩ v∧G y:=by
 obtain ⟨fuel,h⟩:=hd;obtain ⟨y,hy,hg⟩:=hr.rd enc W fuel _ _ h hw;refine ⟨y,⟨v.cells.toList,hr.vl W v hv ⟨y,hy⟩, ?_⟩,hg⟩;exact E.mono (fun b hb=>⟨hb,fun h=>h⟩) hy
theorem Ex.below {s s':St} (h:Ex s s'):Below s.w.heap.size s.w s'.w:=⟨h.mv.os,h.mv.tape,h.mv.output,h.mv.size,fun k hk=>h.mv.blk k hk (fun h=>h)⟩
theorem okWide_any {P:Program} {W:World} {b:Nat} {t:TypeId} {v:Value} (h:Value.okWide P W .any b t v):Value.okWide P W .any 0 t v:=by
 unfold Value.okWide Row.okWide Cell.okWide Cell.ok World.has at *;exact h
section
variable {H : Type} {enc : TypeId × Value → H} {P : Program}
theorem stays {W W':World} (hl:laidOutB P=true) (hb:Below W.heap.size W W') {sp:Nat→Bool}:∀{ts:List TypeId} {vs:List Value} {ds:List (DataW H)} {ps:List MemPlace},
  (ts.all fun t=>P.readableRec t&&decide (t<P.types.size))=true→DataW.TrodAll enc P W 0 (fun _=>true) true ts vs ds ps→(∀p∈ps,p.block<W.heap.size)→(∀p∈ps,sp p.block=true) →
  DataW.TrodAll enc P W' 0 sp true ts vs ds ps
 | [],vs,ds,ps,_,h,_,_=>by
  obtain ⟨rfl,rfl,rfl⟩:=trodAll_nil h;exact trodAll_mk0
 | t::ts,vs,ds,ps,ha,h,hlt,hsp=>by
  obtain ⟨v,vs',d,ds',p,q,rfl,rfl,rfl,h1,h2⟩:=trodAll_cons h;simp only [List.all_cons,Bool.and_eq_true,decide_eq_true_eq] at ha;refine trodAll_cons_mk (WideElems.Trod_stays hl ha.1.1 ha.1.2 h1 (fun x hx=>hb.same (hlt x (List.mem_append_left _ hx))) fun x hx=>hsp x (List.mem_append_left _ hx)) ?_;exact stays hl hb (by simpa using ha.2) h2 (fun x hx=>hlt x (List.mem_append_right _ hx)) fun x hx=>hsp x (List.mem_append_right _ hx)
theorem post_law {f:Func} {s:ChangeSpec} {apart fresh handsOn again:Bool} {W W':World} {args:Array Value} {v:Value} {ds gs:List (DataW H)} {before:List MemPlace} {tb:TypeId}
  (hW:DataW.Whole enc P f.params.toList s.vars apart W args.toList ds gs before) (hb:Below W.heap.size W W') (hl:laidOutB P=true)
  (hrd:(f.params.toList.all fun t=>P.readableRec t&&decide (t<P.types.size))=true) (hs:s.vars=[]) (hrt:f.resultTypes = #[tb]) (hub:P.underlying tb=some .bool) (hv:v = .bool true)
  (hres:(s.fn H (ds++gs)).results=[.lit (.bool true)]) (hargs:(s.fn H (ds++gs)).args=ds) (hvars:(s.fn H (ds++gs)).vars=[]):s.post enc P f apart fresh handsOn again W args v W':=by
 subst hv;have hlt:=hW.lt;have hW':=hW;obtain ⟨p,q,hA,hV,rfl,hz,hn⟩:=hW;rw [hs] at hV;obtain ⟨rfl,rfl⟩:=trodVars_none hV;have hsub:∀x∈p,x∈p++([]:List MemPlace):=fun x hx=>by simpa using hx
 have harg:∀sp:Nat→Bool,(∀x∈p++([]:List MemPlace),sp x.block=true)→DataW.TrodAll enc P W' 0 sp true f.params.toList args.toList (s.fn H (ds++[])).args p:=fun sp hsp=>by
  rw [hargs];exact stays hl hb hrd hA (fun x hx=>hlt x (hsub x hx)) fun x hx=>hsp x (hsub x hx)
 have hvar:∀sp:Nat→Bool,DataW.TrodVars enc P W' sp s.vars (s.fn H (ds++[])).vars []:=fun sp=>by rw [hs,hvars];exact rfl
 have hr:∀(b:Nat) (sp:Nat→Bool) (hd:Bool),DataW.TrodAll enc P W' b sp hd f.resultTypes.toList ((Value.bool true).resultList f.resultTypes.size) (s.fn H (ds++[])).results []:=fun b sp hd=>by
  rw [hres,hrt];exact trodAll_cons_mk (shut_bool hub _) trodAll_mk0
 have hold:∀x∈p++([]:List MemPlace),(fun b=>decide (b<W.heap.size)) x.block=true:=fun x hx=>by simpa using hlt x hx
 refine ⟨ds,[],p++[],[],p,[],hW',hr _ _ _,harg _ hold,hvar _,World.keptBut_mono (fun x hx=>⟨hx, ?_⟩) (hb.frame (·∈p++[])),fun _=>?_⟩
 ·simpa using hx
 ·refine ⟨ok_one hrt rfl (okWide_bool_mk hub _),_,_,([]++p)++[],⟨[]++p,[],trodAll_append (harg _ (fun _ _=>rfl)) (hr _ _ _),hvar _,rfl, ?_, ?_⟩, ?_⟩
  ·intro b off hp;have hp':MemPlace.cell b off∈p++([]:List MemPlace):=by simpa using hp
   rw [hb.frozen (p:=⟨b,off,none⟩) (hlt _ hp')];exact hz b off hp'
  ·intro ha;simpa using hn ha
  ·intro x hx _;simpa using hx
end
end Go.Proofs.YtamjkbneebghmaaDoor.V
namespace Go.Proofs.YtamjkbneebghmaaDoor.V
open Go Go.ChangeShapes Go.WideShapes Go.RowKit
set_option linter.unusedVariables false
def lst:List (String × DataW Unit):=[("math/bits.deBruijn32tab",Rows.laid_math_bits_deBruijn32tab),("math/bits.deBruijn64tab",Rows.laid_math_bits_deBruijn64tab),("internal/strconv.uint64pow10",Rows.laid_internal_strconv_uint64pow10),("scantling/print.levels",Rows.laid_scantling_print_levels)]
def stepsL:List (Lit × DataW Unit):=[(.int .i64 4,.lit (.int .i64 1)),(.int .i64 5,.lit (.int .i64 0)),(.int .i64 6,.lit (.int .i64 2)),(.int .i64 7,.lit (.int .i64 2))]
theorem key_int {P:Program} {k:TypeId} (hk:P.underlying k=some (.int .i64)) {v:Value} {l:Lit} (h:keyOf P k v=some l):∃n:Int,v = .int .i64 n∧l = .int .i64 n∧InR .i64 n:=by
 rw [keyOf_int hk] at h;unfold mapKey at h;rw [hk] at h;cases v <;> simp at h;obtain ⟨⟨rfl,h2⟩,rfl⟩:=h;exact ⟨_,rfl,rfl,by simpa [Lit.wf,InR] using h2⟩
theorem one_of_int {P:Program} {t:TypeId} {v:Value} (ht:P.underlying t=some (.int .i64)) (h:v.formed P t=true):v.cells.toList=[v]:=by
 cases v <;> simp [Value.formed,ht] at h <;> rfl
def entY (e:MapEntry):Int × Option Nat:=match e.key with | .int _ n=>(n,zcl gfmS n none) | _=>(0,none)
def entL (q:Lit × DataW Unit):Int × Option Nat:=match q.1 with | .int _ n=>(n,zcl gfmS n none) | _=>(0,none)
def Steps (W:World):Prop:=∃m t fr es clock ys,W.heap[0]?=some (.cells #[.map (some m)] t fr)∧W.heap[m]?=some (.map es clock)∧Fmst es clock ys∧ys.Perm gfmS
theorem steps_of {W:World} {enc:TypeId × Value→Unit} {base:Nat} {sp:Nat→Bool} {held:Bool} {fuel:Nat} {cs:Array Value} {p:List MemPlace} (hv:W.var? Tryd.prog "scantling/print.levels"=some cs) (hd:DataW.trod enc Tryd.prog W base sp held fuel 62 cs.toList=some (.map stepsL,p)):Steps W:=by
 have hg':Tryd.prog.globalNamed "scantling/print.levels"=some 0:=by kernel_rfl
 have hkt:Tryd.prog.underlying 3=some (.int .i64):=Tryd.underlying3;have het:Tryd.prog.underlying 3=some (.int .i64):=Tryd.underlying3;rcases WideElems.open_map Tryd.underlying62 hd with ⟨_,hx⟩ | ⟨m,es,clock,n,rfl,hcs,hb,_,F,hx⟩
 ·simp at hx
 ·simp only [Prod.mk.injEq,DataW.map.injEq] at hx;have hp:stepsL.Perm (es.toList.map (WideElems.rg Tryd.prog 3 (WideElems.elemAt enc Tryd.prog W base sp held n 3))):=by
   rw [hx.1];exact sorted_perm _
  have ent:∀x∈es.toList,∃i:Int,x.key = .int .i64 i∧InR .i64 i∧entL (WideElems.rg Tryd.prog 3 (WideElems.elemAt enc Tryd.prog W base sp held n 3) x)=(i,zcl gfmS i none)∧x.val=fidV (zcl gfmS i none):=by
   intro x hx';obtain ⟨y,hy⟩:=F.reads x hx';have hrg:=WideElems.rg_of hy;have hm:y∈stepsL:=hp.mem_iff.2 (List.mem_map.2 ⟨x,hx',hrg⟩);obtain ⟨i,hk1,hk2,hk3⟩:=key_int hkt (WideElems.rd_key hy);obtain ⟨z,hz1,hz2⟩:=WideElems.rd_val hy;unfold WideElems.elemAt at hz1;split at hz1
   case isFalse=>cases hz1
   rename_i hf
   rw [one_of_int het hf] at hz1;obtain ⟨v,hv1,hv2,_⟩:=DataW.trod_int het hz1;have hv1:x.val = .int .i64 v:=by simpa using hv1
   refine ⟨i,hk1,hk3,by rw [hrg];simp only [entL,hk2], ?_⟩;rw [hv1];subst hv2;unfold stepsL at hm;simp only [List.mem_cons,List.not_mem_nil,or_false] at hm;rcases hm with rfl | rfl | rfl | rfl
   all_goals
    simp only [Lit.int.injEq,true_and] at hk2;subst hk2;simp only [DataW.lit.injEq,Lit.int.injEq,true_and] at hz2;subst hz2;rfl
  obtain ⟨o,ho,hcell⟩:∃t fr,W.heap[0]?=some (.cells #[.map (some m)] t fr):=by
   unfold World.var? at hv;rw [hg'] at hv;simp only [Option.bind_some] at hv;split at hv
   ·rename_i cs' t' fr' hc
    refine ⟨t',fr', ?_⟩;rw [hc];simp only [Option.some.injEq] at hv;rw [hv,← Array.toArray_toList (xs:=cs),hcs]
   ·cases hv
  refine ⟨m,o,ho,es,clock,es.toList.map entY,hcell,hb,⟨F.stamped,by simp,fun i e q h1 h2=>?_⟩, ?_⟩
  ·have hm:=List.mem_of_getElem? h1;obtain ⟨j,hk1,hk3,_,hval⟩:=ent e hm;rw [List.getElem?_map,h1] at h2;simp only [Option.map_some,Option.some.injEq] at h2;subst h2;have hr:=inR_i64.1 hk3;simp only [entY,hk1];exact ⟨trivial,hr,hval⟩
  ·have h3:=(hp.map entL).symm;have e1:stepsL.map entL=gfmS:=by kernel_rfl
   rw [e1,List.map_map] at h3;refine List.Perm.trans (List.Perm.of_eq (List.map_congr_left fun x hx'=>?_)) h3;obtain ⟨j,hk1,_,hL,_⟩:=ent x hx';simp only [Function.comp,entY,hk1];exact hL.symm
def Tabs (W:World):Prop:=Lib.TabIs Tryd.prog W "internal/strconv.uint64pow10" .u64 Lib.pow10Tab∧Steps W
theorem tab_of_laid {W:World} (h:laidMetH Tryd.prog lst W):Tabs W:=by
 have h':laidMet Tryd.prog lst W:=h;unfold lst at h';refine ⟨?_, ?_⟩
 ·have e:(Rows.laid_internal_strconv_uint64pow10:DataW Unit)=Lib.tabData .u64 Lib.pow10Tab:=by kernel_rfl
  have h2:=h'.tail.tail;rw [e] at h2;exact Lib.tabIs_of_head (g:=2) (t:=102) (e:=25) (n:=20) (by kernel_rfl) (by kernel_rfl) Tryd.underlying102 Tryd.underlying25 (by kernel_rfl) (by kernel_rfl) h2
 ·have e:(Rows.laid_scantling_print_levels:DataW Unit) = .map stepsL:=by kernel_rfl
  have h2:=h'.tail.tail.tail;rw [e] at h2;obtain ⟨ps,⟨g',t',cs,fuel,p,q,hg',ht',hvar,hd,_,_⟩,_⟩:=h2;have hg:Tryd.prog.globalNamed "scantling/print.levels"=some 0:=by kernel_rfl
  have hty:(Tryd.prog.globals[0]?).map (·.type)=some 62:=by kernel_rfl
  obtain rfl:=Option.some.inj (hg.symm.trans hg');obtain rfl:=Option.some.inj (hty.symm.trans ht');exact steps_of hvar hd
theorem gl_of_tab {W:World} (h:Tabs W):Gl ⟨W,fun _=>False,fun _ h=>h.elim⟩:=by
 obtain ⟨h1,h3⟩:=h;refine ⟨fun p hp=>?_,fun p hp=>?_⟩
 ·unfold gtab at hp;obtain rfl:=List.mem_singleton.1 hp;refine ⟨fun h=>h, ?_⟩;unfold Lib.TabIs World.var? at h1;have hg:Tryd.prog.globalNamed "internal/strconv.uint64pow10"=some 2:=by kernel_rfl
  rw [hg] at h1;simp only [Option.bind_some] at h1;split at h1
  ·rename_i cs t fr hc
   refine ⟨t,fr, ?_⟩;show W.heap[2]?=_;rw [hc];simp only [Option.some.injEq] at h1;rw [h1];simp [Lib.pow10Tab]
  ·cases h1
 ·unfold gmap at hp;obtain rfl:=List.mem_singleton.1 hp;obtain ⟨m,t,fr,es,clock,ys,k1,k2,k3,k4⟩:=h3;exact ⟨fun h=>h,m,t,fr,es,clock,ys,k1,fun h=>h,k2,k3,k4⟩
noncomputable def laidWorld (os:Os):World:=World.doorLaid Tryd.prog 400 os
theorem laid_met (os:Os) (args:Array Value):laidMetH Tryd.prog lst ((laidWorld os).forCall (fun _ _=>0) ⟨#[],args,[]⟩).memory:=
 laidMetH_of_parts (laidMet_of_run' 8 (by kernel_rfl) (by kernel_rfl)) (by kernel_rfl)
theorem weigh {H:Type} {P:Program} {ts:List TypeId} {ds:List (DataW H)} (h:(DataW.weightsEach P ts ds).all (·≤reachBytes)=true) (j:Nat) {t:TypeId} {d:DataW H} (ht:ts[j]?=some t) (hd:ds[j]?=some d):∀n∈d.weights P t,n≤reachBytes:=fun n hn=>by
 have:=List.all_eq_true.1 h n (DataW.weights_mem_each ht hd n hn);simpa using this
end Go.Proofs.YtamjkbneebghmaaDoor.V
