/-
  The texts that the law's proof needs, part 3.
-/
import Derived.Deep.LoopGhost
import Derived.Laws.AppendOwnNone
import Derived.Lib.Hide
import Derived.OpenShut
import Derived.Orders
import Derived.WalkKit
import Derived.Test.YtahgmdbioafmbaaGreatDoorSetsAfterP2

namespace Go.Proofs.YtahgmdbioafmbaaGreatDoor.V
open Go
set_option linter.unusedVariables false
set_option maxRecDepth 100000
theorem ref04_moved_ok {l_:(List SNode)} {by_:Int} {r_:(List SNode)} (h:z7 l_ by_ r_):Fn Tryz.prog 84 [(Pd.rep (En.slice En.SNode) l_),(Pi by_)] (Ro En.SNode 68 r_):=by
 unfold z7 at h
 refine fn_of Tryz.func84 J Tryz.ntmps84 (by rfl) (by simp) fun s0 a L=>?_
 refine wp_seq_k fun K1 hK1=>rg (sx 4 (zd (o_nil (E:=En.SNode) (N:=s0.w.heap.size) (te:=68)) J J) L fun a s _ L=>?_)
 refine en' (hK1 _ _ ?_)
 refine wp_seq_k fun K2 hK2=>rg (sx 5 (zd (o_nil (E:=En.SNode) (N:=s0.w.heap.size) (te:=68)) J J) L fun a s _ L=>?_)
 refine en' (hK2 _ _ ?_)
 refine wp_seq_k fun K3 hK3=>wp_seq_k fun K4 hK4=>rg (sx 6 (zd oI J J) L fun a s _ L=>?_)
 refine en' (hK4 _ _ ?_)
 refine wp_block ?_
 have J7:∀(out5:(List SNode)) (og6:Option Nat) (a:Act) (s:St),Has N0 44 s0 a s [(5,(Pd.row En.SNode s0.w.heap.size 68 og6 out5))]→((z7.j1 r_) out5)→K3 a s.w:=by
  intro out5 og6 a s L h
  unfold z7.j1 at h
  show K3 a s.w
  refine hK3 _ _ (wp_seq_k fun K8 hK8=>?_)
  refine rg (sx 43 (zb (o_t 5 J) J J) L fun a s _ L=>?_)
  refine sx 4 (zd (o_t 43 J) J J) L fun a s _ L=>en' (hK8 _ _ ?_)
  subst h
  exact wp_ret (reto J L J)
 obtain ⟨k12,h⟩:=h
 refine lpg (fun k13 a s=>∃(out9:(List SNode)) (i11:Int) (og10:Option Nat),Has N0 44 s0 a s [(0,(Pd.rep (En.slice En.SNode) l_)),(1,(Pi by_)),(5,(Pd.row En.SNode s0.w.heap.size 68 og10 out9)),(6,(Pi i11))]∧z7.l1 l_ by_ (z7.j1 r_) k13 out9 i11) k12 ⟨([]:(List SNode)),0,none,L.keep (.k 0 (.k 1 (.cons (t:=5) J (fun _ _ h_=>h_) (.k 6 .nil)))),h⟩ ?_
 rintro k13 a s ⟨out9,i11,og10,L,h⟩ KL14 hKL14
 cases k13 with
 | zero=>exact h.elim
 | succ k13=>
 unfold z7.l1 at h
 refine wp_seq_k fun K15 hK15=>wp_seq_k fun K16 hK16=>rg (sx 8 (zb (o_t 6 J) J J) L fun a s _ L=>?_)
 refine sx 9 (zb (o_t 0 J) J J) L fun a s _ L=>sx 10 (t_len (o_t 9 J) Tryz.underlying22 J J) L fun a s _ L=>sx 11 (t_lss (o_t 8 J) (o_t 10 J) J J) L fun a s _ L=>en' (hK16 _ _ ?_)
 refine cnd L J (fun hb_=>?_) (fun hb_=>?_)
 ·replace h:=h.1 hb_
  refine wp_skip ?_
  show K15 a s.w
  refine hK15 _ _ (wp_seq_k fun K17 hK17=>?_)
  refine wp_block (wp_seq_k fun K18 hK18=>?_)
  obtain ⟨e19,h20,h⟩:=h
  refine rg (sx 14 (zb (o_t 0 J) J J) L fun a s _ L=>?_)
  refine sx 15 (zb (o_t 6 J) J J) L fun a s _ L=>sx 16 (t_idx (o_t 14 J) (o_t 15 J) h20 Tryz.underlying22 ty68 J J) L fun a s _ L=>sx 17 (zo ty68 (o_t 16 J) J J) L fun a s _ L=>?_
  have lt_d22:=L.rlt 5 rfl
  refine zbb En.SNode (z:=(0,0,0,0,0,(0#256),([]:Str))) 7 L tyz68 J J J J fun a s g21 hg_ L=>?_
  have d22:Dis (some g21) og10:=Dis.newg hg_ lt_d22
  refine zca (L':=[(0,(Pd.rep (En.slice En.SNode) l_)),(1,(Pi by_)),(5,(Pd.row En.SNode s0.w.heap.size 68 og10 out9)),(6,(Pi i11))]) 7 L J (o_t 17 J) ty68 J J J (.k 0 (.k 1 (.cons (t:=5) J (Dis.ow (Dis.symm d22)) (.k 6 .nil)))) fun s L=>?_
  refine en' (hK18 _ _ ?_)
  refine wp_seq_k fun K23 hK23=>wp_seq_k fun K24 hK24=>rg (sx 18 (t_fab (off:=0) (o_t 7 J) Tryz.underlying68 J (zn (zj _ _)) J ty3 J J) L fun a s _ L=>?_)
  refine sx 19 (zt ty3 (o_t 18 J) J J) L fun a s _ L=>sx 20 (t_geq (o_t 19 J) oI J J) L fun a s _ L=>en' (hK24 _ _ ?_)
  have J26:∀(n25:SNode) (a:Act) (s:St),Has N0 44 s0 a s [(0,(Pd.rep (En.slice En.SNode) l_)),(1,(Pi by_)),(5,(Pd.row En.SNode s0.w.heap.size 68 og10 out9)),(6,(Pi i11)),(7,(Pd.box En.SNode s0.w.heap.size g21 n25))]→Dis og10 (some g21)→((z7.j3 (z7.l1 l_ by_ (z7.j1 r_) k13) by_ out9 i11) n25)→K23 a s.w:=by
   intro n25 a s L d27 h
   unfold z7.j3 at h
   show K23 a s.w
   refine hK23 _ _ (wp_seq_k fun K28 hK28=>?_)
   refine wp_seq_k fun K29 hK29=>rg (sx 26 (t_fab (off:=0) (o_t 7 J) Tryz.underlying68 J (zn (zj _ _)) J ty3 J J) L fun a s _ L=>?_)
   refine sx 27 (zt ty3 (o_t 26 J) J J) L fun a s _ L=>sx 28 (t_eqi (o_t 27 J) oI J J) L fun a s _ L=>sx 29 (zb (o_t 28 J) J J) L fun a s _ L=>sx 30 (t_g1 J J J (fun hc_=>t_fab (off:=0) (o_t 7 J) Tryz.underlying68 J (zn (zj _ _)) J ty3 J J)) L fun a s _ L=>sx 31 (t_g1 J J J (fun hc_=>zt ty3 (o_w hc_ 30 J) J J)) L fun a s _ L=>sx 32 (t_g1 J J J (fun hc_=>t_eqi (o_w hc_ 31 J) oI J J)) L fun a s _ L=>sx 33 (t_or (o_t 29 J) (fun hc2_=>(o_w hc2_ 32 J)) J J) L fun a s _ L=>en' (hK29 _ _ ?_)
   have J31:∀(n30:SNode) (a:Act) (s:St),Has N0 44 s0 a s [(0,(Pd.rep (En.slice En.SNode) l_)),(1,(Pi by_)),(5,(Pd.row En.SNode s0.w.heap.size 68 og10 out9)),(6,(Pi i11)),(7,(Pd.box En.SNode s0.w.heap.size g21 n30))]→Dis og10 (some g21)→((z7.j2 (z7.l1 l_ by_ (z7.j1 r_) k13) out9 i11) n30)→K28 a s.w:=by
    intro n30 a s L d32 h
    unfold z7.j2 at h
    show K28 a s.w
    refine hK28 _ _ ?_
    obtain ⟨h33,h⟩:=h
    refine rg (sx 39 (zb (o_t 5 J) J J) L fun a s _ L=>?_)
    refine sx 40 (zbh ty68 (o_t 7 J) J J) L fun a s _ L=>sx 41 (t_lit (xs:=[.tmp 40]) (.cons (o_t 40 J) .nil) Tryz.underlying22 ty68 J J (by decide) J J) L fun a s _ L=>zd2 (L':=[(0,(Pd.rep (En.slice En.SNode) l_)),(1,(Pi by_)),(6,(Pi i11))]) 42 L (o_t 39 J) (o_t 41 J) Tryz.underlying22 ty68 h33 J J J J (.k 0 (.k 1 (.k 6 .nil))) fun a s og34 hg_ L=>?_
    refine sx 5 (zd (o_t 42 J) J J) L fun a s _ L=>en' (hK17 _ _ ?_)
    obtain ⟨h35,h⟩:=h
    refine rg (sx 12 (zb (o_t 6 J) J J) L fun a s _ L=>?_)
    refine sx 13 (t_add (o_t 12 J) oI h35 J J) L fun a s _ L=>sx 6 (zd (o_t 13 J) J J) L fun a s _ L=>en' ?_
    exact hKL14 k13 a s (Nat.lt_succ_self _) ⟨(out9++[n30]),(i11+1),og34,L.keep (.k 0 (.k 1 (.cons (t:=5) J (fun _ _ h_=>h_) (.k 6 .nil)))),h⟩
   refine cnd L J (fun hb_=>?_) (fun hb_=>?_)
   ·obtain ⟨h36,h⟩:=h.1 hb_
    refine rg (sx 34 (t_fab (off:=2) (o_t 7 J) Tryz.underlying68 J (zg (zg (zn (zj _ _)) J) J) J ty3 J J) L fun a s _ L=>?_)
    refine sx 35 (zt ty3 (o_t 34 J) J J) L fun a s _ L=>sx 36 (zb (o_t 1 J) J J) L fun a s _ L=>sx 37 (t_add (o_t 35 J) (o_t 36 J) h36 J J) L fun a s _ L=>sx 38 (t_fab (off:=2) (o_t 7 J) Tryz.underlying68 J (zg (zg (zn (zj _ _)) J) J) J ty3 J J) L fun a s _ L=>zdp (L':=[(0,(Pd.rep (En.slice En.SNode) l_)),(1,(Pi by_)),(5,(Pd.row En.SNode s0.w.heap.size 68 og10 out9)),(6,(Pi i11))]) 7 L J (o_t 38 J) (o_t 37 J) (z6 (z6 (zbl (zy _ _ _)) J) J) ty3 J J J (.k 0 (.k 1 (.cons (t:=5) J (Dis.ow d27) (.k 6 .nil)))) fun s L=>?_
    refine en' ?_
    exact J31 (n25.1,n25.2.1,n25.2.2.1+by_,n25.2.2.2.1,n25.2.2.2.2.1,n25.2.2.2.2.2.1,n25.2.2.2.2.2.2) a s (L.keep (.k 0 (.k 1 (.cons (t:=5) J (fun _ _ h_=>h_) (.k 6 (.cons (t:=7) J (fun _ _ h_=>h_) .nil)))))) d27 h
   ·replace h:=h.2 hb_
    refine wp_skip ?_
    exact J31 n25 a s (L.keep (.k 0 (.k 1 (.cons (t:=5) J (fun _ _ h_=>h_) (.k 6 (.cons (t:=7) J (fun _ _ h_=>h_) .nil)))))) d27 h
  refine cnd L J (fun hb_=>?_) (fun hb_=>?_)
  ·obtain ⟨h37,h⟩:=h.1 hb_
   refine rg (sx 21 (t_fab (off:=1) (o_t 7 J) Tryz.underlying68 J (zg (zn (zj _ _)) J) J ty3 J J) L fun a s _ L=>?_)
   refine sx 22 (zt ty3 (o_t 21 J) J J) L fun a s _ L=>sx 23 (zb (o_t 1 J) J J) L fun a s _ L=>sx 24 (t_add (o_t 22 J) (o_t 23 J) h37 J J) L fun a s _ L=>sx 25 (t_fab (off:=1) (o_t 7 J) Tryz.underlying68 J (zg (zn (zj _ _)) J) J ty3 J J) L fun a s _ L=>zdp (L':=[(0,(Pd.rep (En.slice En.SNode) l_)),(1,(Pi by_)),(5,(Pd.row En.SNode s0.w.heap.size 68 og10 out9)),(6,(Pi i11))]) 7 L J (o_t 25 J) (o_t 24 J) (z6 (zbl (zy _ _ _)) J) ty3 J J J (.k 0 (.k 1 (.cons (t:=5) J (Dis.ow (Dis.symm d22)) (.k 6 .nil)))) fun s L=>?_
   refine en' ?_
   exact J26 (e19.1,e19.2.1+by_,e19.2.2.1,e19.2.2.2.1,e19.2.2.2.2.1,e19.2.2.2.2.2.1,e19.2.2.2.2.2.2) a s (L.keep (.k 0 (.k 1 (.cons (t:=5) J (fun _ _ h_=>h_) (.k 6 (.cons (t:=7) J (fun _ _ h_=>h_) .nil)))))) (Dis.symm d22) h
  ·replace h:=h.2 hb_
   refine wp_skip ?_
   exact J26 e19 a s (L.keep (.k 0 (.k 1 (.cons (t:=5) J (fun _ _ h_=>h_) (.k 6 (.cons (t:=7) J (fun _ _ h_=>h_) .nil)))))) (Dis.symm d22) h
 ·replace h:=h.2 hb_
  refine wp_exit ?_
  exact J7 out9 og10 a s (L.keep (.cons (t:=5) J (fun _ _ h_=>h_) .nil)) h
theorem ref04_Wrap_ok {kind_:Int} {lo_:Int} {hi_:Int} {a_:SDesc} {r_:SDesc} (h:ref04_Wrap kind_ lo_ hi_ a_ r_):Fn Tryz.prog 48 [(Pi kind_),(Pi lo_),(Pi hi_),(Pd.rep En.SDesc a_)] (Rq (Pd.rep En.SDesc r_)):=by
 unfold ref04_Wrap at h
 refine fn_of Tryz.func48 J Tryz.ntmps48 (by rfl) (by simp) fun s0 a L=>?_
 refine wp_seq_k fun K1 hK1=>rg (sx 7 (t_box (o_t 3 J) J J) L fun a s _ L=>?_)
 refine zbb En.SDesc (z:=[]) 8 L tyz24 J J J J fun a s g2 hg_ L=>?_
 refine en' (hK1 _ _ ?_)
 refine wp_seq_k fun K3 hK3=>?_
 obtain ⟨r6,h7,h8,h11,h⟩:=h
 obtain ⟨K4,hK4,nK4,L⟩:=L.mark 999983
 have lt5:∀k,(some g2)=some k→k<K4:=by rw [hK4];exact L.blt 8 rfl
 refine rda zbk 12 [(Pd.ptr (En.slice En.SNode) a_),(Pd.rep (En.slice En.SNode) a_),(Pd.erow En.SNode s0.w.heap.size K4 68 r6),(Pi kind_),(Pd.ptr (En.slice En.SNode) a_),(Pd.rep (En.slice En.SNode) a_),(Pi (a_.length:Int)),(Pi ((a_.length:Int)-1)),(Pi lo_),(Pi hi_),(Pd.rep En.SNode (kind_,(a_.length:Int)-1,0,lo_,hi_,(0#256),([]:Str))),(Pd.rep (En.slice En.SNode) [(kind_,(a_.length:Int)-1,0,lo_,hi_,(0#256),([]:Str))])] L (by kernel_rfl) J J ?_ ?_
 ·refine AllT.cons (t_fa (off:=0) (o_t 7 J) Tryz.underlying24 J (zcs (zj _ _)) J ty22 J J) ?_
  refine AllT.cons (zo ty22 (o_t 9 J) J J) (AllT.cons (t_callox (K:=K4) (m:=999983) J nK4 (ref04_moved_ok h7) (xs:=[.tmp 10,.const (.int .i64 0)]) (.cons (o_t 10 J) (.cons oI .nil)) J J) ?_)
  refine AllT.cons (zb (o_t 0 J) J J) (AllT.cons (t_fa (off:=0) (o_t 7 J) Tryz.underlying24 J (zcs (zj _ _)) J ty22 J J) ?_)
  refine AllT.cons (zo ty22 (o_t 13 J) J J) (AllT.cons (t_len (o_t 14 J) Tryz.underlying22 J J) ?_)
  refine AllT.cons (t_sub (o_t 15 J) oI h8 J J) (AllT.cons (zb (o_t 1 J) J J) ?_)
  refine AllT.cons (zb (o_t 2 J) J J) (AllT.cons (zdn (x:=(kind_,(a_.length:Int)-1,0,lo_,hi_,(0#256),([]:Str))) (ps:=[(0,.tmp 12),(1,.tmp 16),(3,.tmp 17),(4,.tmp 18)]) tyz68 J stt68 (.cons (i:=0) (o_t 12 J) J (zbl (zy _ _ _)) (.cons (i:=1) (o_t 16 J) J (z6 (zbl (zy _ _ _)) J) (.cons (i:=3) (o_t 17 J) J (z6 (z6 (z6 (zbl (zy _ _ _)) J) J) J) (.cons (i:=4) (o_t 18 J) J (z6 (z6 (z6 (z6 (zbl (zy _ _ _)) J) J) J) J) .nil)))) J J) ?_)
  refine AllT.cons (t_lit (xs:=[.tmp 19]) (.cons (o_t 19 J) .nil) Tryz.underlying22 ty68 J J (by decide) J J) ?_
  exact AllT.nil
 intro a s _ L
 obtain ⟨og9,hg_,L⟩:=L.openr 11 rfl
 have d10:Dis og9 (some g2):=Dis.new hg_ lt5
 have lt_og12_0:=L.blt 8 rfl
 refine zd2 (L':=[(8,(Pd.box En.SDesc s0.w.heap.size g2 []))]) 21 L (o_t 11 J) (o_t 20 J) Tryz.underlying22 ty68 h11 J J J J (.cons (t:=8) J (Dis.bx (Dis.symm d10)) .nil) fun a s og12 hg_ L=>?_
 have d13:Dis og12 (some g2):=Dis.app hg_ d10 lt_og12_0
 obtain ⟨s15,h14,L⟩:=L.freeze (L':=[(8,(Pd.box En.SDesc s0.w.heap.size g2 []))]) 21 rfl (.cons (t:=8) rfl (Dis.bx (Dis.symm d13)) .nil)
 rw [← h14]
 clear h14
 generalize s15=s at *
 refine sx 22 (zdn (x:=r6++[(kind_,(a_.length:Int)-1,0,lo_,hi_,(0#256),([]:Str))]) (ps:=[(0,.tmp 21)]) tyz24 J stt24 (.cons (i:=0) (o_t 21 J) J (sub_solo (zy _ _ _)) .nil) J J) L fun a s _ L=>zca (L':=[]) 8 L J (o_t 22 J) ty24 J J J .nil fun s L=>?_
 refine en' (hK3 _ _ ?_)
 subst h
 exact wp_ret (retb J ty24 L J)
theorem ref04_Few_ok {d_:SDesc} {r_:Bool} (h:zcw d_ r_):Fn Tryz.prog 13 [(Pd.rep En.SDesc d_)] (Rq (Pd.rep En.bool r_)):=by
 unfold zcw at h
 refine fn_of Tryz.func13 J Tryz.ntmps13 (by rfl) (by simp) fun s0 a L=>?_
 refine wp_seq_k fun K1 hK1=>rg (sx 1 (t_box (o_t 0 J) J J) L fun a s _ L=>?_)
 refine sx 2 (zd o_b J J) L fun a s _ L=>en' (hK1 _ _ ?_)
 refine wp_seq_k fun K2 hK2=>rg (sx 3 (zd oI J J) L fun a s _ L=>?_)
 refine en' (hK2 _ _ ?_)
 refine wp_seq_k fun K3 hK3=>wp_seq_k fun K4 hK4=>rg (sx 4 (zd oI J J) L fun a s _ L=>?_)
 refine en' (hK4 _ _ ?_)
 refine wp_block ?_
 have J6:∀(n5:Int) (a:Act) (s:St),Has N0 33 s0 a s [(1,(Pd.ptr En.SDesc d_)),(3,(Pi n5))]→((zcw.j1 d_ r_) n5)→K3 a s.w:=by
  intro n5 a s L h
  unfold zcw.j1 at h
  show K3 a s.w
  refine hK3 _ _ (wp_seq_k fun K7 hK7=>?_)
  obtain ⟨b8,h9,h⟩:=h
  refine rg (sx 25 (t_fa (off:=0) (o_t 1 J) Tryz.underlying24 J (zcs (zj _ _)) J ty22 J J) L fun a s _ L=>?_)
  refine sx 26 (zo ty22 (o_t 25 J) J J) L fun a s _ L=>sx 27 (t_len (o_t 26 J) Tryz.underlying22 J J) L fun a s _ L=>sx 28 (t_leq (o_t 27 J) oI J J) L fun a s _ L=>sx 29 (zb (o_t 28 J) J J) L fun a s _ L=>sx 30 (t_g1 J J J (fun hc_=>zb (o_t 3 J) J J)) L fun a s _ L=>sx 31 (t_g1 J J J (fun hc_=>t_leq (o_w hc_ 30 J) oI J J)) L fun a s _ L=>sx 32 (h9 ▸ (t_and (o_t 29 J) (fun hc2_=>(o_w hc2_ 31 J)) J J)) L fun a s _ L=>sx 2 (zd (o_t 32 J) J J) L fun a s _ L=>en' (hK7 _ _ ?_)
  subst h
  exact wp_ret (retq J L J)
 obtain ⟨k12,h⟩:=h
 refine lpg (fun k13 a s=>∃(n10:Int) (i11:Int),Has N0 33 s0 a s [(1,(Pd.ptr En.SDesc d_)),(3,(Pi n10)),(4,(Pi i11))]∧zcw.l1 d_ (zcw.j1 d_ r_) k13 n10 i11) k12 ⟨0,0,L.keep (.k 1 (.k 3 (.k 4 .nil))),h⟩ ?_
 rintro k13 a s ⟨n10,i11,L,h⟩ KL14 hKL14
 cases k13 with
 | zero=>exact h.elim
 | succ k13=>
 unfold zcw.l1 at h
 refine wp_seq_k fun K15 hK15=>wp_seq_k fun K16 hK16=>?_
 obtain ⟨b17,h18,h⟩:=h
 refine rg (sx 5 (zb (o_t 4 J) J J) L fun a s _ L=>?_)
 refine sx 6 (t_fa (off:=0) (o_t 1 J) Tryz.underlying24 J (zcs (zj _ _)) J ty22 J J) L fun a s _ L=>sx 7 (zo ty22 (o_t 6 J) J J) L fun a s _ L=>sx 8 (t_len (o_t 7 J) Tryz.underlying22 J J) L fun a s _ L=>sx 9 (t_lss (o_t 5 J) (o_t 8 J) J J) L fun a s _ L=>sx 10 (zb (o_t 9 J) J J) L fun a s _ L=>sx 11 (t_g1 J J J (fun hc_=>zb (o_t 4 J) J J)) L fun a s _ L=>sx 12 (t_g1 J J J (fun hc_=>t_lss (o_w hc_ 11 J) oI J J)) L fun a s _ L=>sx 13 (h18 ▸ (t_and (o_t 10 J) (fun hc2_=>(o_w hc2_ 12 J)) J J)) L fun a s _ L=>en' (hK16 _ _ ?_)
 refine cnd L J (fun hb_=>?_) (fun hb_=>?_)
 ·replace h:=h.1 hb_
  refine wp_skip ?_
  show K15 a s.w
  refine hK15 _ _ (wp_seq_k fun K19 hK19=>?_)
  refine wp_block ?_
  obtain ⟨e20,h21,h22,h⟩:=h
  refine rg (sx 16 (zb (o_t 3 J) J J) L fun a s _ L=>?_)
  refine sx 17 (t_fa (off:=0) (o_t 1 J) Tryz.underlying24 J (zcs (zj _ _)) J ty22 J J) L fun a s _ L=>sx 18 (zo ty22 (o_t 17 J) J J) L fun a s _ L=>sx 19 (zb (o_t 4 J) J J) L fun a s _ L=>sx 20 (t_idx (o_t 18 J) (o_t 19 J) h21 Tryz.underlying22 ty68 J J) L fun a s _ L=>sx 21 (t_fa (off:=9) (o_t 20 J) Tryz.underlying68 J (zg (zg (zg (zg (zg (zg (zj _ _) J) J) J) J) J) J) J ty9 J J) L fun a s _ L=>sx 22 (zo ty9 (o_t 21 J) J J) L fun a s _ L=>sx 23 (t_slen (o_t 22 J) Tryz.underlying9 J J) L fun a s _ L=>sx 24 (t_add (o_t 16 J) (o_t 23 J) h22 J J) L fun a s _ L=>sx 3 (zd (o_t 24 J) J J) L fun a s _ L=>?_
  refine en' (hK19 _ _ ?_)
  obtain ⟨h23,h⟩:=h
  refine rg (sx 14 (zb (o_t 4 J) J J) L fun a s _ L=>?_)
  refine sx 15 (t_add (o_t 14 J) oI h23 J J) L fun a s _ L=>sx 4 (zd (o_t 15 J) J J) L fun a s _ L=>en' ?_
  exact hKL14 k13 a s (Nat.lt_succ_self _) ⟨(n10+(e20.2.2.2.2.2.2.length:Int)),(i11+1),L.keep (.k 1 (.k 3 (.k 4 .nil))),h⟩
 ·replace h:=h.2 hb_
  refine wp_exit ?_
  exact J6 n10 a s (L.keep (.k 1 (.k 3 .nil))) h
theorem ref04_text_ok {s_:Str} {r_:Bool} (h:zcg s_ r_):Fn Tryz.prog 114 [(Pd.rep En.str s_)] (Rq (Pd.rep En.bool r_)):=by
 unfold zcg at h
 refine fn_of Tryz.func114 J Tryz.ntmps114 (by rfl) (by simp) fun s0 a L=>?_
 refine wp_seq_k fun K1 hK1=>rg (sx 2 (zd o_b J J) L fun a s _ L=>?_)
 refine en' (hK1 _ _ ?_)
 refine wp_seq_k fun K2 hK2=>wp_seq_k fun K3 hK3=>rg (sx 3 (zd oI J J) L fun a s _ L=>?_)
 refine en' (hK3 _ _ ?_)
 refine wp_block ?_
 have J4:∀(a:Act) (s:St),Has N0 21 s0 a s [(0,(Pd.rep En.str s_))]→((zcg.j1 s_ r_))→K2 a s.w:=by
  intro a s L h
  unfold zcg.j1 at h
  show K2 a s.w
  refine hK2 _ _ (wp_seq_k fun K5 hK5=>?_)
  obtain ⟨r6,h7,h⟩:=h
  refine rg (sx 14 (zb (o_t 0 J) J J) L fun a s _ L=>?_)
  refine sx 15 (t_slen (o_t 14 J) Tryz.underlying9 J J) L fun a s _ L=>sx 16 (t_gtr (o_t 15 J) oI J J) L fun a s _ L=>sx 17 (zb (o_t 16 J) J J) L fun a s _ L=>sx 18 (t_g1 J J J (fun hc_=>zb (o_t 0 J) J J)) L fun a s _ L=>sx 19 (t_g1 J J J (fun hc_=>zu (ref03_Utf8_ok (h7 hc_)) (xs:=[.tmp 18]) (.cons (o_w hc_ 18 J) .nil) J J)) L fun a s _ L=>sx 20 (t_and (o_t 17 J) (fun hc2_=>(o_w hc2_ 19 J)) J J) L fun a s _ L=>sx 2 (zd (o_t 20 J) J J) L fun a s _ L=>en' (hK5 _ _ ?_)
  subst h
  exact wp_ret (retq J L J)
 obtain ⟨k9,h⟩:=h
 refine lpg (fun k10 a s=>∃(i8:Int),Has N0 21 s0 a s [(0,(Pd.rep En.str s_)),(3,(Pi i8))]∧zcg.l1 s_ r_ (zcg.j1 s_ r_) k10 i8) k9 ⟨0,L.keep (.k 0 (.k 3 .nil)),h⟩ ?_
 rintro k10 a s ⟨i8,L,h⟩ KL11 hKL11
 cases k10 with
 | zero=>exact h.elim
 | succ k10=>
 unfold zcg.l1 at h
 refine wp_seq_k fun K12 hK12=>wp_seq_k fun K13 hK13=>rg (sx 4 (zb (o_t 3 J) J J) L fun a s _ L=>?_)
 refine sx 5 (zb (o_t 0 J) J J) L fun a s _ L=>sx 6 (t_slen (o_t 5 J) Tryz.underlying9 J J) L fun a s _ L=>sx 7 (t_lss (o_t 4 J) (o_t 6 J) J J) L fun a s _ L=>en' (hK13 _ _ ?_)
 refine cnd L J (fun hb_=>?_) (fun hb_=>?_)
 ·replace h:=h.1 hb_
  refine wp_skip ?_
  show K12 a s.w
  refine hK12 _ _ (wp_seq_k fun K14 hK14=>?_)
  refine wp_block (wp_seq_k fun K15 hK15=>?_)
  obtain ⟨c16,h17,h⟩:=h
  refine rg (sx 10 (zb (o_t 0 J) J J) L fun a s _ L=>?_)
  refine sx 11 (zb (o_t 3 J) J J) L fun a s _ L=>sx 12 (t_sidx (o_t 10 J) (o_t 11 J) h17 Tryz.underlying9 J J) L fun a s _ L=>sx 13 (t_eqi (o_t 12 J) (o_i (k:=.u8) (by decide)) J J) L fun a s _ L=>en' (hK15 _ _ ?_)
  refine cnd L J (fun hb_=>?_) (fun hb_=>?_)
  ·replace h:=h.1 hb_
   refine wp_seq_k fun K18 hK18=>rg (sx 2 (zd o_b J J) L fun a s _ L=>?_)
   refine en' (hK18 _ _ ?_)
   subst h
   exact wp_ret (retq J L J)
  ·replace h:=h.2 hb_
   refine wp_skip ?_
   show K14 a s.w
   refine hK14 _ _ ?_
   obtain ⟨h19,h⟩:=h
   refine rg (sx 8 (zb (o_t 3 J) J J) L fun a s _ L=>?_)
   refine sx 9 (t_add (o_t 8 J) oI h19 J J) L fun a s _ L=>sx 3 (zd (o_t 9 J) J J) L fun a s _ L=>en' ?_
   exact hKL11 k10 a s (Nat.lt_succ_self _) ⟨(i8+1),L.keep (.k 0 (.k 3 .nil)),h⟩
 ·replace h:=h.2 hb_
  refine wp_exit ?_
  exact J4 a s (L.keep (.k 0 .nil)) h
theorem zw.n_ok (k_:Nat):∀{l_:(List SNode)} {i_:Int} {r_:Int} (h:zw.n k_ l_ i_ r_),Fn Tryz.prog 85 [(Pd.rep (En.slice En.SNode) l_),(Pi i_)] (Rq (Pi r_)):=by
 induction k_ with
 | zero=>intro l_ i_ r_ h;exact h.elim
 | succ k_ ih_=>
 intro l_ i_ r_ h
 unfold zw.n at h
 refine fn_of Tryz.func85 J Tryz.ntmps85 (by rfl) (by simp) fun s0 a L=>?_
 refine wp_seq_k fun K1 hK1=>rg (sx 4 (zd oI J J) L fun a s _ L=>?_)
 refine en' (hK1 _ _ ?_)
 refine wp_seq_k fun K2 hK2=>wp_seq_k fun K3 hK3=>rg (sx 9 (zb (o_t 1 J) J J) L fun a s _ L=>?_)
 refine sx 10 (t_lss (o_t 9 J) oI J J) L fun a s _ L=>en' (hK3 _ _ ?_)
 refine cnd L J (fun hb_=>?_) (fun hb_=>?_)
 ·replace h:=h.1 hb_
  refine wp_seq_k fun K4 hK4=>rg (sx 4 (zd oI J J) L fun a s _ L=>?_)
  refine en' (hK4 _ _ ?_)
  subst h
  exact wp_ret (retq J L J)
 ·replace h:=h.2 hb_
  refine wp_skip ?_
  show K2 a s.w
  refine hK2 _ _ (wp_seq_k fun K5 hK5=>?_)
  obtain ⟨e6,h7,h⟩:=h
  refine rg (sx 11 (zb (o_t 0 J) J J) L fun a s _ L=>?_)
  refine sx 12 (zb (o_t 1 J) J J) L fun a s _ L=>sx 13 (t_idx (o_t 11 J) (o_t 12 J) h7 Tryz.underlying22 ty68 J J) L fun a s _ L=>sx 14 (zo ty68 (o_t 13 J) J J) L fun a s _ L=>zbb En.SNode (z:=(0,0,0,0,0,(0#256),([]:Str))) 5 L tyz68 J J J J fun a s g8 hg_ L=>?_
  refine zca (L':=[(0,(Pd.rep (En.slice En.SNode) l_)),(1,(Pi i_))]) 5 L J (o_t 14 J) ty68 J J J (.k 0 (.k 1 .nil)) fun s L=>?_
  refine en' (hK5 _ _ ?_)
  refine wp_seq_k fun K9 hK9=>rg (sx 15 (t_fab (off:=0) (o_t 5 J) Tryz.underlying68 J (zn (zj _ _)) J ty3 J J) L fun a s _ L=>?_)
  refine sx 16 (zt ty3 (o_t 15 J) J J) L fun a s _ L=>sx 17 (zdn (x:=(e6.1,0,0,0,0,(0#256),([]:Str))) (ps:=[(0,.tmp 16)]) tyz68 J stt68 (.cons (i:=0) (o_t 16 J) J (zbl (zy _ _ _)) .nil) J J) L fun a s _ L=>?_
  have lt_d11:=L.blt 5 rfl
  refine zbb En.SNode (z:=(0,0,0,0,0,(0#256),([]:Str))) 6 L tyz68 J J J J fun a s g10 hg_ L=>?_
  have d11:Dis (some g10) (some g8):=Dis.newg hg_ lt_d11
  refine zca (L':=[(0,(Pd.rep (En.slice En.SNode) l_)),(1,(Pi i_)),(5,(Pd.box En.SNode s0.w.heap.size g8 e6))]) 6 L J (o_t 17 J) ty68 J J J (.k 0 (.k 1 (.cons (t:=5) J (Dis.bx (Dis.symm d11)) .nil))) fun s L=>?_
  refine en' (hK9 _ _ ?_)
  refine wp_seq_k fun K12 hK12=>rg (sx 18 (zb (o_t 1 J) J J) L fun a s _ L=>?_)
  refine sx 7 (zd (o_t 18 J) J J) L fun a s _ L=>en' (hK12 _ _ ?_)
  refine wp_seq_k fun K13 hK13=>wp_seq_k fun K14 hK14=>rg (sx 19 (t_fab (off:=0) (o_t 5 J) Tryz.underlying68 J (zn (zj _ _)) J ty3 J J) L fun a s _ L=>?_)
  refine sx 20 (zt ty3 (o_t 19 J) J J) L fun a s _ L=>en' (hK14 _ _ ?_)
  refine wp_block (wp_seq_k fun K15 hK15=>?_)
  refine rg (sx 22 (t_eqi (o_t 20 J) oI J J) L fun a s _ L=>?_)
  refine sx 21 (zd (o_t 22 J) J J) L fun a s _ L=>en' (hK15 _ _ ?_)
  refine cnd L J (fun hb_=>?_) (fun hb_=>?_)
  ·replace h:=h.1 hb_
   refine wp_skip ?_
   show K13 a s.w
   refine hK13 _ _ (wp_seq_k fun K16 hK16=>?_)
   refine wp_seq_k fun K17 hK17=>rg (sx 92 (zbh ty68 (o_t 5 J) J J) L fun a s _ L=>?_)
   refine sx 93 (zbh ty68 (o_t 6 J) J J) L fun a s _ L=>sx 94 (t_nev eq68 (o_t 92 J) (o_t 93 J) J J) L fun a s _ L=>en' (hK17 _ _ ?_)
   refine cnd L J (fun hb_=>?_) (fun hb_=>?_)
   ·replace h:=h.1 hb_
    refine wp_seq_k fun K18 hK18=>rg (sx 4 (zd oI J J) L fun a s _ L=>?_)
    refine en' (hK18 _ _ ?_)
    subst h
    exact wp_ret (retq J L J)
   ·replace h:=h.2 hb_
    refine wp_skip ?_
    show K16 a s.w
    refine hK16 _ _ (wp_seq_k fun K19 hK19=>?_)
    refine rg (sx 95 (zb (o_t 7 J) J J) L fun a s _ L=>?_)
    refine sx 4 (zd (o_t 95 J) J J) L fun a s _ L=>en' (hK19 _ _ ?_)
    subst h
    exact wp_ret (retq J L J)
  ·replace h:=h.2 hb_
   refine wp_seq_k fun K20 hK20=>rg (sx 24 (t_eqi (o_t 20 J) oI J J) L fun a s _ L=>?_)
   refine sx 23 (zd (o_t 24 J) J J) L fun a s _ L=>en' (hK20 _ _ ?_)
   refine cnd L J (fun hb_=>?_) (fun hb_=>?_)
   ·replace h:=h.1 hb_
    refine rg (sx 25 (t_fab (off:=5) (o_t 5 J) Tryz.underlying68 J (zg (zg (zg (zg (zg (zn (zj _ _)) J) J) J) J) J) J ty51 J J) L fun a s _ L=>?_)
    refine sx 26 (zt ty51 (o_t 25 J) J J) L fun a s _ L=>sx 27 (t_fab (off:=5) (o_t 6 J) Tryz.underlying68 J (zg (zg (zg (zg (zg (zn (zj _ _)) J) J) J) J) J) J ty51 J J) L fun a s _ L=>zdp (L':=[(5,(Pd.box En.SNode s0.w.heap.size g8 e6)),(7,(Pi i_))]) 6 L J (o_t 27 J) (o_t 26 J) (z6 (z6 (z6 (z6 (z6 (zbl (zy _ _ _)) J) J) J) J) J) ty51 J J J (.cons (t:=5) J (Dis.bx (Dis.symm d11)) (.k 7 .nil)) fun s L=>?_
    refine en' (hK13 _ _ ?_)
    refine wp_seq_k fun K21 hK21=>wp_seq_k fun K22 hK22=>?_
    obtain ⟨b23,h24,h⟩:=h
    refine rg (sx 92 (zbh ty68 (o_t 5 J) J J) L fun a s _ L=>?_)
    refine sx 93 (zbh ty68 (o_t 6 J) J J) L fun a s _ L=>sx 94 (h24 ▸ (t_nev eq68 (o_t 92 J) (o_t 93 J) J J)) L fun a s _ L=>en' (hK22 _ _ ?_)
    refine cnd L J (fun hb_=>?_) (fun hb_=>?_)
    ·replace h:=h.1 hb_
     refine wp_seq_k fun K25 hK25=>rg (sx 4 (zd oI J J) L fun a s _ L=>?_)
     refine en' (hK25 _ _ ?_)
     subst h
     exact wp_ret (retq J L J)
    ·replace h:=h.2 hb_
     refine wp_skip ?_
     show K21 a s.w
     refine hK21 _ _ (wp_seq_k fun K26 hK26=>?_)
     refine rg (sx 95 (zb (o_t 7 J) J J) L fun a s _ L=>?_)
     refine sx 4 (zd (o_t 95 J) J J) L fun a s _ L=>en' (hK26 _ _ ?_)
     subst h
     exact wp_ret (retq J L J)
   ·replace h:=h.2 hb_
    refine wp_seq_k fun K27 hK27=>rg (sx 29 (t_eqi (o_t 20 J) oI J J) L fun a s _ L=>?_)
    refine sx 28 (zd (o_t 29 J) J J) L fun a s _ L=>en' (hK27 _ _ ?_)
    refine cnd L J (fun hb_=>?_) (fun hb_=>?_)
    ·replace h:=h.1 hb_
     refine wp_seq_k fun K28 hK28=>rg (sx 30 (t_fab (off:=9) (o_t 5 J) Tryz.underlying68 J (zg (zg (zg (zg (zg (zg (zj _ _) J) J) J) J) J) J) J ty9 J J) L fun a s _ L=>?_)
     refine sx 31 (zt ty9 (o_t 30 J) J J) L fun a s _ L=>sx 32 (t_fab (off:=9) (o_t 6 J) Tryz.underlying68 J (zg (zg (zg (zg (zg (zg (zj _ _) J) J) J) J) J) J) J ty9 J J) L fun a s _ L=>zdp (L':=[(5,(Pd.box En.SNode s0.w.heap.size g8 e6)),(7,(Pi i_))]) 6 L J (o_t 32 J) (o_t 31 J) (z6 (z6 (z6 (z6 (z6 (z6 (zy _ _ _) J) J) J) J) J) J) ty9 J J J (.cons (t:=5) J (Dis.bx (Dis.symm d11)) (.k 7 .nil)) fun s L=>?_
     refine en' (hK28 _ _ ?_)
     refine wp_seq_k fun K29 hK29=>?_
     obtain ⟨r30,h31,h⟩:=h
     refine rg (sx 33 (t_fab (off:=9) (o_t 5 J) Tryz.underlying68 J (zg (zg (zg (zg (zg (zg (zj _ _) J) J) J) J) J) J) J ty9 J J) L fun a s _ L=>?_)
     refine sx 34 (zt ty9 (o_t 33 J) J J) L fun a s _ L=>sx 35 (zu (ref04_text_ok h31) (xs:=[.tmp 34]) (.cons (o_t 34 J) .nil) J J) L fun a s _ L=>sx 36 (t_not (o_t 35 J) J J) L fun a s _ L=>en' (hK29 _ _ ?_)
     refine cnd L J (fun hb_=>?_) (fun hb_=>?_)
     ·replace h:=h.1 hb_
      refine wp_seq_k fun K32 hK32=>rg (sx 4 (zd oI J J) L fun a s _ L=>?_)
      refine en' (hK32 _ _ ?_)
      subst h
      exact wp_ret (retq J L J)
     ·replace h:=h.2 hb_
      refine wp_skip ?_
      show K13 a s.w
      refine hK13 _ _ (wp_seq_k fun K33 hK33=>?_)
      refine wp_seq_k fun K34 hK34=>?_
      obtain ⟨b35,h36,h⟩:=h
      refine rg (sx 92 (zbh ty68 (o_t 5 J) J J) L fun a s _ L=>?_)
      refine sx 93 (zbh ty68 (o_t 6 J) J J) L fun a s _ L=>sx 94 (h36 ▸ (t_nev eq68 (o_t 92 J) (o_t 93 J) J J)) L fun a s _ L=>en' (hK34 _ _ ?_)
      refine cnd L J (fun hb_=>?_) (fun hb_=>?_)
      ·replace h:=h.1 hb_
       refine wp_seq_k fun K37 hK37=>rg (sx 4 (zd oI J J) L fun a s _ L=>?_)
       refine en' (hK37 _ _ ?_)
       subst h
       exact wp_ret (retq J L J)
      ·replace h:=h.2 hb_
       refine wp_skip ?_
       show K33 a s.w
       refine hK33 _ _ (wp_seq_k fun K38 hK38=>?_)
       refine rg (sx 95 (zb (o_t 7 J) J J) L fun a s _ L=>?_)
       refine sx 4 (zd (o_t 95 J) J J) L fun a s _ L=>en' (hK38 _ _ ?_)
       subst h
       exact wp_ret (retq J L J)
    ·replace h:=h.2 hb_
     refine wp_seq_k fun K39 hK39=>wp_seq_k fun K40 hK40=>rg (sx 38 (t_eqi (o_t 20 J) oI J J) L fun a s _ L=>?_)
     refine sx 37 (zd (o_t 38 J) J J) L fun a s _ L=>en' (hK40 _ _ ?_)
     have J42:∀(v41:Bool) (a:Act) (s:St),Has N0 96 s0 a s [(0,(Pd.rep (En.slice En.SNode) l_)),(1,(Pi i_)),(5,(Pd.box En.SNode s0.w.heap.size g8 e6)),(6,(Pd.box En.SNode s0.w.heap.size g10 (e6.1,0,0,0,0,(0#256),([]:Str)))),(20,(Pi e6.1)),(37,(Pd.rep En.bool v41))]→Dis (some g8) (some g10)→((zw.j3 (zw.n k_) l_ i_ r_ e6) v41)→K39 a s.w:=by
      intro v41 a s L d43 h
      unfold zw.j3 at h
      show K39 a s.w
      refine hK39 _ _ (cnd L J (fun hb_=>?_) (fun hb_=>?_))
      ·replace h:=h.1 hb_
       refine wp_seq_k fun K44 hK44=>?_
       obtain ⟨h45,h⟩:=h
       refine rg (sx 42 (zb (o_t 1 J) J J) L fun a s _ L=>?_)
       refine sx 43 (t_sub (o_t 42 J) oI h45 J J) L fun a s _ L=>sx 44 (t_fab (off:=1) (o_t 6 J) Tryz.underlying68 J (zg (zn (zj _ _)) J) J ty3 J J) L fun a s _ L=>zdp (L':=[(0,(Pd.rep (En.slice En.SNode) l_)),(1,(Pi i_)),(5,(Pd.box En.SNode s0.w.heap.size g8 e6))]) 6 L J (o_t 44 J) (o_t 43 J) (z6 (zbl (zy _ _ _)) J) ty3 J J J (.k 0 (.k 1 (.cons (t:=5) J (Dis.bx d43) .nil))) fun s L=>?_
       refine en' (hK44 _ _ ?_)
       refine wp_seq_k fun K46 hK46=>wp_seq_k fun K47 hK47=>rg (sx 45 (t_fab (off:=0) (o_t 5 J) Tryz.underlying68 J (zn (zj _ _)) J ty3 J J) L fun a s _ L=>?_)
       refine sx 46 (zt ty3 (o_t 45 J) J J) L fun a s _ L=>sx 47 (t_eqi (o_t 46 J) oI J J) L fun a s _ L=>en' (hK47 _ _ ?_)
       have J49:∀(want48:SNode) (a:Act) (s:St),Has N0 96 s0 a s [(0,(Pd.rep (En.slice En.SNode) l_)),(1,(Pi i_)),(5,(Pd.box En.SNode s0.w.heap.size g8 e6)),(6,(Pd.box En.SNode s0.w.heap.size g10 want48))]→Dis (some g8) (some g10)→((zw.j1 (zw.n k_) l_ i_ r_ e6) want48)→K46 a s.w:=by
        intro want48 a s L d50 h
        unfold zw.j1 at h
        show K46 a s.w
        refine hK46 _ _ ?_
        obtain ⟨h51,r52,h53,h⟩:=h
        refine rg (sx 69 (zb (o_t 0 J) J J) L fun a s _ L=>?_)
        refine sx 70 (zb (o_t 1 J) J J) L fun a s _ L=>sx 71 (t_sub (o_t 70 J) oI h51 J J) L fun a s _ L=>sx 72 (zu (ih_ h53) (xs:=[.tmp 69,.tmp 71]) (.cons (o_t 69 J) (.cons (o_t 71 J) .nil)) J J) L fun a s _ L=>sx 7 (zd (o_t 72 J) J J) L fun a s _ L=>en' (hK13 _ _ ?_)
        refine wp_seq_k fun K54 hK54=>wp_seq_k fun K55 hK55=>rg (sx 92 (zbh ty68 (o_t 5 J) J J) L fun a s _ L=>?_)
        refine sx 93 (zbh ty68 (o_t 6 J) J J) L fun a s _ L=>sx 94 (t_nev eq68 (o_t 92 J) (o_t 93 J) J J) L fun a s _ L=>en' (hK55 _ _ ?_)
        refine cnd L J (fun hb_=>?_) (fun hb_=>?_)
        ·replace h:=h.1 hb_
         refine wp_seq_k fun K56 hK56=>rg (sx 4 (zd oI J J) L fun a s _ L=>?_)
         refine en' (hK56 _ _ ?_)
         subst h
         exact wp_ret (retq J L J)
        ·replace h:=h.2 hb_
         refine wp_skip ?_
         show K54 a s.w
         refine hK54 _ _ (wp_seq_k fun K57 hK57=>?_)
         refine rg (sx 95 (zb (o_t 7 J) J J) L fun a s _ L=>?_)
         refine sx 4 (zd (o_t 95 J) J J) L fun a s _ L=>en' (hK57 _ _ ?_)
         subst h
         exact wp_ret (retq J L J)
       refine cnd L J (fun hb_=>?_) (fun hb_=>?_)
       ·replace h:=h.1 hb_
        refine wp_seq_k fun K58 hK58=>rg (sx 48 (t_fab (off:=3) (o_t 5 J) Tryz.underlying68 J (zg (zg (zg (zn (zj _ _)) J) J) J) J ty3 J J) L fun a s _ L=>?_)
        refine sx 49 (zt ty3 (o_t 48 J) J J) L fun a s _ L=>sx 50 (t_fab (off:=3) (o_t 6 J) Tryz.underlying68 J (zg (zg (zg (zn (zj _ _)) J) J) J) J ty3 J J) L fun a s _ L=>zdp (L':=[(0,(Pd.rep (En.slice En.SNode) l_)),(1,(Pi i_)),(5,(Pd.box En.SNode s0.w.heap.size g8 e6))]) 6 L J (o_t 50 J) (o_t 49 J) (z6 (z6 (z6 (zbl (zy _ _ _)) J) J) J) ty3 J J J (.k 0 (.k 1 (.cons (t:=5) J (Dis.bx d43) .nil))) fun s L=>?_
        refine en' (hK58 _ _ ?_)
        refine wp_seq_k fun K59 hK59=>rg (sx 51 (t_fab (off:=4) (o_t 5 J) Tryz.underlying68 J (zg (zg (zg (zg (zn (zj _ _)) J) J) J) J) J ty3 J J) L fun a s _ L=>?_)
        refine sx 52 (zt ty3 (o_t 51 J) J J) L fun a s _ L=>sx 53 (t_fab (off:=4) (o_t 6 J) Tryz.underlying68 J (zg (zg (zg (zg (zn (zj _ _)) J) J) J) J) J ty3 J J) L fun a s _ L=>zdp (L':=[(0,(Pd.rep (En.slice En.SNode) l_)),(1,(Pi i_)),(5,(Pd.box En.SNode s0.w.heap.size g8 e6))]) 6 L J (o_t 53 J) (o_t 52 J) (z6 (z6 (z6 (z6 (zbl (zy _ _ _)) J) J) J) J) ty3 J J J (.k 0 (.k 1 (.cons (t:=5) J (Dis.bx d43) .nil))) fun s L=>?_
        refine en' (hK59 _ _ ?_)
        refine wp_seq_k fun K60 hK60=>?_
        obtain ⟨b61,h62,h⟩:=h
        refine rg (sx 54 (t_fab (off:=3) (o_t 5 J) Tryz.underlying68 J (zg (zg (zg (zn (zj _ _)) J) J) J) J ty3 J J) L fun a s _ L=>?_)
        refine sx 55 (zt ty3 (o_t 54 J) J J) L fun a s _ L=>sx 56 (t_lss (o_t 55 J) oI J J) L fun a s _ L=>sx 57 (zb (o_t 56 J) J J) L fun a s _ L=>sx 58 (t_g1 J J J (fun hc_=>t_fab (off:=3) (o_t 5 J) Tryz.underlying68 J (zg (zg (zg (zn (zj _ _)) J) J) J) J ty3 J J)) L fun a s _ L=>sx 59 (t_g1 J J J (fun hc_=>zt ty3 (o_w hc_ 58 J) J J)) L fun a s _ L=>sx 60 (t_g1 J J J (fun hc_=>t_fab (off:=4) (o_t 5 J) Tryz.underlying68 J (zg (zg (zg (zg (zn (zj _ _)) J) J) J) J) J ty3 J J)) L fun a s _ L=>sx 61 (t_g1 J J J (fun hc_=>zt ty3 (o_w hc_ 60 J) J J)) L fun a s _ L=>sx 62 (t_g1 J J J (fun hc_=>t_gtr (o_w hc_ 59 J) (o_w hc_ 61 J) J J)) L fun a s _ L=>sx 63 (h62 ▸ (t_or (o_t 57 J) (fun hc2_=>(o_w hc2_ 62 J)) J J)) L fun a s _ L=>?_
        refine sx 64 (zb (o_t 63 J) J J) L fun a s _ L=>sx 65 (t_g1 J J J (fun hc_=>t_fab (off:=4) (o_t 5 J) Tryz.underlying68 J (zg (zg (zg (zg (zn (zj _ _)) J) J) J) J) J ty3 J J)) L fun a s _ L=>sx 66 (t_g1 J J J (fun hc_=>zt ty3 (o_w hc_ 65 J) J J)) L fun a s _ L=>sx 67 (t_g1 J J J (fun hc_=>t_gtr (o_w hc_ 66 J) oI J J)) L fun a s _ L=>sx 68 (t_or (o_t 64 J) (fun hc2_=>(o_w hc2_ 67 J)) J J) L fun a s _ L=>en' (hK60 _ _ ?_)
        refine cnd L J (fun hb_=>?_) (fun hb_=>?_)
        ·replace h:=h.1 hb_
         refine wp_seq_k fun K63 hK63=>rg (sx 4 (zd oI J J) L fun a s _ L=>?_)
         refine en' (hK63 _ _ ?_)
         subst h
         exact wp_ret (retq J L J)
        ·replace h:=h.2 hb_
         refine wp_skip ?_
         exact J49 (e6.1,i_-1,0,e6.2.2.2.1,e6.2.2.2.2.1,(0#256),([]:Str)) a s (L.keep (.k 0 (.k 1 (.cons (t:=5) J (fun _ _ h_=>h_) (.cons (t:=6) J (fun _ _ h_=>h_) .nil))))) d43 h
       ·replace h:=h.2 hb_
        refine wp_skip ?_
        exact J49 (e6.1,i_-1,0,0,0,(0#256),([]:Str)) a s (L.keep (.k 0 (.k 1 (.cons (t:=5) J (fun _ _ h_=>h_) (.cons (t:=6) J (fun _ _ h_=>h_) .nil))))) d43 h
      ·replace h:=h.2 hb_
       refine wp_seq_k fun K64 hK64=>wp_seq_k fun K65 hK65=>rg (sx 74 (t_eqi (o_t 20 J) oI J J) L fun a s _ L=>?_)
       refine sx 73 (zd (o_t 74 J) J J) L fun a s _ L=>en' (hK65 _ _ ?_)
       have J67:∀(v66:Bool) (a:Act) (s:St),Has N0 96 s0 a s [(0,(Pd.rep (En.slice En.SNode) l_)),(1,(Pi i_)),(5,(Pd.box En.SNode s0.w.heap.size g8 e6)),(6,(Pd.box En.SNode s0.w.heap.size g10 (e6.1,0,0,0,0,(0#256),([]:Str)))),(73,(Pd.rep En.bool v66))]→Dis (some g8) (some g10)→((zw.j2 (zw.n k_) l_ i_ r_ e6) v66)→K64 a s.w:=by
        intro v66 a s L d68 h
        unfold zw.j2 at h
        show K64 a s.w
        refine hK64 _ _ (cnd L J (fun hb_=>?_) (fun hb_=>?_))
        ·replace h:=h.1 hb_
         refine wp_seq_k fun K69 hK69=>?_
         obtain ⟨h70,h⟩:=h
         refine rg (sx 76 (zb (o_t 1 J) J J) L fun a s _ L=>?_)
         refine sx 77 (t_sub (o_t 76 J) oI h70 J J) L fun a s _ L=>sx 78 (t_fab (off:=2) (o_t 6 J) Tryz.underlying68 J (zg (zg (zn (zj _ _)) J) J) J ty3 J J) L fun a s _ L=>zdp (L':=[(0,(Pd.rep (En.slice En.SNode) l_)),(1,(Pi i_)),(5,(Pd.box En.SNode s0.w.heap.size g8 e6))]) 6 L J (o_t 78 J) (o_t 77 J) (z6 (z6 (zbl (zy _ _ _)) J) J) ty3 J J J (.k 0 (.k 1 (.cons (t:=5) J (Dis.bx d68) .nil))) fun s L=>?_
         refine en' (hK69 _ _ ?_)
         refine wp_seq_k fun K71 hK71=>?_
         obtain ⟨h72,r73,h74,h⟩:=h
         refine rg (sx 79 (zb (o_t 0 J) J J) L fun a s _ L=>?_)
         refine sx 80 (zb (o_t 1 J) J J) L fun a s _ L=>sx 81 (t_sub (o_t 80 J) oI h72 J J) L fun a s _ L=>sx 82 (zu (ih_ h74) (xs:=[.tmp 79,.tmp 81]) (.cons (o_t 79 J) (.cons (o_t 81 J) .nil)) J J) L fun a s _ L=>sx 8 (zd (o_t 82 J) J J) L fun a s _ L=>en' (hK71 _ _ ?_)
         refine wp_seq_k fun K75 hK75=>wp_seq_k fun K76 hK76=>rg (sx 83 (zb (o_t 8 J) J J) L fun a s _ L=>?_)
         refine sx 84 (t_lss (o_t 83 J) oI J J) L fun a s _ L=>en' (hK76 _ _ ?_)
         refine cnd L J (fun hb_=>?_) (fun hb_=>?_)
         ·replace h:=h.1 hb_
          refine wp_seq_k fun K77 hK77=>rg (sx 4 (zd oI J J) L fun a s _ L=>?_)
          refine en' (hK77 _ _ ?_)
          subst h
          exact wp_ret (retq J L J)
         ·replace h:=h.2 hb_
          refine wp_skip ?_
          show K75 a s.w
          refine hK75 _ _ (wp_seq_k fun K78 hK78=>?_)
          obtain ⟨h79,h⟩:=h
          refine rg (sx 85 (zb (o_t 8 J) J J) L fun a s _ L=>?_)
          refine sx 86 (t_sub (o_t 85 J) oI h79 J J) L fun a s _ L=>sx 87 (t_fab (off:=1) (o_t 6 J) Tryz.underlying68 J (zg (zn (zj _ _)) J) J ty3 J J) L fun a s _ L=>zdp (L':=[(0,(Pd.rep (En.slice En.SNode) l_)),(5,(Pd.box En.SNode s0.w.heap.size g8 e6)),(8,(Pi r73))]) 6 L J (o_t 87 J) (o_t 86 J) (z6 (zbl (zy _ _ _)) J) ty3 J J J (.k 0 (.cons (t:=5) J (Dis.bx d68) (.k 8 .nil))) fun s L=>?_
          refine en' (hK78 _ _ ?_)
          obtain ⟨h80,r81,h82,h⟩:=h
          refine rg (sx 88 (zb (o_t 0 J) J J) L fun a s _ L=>?_)
          refine sx 89 (zb (o_t 8 J) J J) L fun a s _ L=>sx 90 (t_sub (o_t 89 J) oI h80 J J) L fun a s _ L=>sx 91 (zu (ih_ h82) (xs:=[.tmp 88,.tmp 90]) (.cons (o_t 88 J) (.cons (o_t 90 J) .nil)) J J) L fun a s _ L=>sx 7 (zd (o_t 91 J) J J) L fun a s _ L=>en' (hK13 _ _ ?_)
          refine wp_seq_k fun K83 hK83=>wp_seq_k fun K84 hK84=>?_
          obtain ⟨b85,h86,h⟩:=h
          refine rg (sx 92 (zbh ty68 (o_t 5 J) J J) L fun a s _ L=>?_)
          refine sx 93 (zbh ty68 (o_t 6 J) J J) L fun a s _ L=>sx 94 (h86 ▸ (t_nev eq68 (o_t 92 J) (o_t 93 J) J J)) L fun a s _ L=>en' (hK84 _ _ ?_)
          refine cnd L J (fun hb_=>?_) (fun hb_=>?_)
          ·replace h:=h.1 hb_
           refine wp_seq_k fun K87 hK87=>rg (sx 4 (zd oI J J) L fun a s _ L=>?_)
           refine en' (hK87 _ _ ?_)
           subst h
           exact wp_ret (retq J L J)
          ·replace h:=h.2 hb_
           refine wp_skip ?_
           show K83 a s.w
           refine hK83 _ _ (wp_seq_k fun K88 hK88=>?_)
           refine rg (sx 95 (zb (o_t 7 J) J J) L fun a s _ L=>?_)
           refine sx 4 (zd (o_t 95 J) J J) L fun a s _ L=>en' (hK88 _ _ ?_)
           subst h
           exact wp_ret (retq J L J)
        ·replace h:=h.2 hb_
         refine wp_seq_k fun K89 hK89=>rg (sx 4 (zd oI J J) L fun a s _ L=>?_)
         refine en' (hK89 _ _ ?_)
         subst h
         exact wp_ret (retq J L J)
       refine cnd L J (fun hb_=>?_) (fun hb_=>?_)
       ·replace h:=h.1 hb_
        refine wp_skip ?_
        exact J67 (e6.1==4) a s (L.keep (.k 0 (.k 1 (.cons (t:=5) J (fun _ _ h_=>h_) (.cons (t:=6) J (fun _ _ h_=>h_) (.k 73 .nil)))))) d43 h
       ·replace h:=h.2 hb_
        refine rg (sx 75 (t_eqi (o_t 20 J) oI J J) L fun a s _ L=>?_)
        refine sx 73 (zd (o_t 75 J) J J) L fun a s _ L=>en' ?_
        exact J67 (e6.1==5) a s (L.keep (.k 0 (.k 1 (.cons (t:=5) J (fun _ _ h_=>h_) (.cons (t:=6) J (fun _ _ h_=>h_) (.k 73 .nil)))))) d43 h
     refine cnd L J (fun hb_=>?_) (fun hb_=>?_)
     ·replace h:=h.1 hb_
      refine wp_skip ?_
      exact J42 (e6.1==6) a s (L.keep (.k 0 (.k 1 (.cons (t:=5) J (fun _ _ h_=>h_) (.cons (t:=6) J (fun _ _ h_=>h_) (.k 20 (.k 37 .nil))))))) (Dis.symm d11) h
     ·replace h:=h.2 hb_
      refine wp_seq_k fun K90 hK90=>rg (sx 39 (t_eqi (o_t 20 J) oI J J) L fun a s _ L=>?_)
      refine sx 37 (zd (o_t 39 J) J J) L fun a s _ L=>en' (hK90 _ _ ?_)
      refine cnd L J (fun hb_=>?_) (fun hb_=>?_)
      ·replace h:=h.1 hb_
       refine wp_skip ?_
       exact J42 (e6.1==7) a s (L.keep (.k 0 (.k 1 (.cons (t:=5) J (fun _ _ h_=>h_) (.cons (t:=6) J (fun _ _ h_=>h_) (.k 20 (.k 37 .nil))))))) (Dis.symm d11) h
      ·replace h:=h.2 hb_
       refine wp_seq_k fun K91 hK91=>rg (sx 40 (t_eqi (o_t 20 J) oI J J) L fun a s _ L=>?_)
       refine sx 37 (zd (o_t 40 J) J J) L fun a s _ L=>en' (hK91 _ _ ?_)
       refine cnd L J (fun hb_=>?_) (fun hb_=>?_)
       ·replace h:=h.1 hb_
        refine wp_skip ?_
        exact J42 (e6.1==8) a s (L.keep (.k 0 (.k 1 (.cons (t:=5) J (fun _ _ h_=>h_) (.cons (t:=6) J (fun _ _ h_=>h_) (.k 20 (.k 37 .nil))))))) (Dis.symm d11) h
       ·replace h:=h.2 hb_
        refine rg (sx 41 (t_eqi (o_t 20 J) oI J J) L fun a s _ L=>?_)
        refine sx 37 (zd (o_t 41 J) J J) L fun a s _ L=>en' ?_
        exact J42 (e6.1==9) a s (L.keep (.k 0 (.k 1 (.cons (t:=5) J (fun _ _ h_=>h_) (.cons (t:=6) J (fun _ _ h_=>h_) (.k 20 (.k 37 .nil))))))) (Dis.symm d11) h
theorem ref04_First_ok {l_:(List SNode)} {i_:Int} {r_:Int} (h:zw l_ i_ r_):Fn Tryz.prog 85 [(Pd.rep (En.slice En.SNode) l_),(Pi i_)] (Rq (Pi r_)):=by
 obtain ⟨k_,h⟩:=h
 exact zw.n_ok k_ h
theorem ref04_Form_ok {d_:SDesc} {r_:Bool} (h:ref04_Form d_ r_):Fn Tryz.prog 49 [(Pd.rep En.SDesc d_)] (Rq (Pd.rep En.bool r_)):=by
 unfold ref04_Form at h
 refine fn_of Tryz.func49 J Tryz.ntmps49 (by rfl) (by simp) fun s0 a L=>?_
 refine wp_seq_k fun K1 hK1=>rg (sx 1 (t_box (o_t 0 J) J J) L fun a s _ L=>?_)
 refine sx 2 (zd o_b J J) L fun a s _ L=>en' (hK1 _ _ ?_)
 refine wp_seq_k fun K2 hK2=>?_
 obtain ⟨h3,r4,h5,h⟩:=h
 refine rg (sx 3 (t_fa (off:=0) (o_t 1 J) Tryz.underlying24 J (zcs (zj _ _)) J ty22 J J) L fun a s _ L=>?_)
 refine sx 4 (zo ty22 (o_t 3 J) J J) L fun a s _ L=>sx 5 (t_len (o_t 4 J) Tryz.underlying22 J J) L fun a s _ L=>sx 6 (t_gtr (o_t 5 J) oI J J) L fun a s _ L=>sx 7 (zb (o_t 6 J) J J) L fun a s _ L=>sx 8 (t_g1 J J J (fun hc_=>t_fa (off:=0) (o_t 1 J) Tryz.underlying24 J (zcs (zj _ _)) J ty22 J J)) L fun a s _ L=>sx 9 (t_g1 J J J (fun hc_=>zo ty22 (o_w hc_ 8 J) J J)) L fun a s _ L=>sx 10 (t_g1 J J J (fun hc_=>t_fa (off:=0) (o_t 1 J) Tryz.underlying24 J (zcs (zj _ _)) J ty22 J J)) L fun a s _ L=>sx 11 (t_g1 J J J (fun hc_=>zo ty22 (o_w hc_ 10 J) J J)) L fun a s _ L=>sx 12 (t_g1 J J J (fun hc_=>t_len (o_w hc_ 11 J) Tryz.underlying22 J J)) L fun a s _ L=>?_
 refine sx 13 (t_g1 J J J (fun hc_=>t_sub (o_w hc_ 12 J) oI (h3 hc_) J J)) L fun a s _ L=>sx 14 (t_g1 J J J (fun hc_=>zu (ref04_First_ok (h5 hc_)) (xs:=[.tmp 9,.tmp 13]) (.cons (o_w hc_ 9 J) (.cons (o_w hc_ 13 J) .nil)) J J)) L fun a s _ L=>sx 15 (t_g1 J J J (fun hc_=>t_eqi (o_w hc_ 14 J) oI J J)) L fun a s _ L=>sx 16 (t_and (o_t 7 J) (fun hc2_=>(o_w hc2_ 15 J)) J J) L fun a s _ L=>sx 2 (zd (o_t 16 J) J J) L fun a s _ L=>en' (hK2 _ _ ?_)
 subst h
 exact wp_ret (retq J L J)
def zp.j1 (i_:Int) (r_:Int) (l5:(List Int)):Prop:=∃e9:Int,at? l5 i_=some e9∧r_=e9
def zp.j2 (L1_:(List Int)→Int→Prop) (l11:(List Int)) (k13:Int) (w29:Int):Prop:=(l11.length+[(min 2 w29)].length≤2147483648)∧(InR .i64 (k13+1))∧L1_ (l11++[(min 2 w29)]) (k13+1)
def zp.j3 (L2_:Int→Int→Prop) (w53:Int) (t54:Int) (p65:Int):Prop:=(InR .i64 (w53+p65))∧(InR .i64 (t54+1))∧L2_ (min 2 (w53+p65)) (t54+1)
def zp.l3 (l11:(List Int)) (e21:SNode) (t54:Int) (X3:Int→Prop):Nat→Int→Int→Prop
 | 0,_,_=>False
 | k_0+1,p70,m71=>((decide (m71<t54))=true→∃e79:Int,at? l11 e21.2.1=some e79∧(InR .i64 (p70*e79))∧(InR .i64 (m71+1))∧zp.l3 l11 e21 t54 X3 k_0 (min 2 (p70*e79)) (m71+1))∧((decide (m71<t54))=false→X3 p70)
def zp.l2 (l11:(List Int)) (e21:SNode) (X2:Int→Prop):Nat→Int→Int→Prop
 | 0,_,_=>False
 | k_0+1,w53,t54=>((decide (t54≤e21.2.2.2.2.1))=true→∃k72,zp.l3 l11 e21 t54 (zp.j3 (zp.l2 l11 e21 X2 k_0) w53 t54) k72 1 0)∧((decide (t54≤e21.2.2.2.2.1))=false→X2 w53)
def zp.l1 (d_:SDesc) (i_:Int) (X1:(List Int)→Prop):Nat→(List Int)→Int→Prop
 | 0,_,_=>False
 | k_0+1,l11,k13=>((decide (k13≤i_))=true→∃e21:SNode,at? d_ k13=some e21∧(((e21.1==1))=true→(zp.j2 (zp.l1 d_ i_ X1 k_0) l11 k13) 1)∧(((e21.1==1))=false→(((e21.1==4))=true→∃e35:Int,at? l11 e21.2.1=some e35∧∃e37:Int,at? l11 e21.2.2.1=some e37∧(InR .i64 (e35*e37))∧(zp.j2 (zp.l1 d_ i_ X1 k_0) l11 k13) (e35*e37))∧(((e21.1==4))=false→(((e21.1==5))=true→∃e41:Int,at? l11 e21.2.1=some e41∧∃e43:Int,at? l11 e21.2.2.1=some e43∧(InR .i64 (e41+e43))∧(zp.j2 (zp.l1 d_ i_ X1 k_0) l11 k13) (e41+e43))∧(((e21.1==5))=false→(((e21.1==6))=true→∃e49:Int,at? l11 e21.2.1=some e49∧((decide (0<e49))=true→(zp.j2 (zp.l1 d_ i_ X1 k_0) l11 k13) 2)∧((decide (0<e49))=false→(zp.j2 (zp.l1 d_ i_ X1 k_0) l11 k13) 1))∧(((e21.1==6))=false→(((e21.1==7))=true→∃k55,zp.l2 l11 e21 (zp.j2 (zp.l1 d_ i_ X1 k_0) l11 k13) k55 0 e21.2.2.2.1)∧(((e21.1==7))=false→(zp.j2 (zp.l1 d_ i_ X1 k_0) l11 k13) 0))))))∧((decide (k13≤i_))=false→X1 l11)
def zp (d_:SDesc) (i_:Int) (r_:Int):Prop:=∃k14,zp.l1 d_ i_ (zp.j1 i_ r_) k14 ([]:(List Int)) 0
def zb1.j1 (r_:(Int × Bool)):Prop:=r_=(0,false)
def zb1.l1 (d_:SDesc) (r_:(Int × Bool)) (X1:Prop):Nat→Int→Prop
 | 0,_=>False
 | k_0+1,i6=>((decide (i6<(d_.length:Int)))=true→∃e14:SNode,at? d_ i6=some e14∧∃e17:SNode,(((((e14.1==6)||(e14.1==7)))=true)→at? d_ i6=some e17)∧∃r19:Int,(((((e14.1==6)||(e14.1==7)))=true)→zp d_ e17.2.1 r19)∧(((((e14.1==6)||(e14.1==7))&&(r19 != 0)))=true→r_=(i6,true))∧(((((e14.1==6)||(e14.1==7))&&(r19 != 0)))=false→(InR .i64 (i6+1))∧zb1.l1 d_ r_ X1 k_0 (i6+1)))∧((decide (i6<(d_.length:Int)))=false→X1)
def zb1 (d_:SDesc) (r_:(Int × Bool)):Prop:=∃k7,zb1.l1 d_ r_ (zb1.j1 r_) k7 0
def ref08_Right (d_:SDesc) (r_:Bool):Prop:=∃r4:Bool,ref04_Form d_ r4∧(((!r4))=true→r_=false)∧(((!r4))=false→∃r8:(Int × Bool),zb1 d_ r8∧r_=(!r8.2))
set_option maxRecDepth 100000
theorem ref08_Ways_ok {d_:SDesc} {i_:Int} {r_:Int} (h:zp d_ i_ r_):Fn Tryz.prog 86 [(Pd.rep En.SDesc d_),(Pi i_)] (Rq (Pi r_)):=by
 unfold zp at h
 refine fn_of Tryz.func86 J Tryz.ntmps86 (by rfl) (by simp) fun s0 a L=>?_
 refine wp_seq_k fun K1 hK1=>rg (sx 2 (t_box (o_t 0 J) J J) L fun a s _ L=>?_)
 refine sx 4 (zd oI J J) L fun a s _ L=>en' (hK1 _ _ ?_)
 refine wp_seq_k fun K2 hK2=>rg (sx 5 (zd (o_nil (E:=(En.int .i64)) (N:=s0.w.heap.size) (te:=3)) J J) L fun a s _ L=>?_)
 refine en' (hK2 _ _ ?_)
 refine wp_seq_k fun K3 hK3=>wp_seq_k fun K4 hK4=>rg (sx 6 (zd oI J J) L fun a s _ L=>?_)
 refine en' (hK4 _ _ ?_)
 refine wp_block ?_
 have J7:∀(l5:(List Int)) (og6:Option Nat) (a:Act) (s:St),Has N0 96 s0 a s [(1,(Pi i_)),(5,(Pd.row (En.int .i64) s0.w.heap.size 3 og6 l5))]→((zp.j1 i_ r_) l5)→K3 a s.w:=by
  intro l5 og6 a s L h
  unfold zp.j1 at h
  show K3 a s.w
  refine hK3 _ _ (wp_seq_k fun K8 hK8=>?_)
  obtain ⟨e9,h10,h⟩:=h
  refine rg (sx 92 (zb (o_t 5 J) J J) L fun a s _ L=>?_)
  refine sx 93 (zb (o_t 1 J) J J) L fun a s _ L=>sx 94 (zbx (o_t 92 J) (o_t 93 J) h10 Tryz.underlying91 ty3 J J) L fun a s _ L=>sx 95 (zt ty3 (o_t 94 J) J J) L fun a s _ L=>sx 4 (zd (o_t 95 J) J J) L fun a s _ L=>en' (hK8 _ _ ?_)
  subst h
  exact wp_ret (retq J L J)
 obtain ⟨k14,h⟩:=h
 refine lpg (fun k15 a s=>∃(l11:(List Int)) (k13:Int) (og12:Option Nat),Has N0 96 s0 a s [(1,(Pi i_)),(2,(Pd.ptr En.SDesc d_)),(5,(Pd.row (En.int .i64) s0.w.heap.size 3 og12 l11)),(6,(Pi k13))]∧zp.l1 d_ i_ (zp.j1 i_ r_) k15 l11 k13) k14 ⟨([]:(List Int)),0,none,L.keep (.k 1 (.k 2 (.cons (t:=5) J (fun _ _ h_=>h_) (.k 6 .nil)))),h⟩ ?_
 rintro k15 a s ⟨l11,k13,og12,L,h⟩ KL16 hKL16
 cases k15 with
 | zero=>exact h.elim
 | succ k15=>
 unfold zp.l1 at h
 refine wp_seq_k fun K17 hK17=>wp_seq_k fun K18 hK18=>rg (sx 12 (zb (o_t 6 J) J J) L fun a s _ L=>?_)
 refine sx 13 (zb (o_t 1 J) J J) L fun a s _ L=>sx 14 (t_leq (o_t 12 J) (o_t 13 J) J J) L fun a s _ L=>en' (hK18 _ _ ?_)
 refine cnd L J (fun hb_=>?_) (fun hb_=>?_)
 ·replace h:=h.1 hb_
  refine wp_skip ?_
  show K17 a s.w
  refine hK17 _ _ (wp_seq_k fun K19 hK19=>?_)
  refine wp_block (wp_seq_k fun K20 hK20=>?_)
  obtain ⟨e21,h22,h⟩:=h
  refine rg (sx 17 (t_fa (off:=0) (o_t 2 J) Tryz.underlying24 J (zcs (zj _ _)) J ty22 J J) L fun a s _ L=>?_)
  refine sx 18 (zo ty22 (o_t 17 J) J J) L fun a s _ L=>sx 19 (zb (o_t 6 J) J J) L fun a s _ L=>sx 20 (t_idx (o_t 18 J) (o_t 19 J) h22 Tryz.underlying22 ty68 J J) L fun a s _ L=>sx 21 (zo ty68 (o_t 20 J) J J) L fun a s _ L=>?_
  have lt_d24:=L.rlt 5 rfl
  refine zbb En.SNode (z:=(0,0,0,0,0,(0#256),([]:Str))) 7 L tyz68 J J J J fun a s g23 hg_ L=>?_
  have d24:Dis (some g23) og12:=Dis.newg hg_ lt_d24
  refine zca (L':=[(1,(Pi i_)),(2,(Pd.ptr En.SDesc d_)),(5,(Pd.row (En.int .i64) s0.w.heap.size 3 og12 l11)),(6,(Pi k13))]) 7 L J (o_t 21 J) ty68 J J J (.k 1 (.k 2 (.cons (t:=5) J (Dis.ow (Dis.symm d24)) (.k 6 .nil)))) fun s L=>?_
  refine en' (hK20 _ _ ?_)
  refine wp_seq_k fun K25 hK25=>rg (sx 8 (zd oI J J) L fun a s _ L=>?_)
  refine en' (hK25 _ _ ?_)
  refine wp_seq_k fun K26 hK26=>wp_seq_k fun K27 hK27=>rg (sx 22 (t_fab (off:=0) (o_t 7 J) Tryz.underlying68 J (zn (zj _ _)) J ty3 J J) L fun a s _ L=>?_)
  refine sx 23 (zt ty3 (o_t 22 J) J J) L fun a s _ L=>en' (hK27 _ _ ?_)
  refine wp_block (wp_seq_k fun K28 hK28=>?_)
  refine rg (sx 25 (t_eqi (o_t 23 J) oI J J) L fun a s _ L=>?_)
  refine sx 24 (zd (o_t 25 J) J J) L fun a s _ L=>en' (hK28 _ _ ?_)
  have J30:∀(w29:Int) (a:Act) (s:St),Has N0 96 s0 a s [(1,(Pi i_)),(2,(Pd.ptr En.SDesc d_)),(5,(Pd.row (En.int .i64) s0.w.heap.size 3 og12 l11)),(6,(Pi k13)),(8,(Pi w29))]→((zp.j2 (zp.l1 d_ i_ (zp.j1 i_ r_) k15) l11 k13) w29)→K26 a s.w:=by
   intro w29 a s L h
   unfold zp.j2 at h
   show K26 a s.w
   refine hK26 _ _ ?_
   obtain ⟨h31,h⟩:=h
   refine rg (sx 87 (zb (o_t 5 J) J J) L fun a s _ L=>?_)
   refine sx 88 (zb (o_t 8 J) J J) L fun a s _ L=>sx 89 (t_min oI (o_t 88 J) J J) L fun a s _ L=>sx 90 (t_lit (xs:=[.tmp 89]) (.cons (o_t 89 J) .nil) Tryz.underlying91 ty3 J J (by decide) J J) L fun a s _ L=>zd2 (L':=[(1,(Pi i_)),(2,(Pd.ptr En.SDesc d_)),(6,(Pi k13))]) 91 L (o_t 87 J) (o_t 90 J) Tryz.underlying91 ty3 h31 J J J J (.k 1 (.k 2 (.k 6 .nil))) fun a s og32 hg_ L=>?_
   refine sx 5 (zd (o_t 91 J) J J) L fun a s _ L=>en' (hK19 _ _ ?_)
   obtain ⟨h33,h⟩:=h
   refine rg (sx 15 (zb (o_t 6 J) J J) L fun a s _ L=>?_)
   refine sx 16 (t_add (o_t 15 J) oI h33 J J) L fun a s _ L=>sx 6 (zd (o_t 16 J) J J) L fun a s _ L=>en' ?_
   exact hKL16 k15 a s (Nat.lt_succ_self _) ⟨(l11++[(min 2 w29)]),(k13+1),og32,L.keep (.k 1 (.k 2 (.cons (t:=5) J (fun _ _ h_=>h_) (.k 6 .nil)))),h⟩
  refine cnd L J (fun hb_=>?_) (fun hb_=>?_)
  ·replace h:=h.1 hb_
   refine rg (sx 8 (zd oI J J) L fun a s _ L=>?_)
   refine en' ?_
   exact J30 1 a s (L.keep (.k 1 (.k 2 (.cons (t:=5) J (fun _ _ h_=>h_) (.k 6 (.k 8 .nil)))))) h
  ·replace h:=h.2 hb_
   refine wp_seq_k fun K34 hK34=>rg (sx 27 (t_eqi (o_t 23 J) oI J J) L fun a s _ L=>?_)
   refine sx 26 (zd (o_t 27 J) J J) L fun a s _ L=>en' (hK34 _ _ ?_)
   refine cnd L J (fun hb_=>?_) (fun hb_=>?_)
   ·obtain ⟨e35,h36,e37,h38,h39,h⟩:=h.1 hb_
    refine rda zbk 11 [(Pd.row (En.int .i64) s0.w.heap.size 3 og12 l11),(Pd.optr (En.int .i64) s0.w.heap.size (some g23) (1) e21.2.1),(Pi e21.2.1),(Pd.optr (En.int .i64) s0.w.heap.size og12 ((e21.2.1:Int).toNat*(En.int .i64).sz) e35),(Pi e35),(Pd.row (En.int .i64) s0.w.heap.size 3 og12 l11),(Pd.optr (En.int .i64) s0.w.heap.size (some g23) (2) e21.2.2.1),(Pi e21.2.2.1),(Pd.optr (En.int .i64) s0.w.heap.size og12 ((e21.2.2.1:Int).toNat*(En.int .i64).sz) e37),(Pi e37),(Pi (e35*e37))] L (by kernel_rfl) J J ?_ ?_
    ·refine AllT.cons (zb (o_t 5 J) J J) ?_
     refine AllT.cons (t_fab (off:=1) (o_t 7 J) Tryz.underlying68 J (zg (zn (zj _ _)) J) J ty3 J J) (AllT.cons (zt ty3 (o_t 29 J) J J) ?_)
     refine AllT.cons (zbx (o_t 28 J) (o_t 30 J) h36 Tryz.underlying91 ty3 J J) (AllT.cons (zt ty3 (o_t 31 J) J J) ?_)
     refine AllT.cons (zb (o_t 5 J) J J) (AllT.cons (t_fab (off:=2) (o_t 7 J) Tryz.underlying68 J (zg (zg (zn (zj _ _)) J) J) J ty3 J J) ?_)
     refine AllT.cons (zt ty3 (o_t 34 J) J J) (AllT.cons (zbx (o_t 33 J) (o_t 35 J) h38 Tryz.underlying91 ty3 J J) ?_)
     refine AllT.cons (zt ty3 (o_t 36 J) J J) (AllT.cons (t_mul (o_t 32 J) (o_t 37 J) h39 J J) ?_)
     exact AllT.nil
    intro a s _ L
    refine sx 8 (zd (o_t 38 J) J J) L fun a s _ L=>en' ?_
    exact J30 (e35*e37) a s (L.keep (.k 1 (.k 2 (.cons (t:=5) J (fun _ _ h_=>h_) (.k 6 (.k 8 .nil)))))) h
   ·replace h:=h.2 hb_
    refine wp_seq_k fun K40 hK40=>rg (sx 40 (t_eqi (o_t 23 J) oI J J) L fun a s _ L=>?_)
    refine sx 39 (zd (o_t 40 J) J J) L fun a s _ L=>en' (hK40 _ _ ?_)
    refine cnd L J (fun hb_=>?_) (fun hb_=>?_)
    ·obtain ⟨e41,h42,e43,h44,h45,h⟩:=h.1 hb_
     refine rda zbk 11 [(Pd.row (En.int .i64) s0.w.heap.size 3 og12 l11),(Pd.optr (En.int .i64) s0.w.heap.size (some g23) (1) e21.2.1),(Pi e21.2.1),(Pd.optr (En.int .i64) s0.w.heap.size og12 ((e21.2.1:Int).toNat*(En.int .i64).sz) e41),(Pi e41),(Pd.row (En.int .i64) s0.w.heap.size 3 og12 l11),(Pd.optr (En.int .i64) s0.w.heap.size (some g23) (2) e21.2.2.1),(Pi e21.2.2.1),(Pd.optr (En.int .i64) s0.w.heap.size og12 ((e21.2.2.1:Int).toNat*(En.int .i64).sz) e43),(Pi e43),(Pi (e41+e43))] L (by kernel_rfl) J J ?_ ?_
     ·refine AllT.cons (zb (o_t 5 J) J J) ?_
      refine AllT.cons (t_fab (off:=1) (o_t 7 J) Tryz.underlying68 J (zg (zn (zj _ _)) J) J ty3 J J) (AllT.cons (zt ty3 (o_t 42 J) J J) ?_)
      refine AllT.cons (zbx (o_t 41 J) (o_t 43 J) h42 Tryz.underlying91 ty3 J J) (AllT.cons (zt ty3 (o_t 44 J) J J) ?_)
      refine AllT.cons (zb (o_t 5 J) J J) (AllT.cons (t_fab (off:=2) (o_t 7 J) Tryz.underlying68 J (zg (zg (zn (zj _ _)) J) J) J ty3 J J) ?_)
      refine AllT.cons (zt ty3 (o_t 47 J) J J) (AllT.cons (zbx (o_t 46 J) (o_t 48 J) h44 Tryz.underlying91 ty3 J J) ?_)
      refine AllT.cons (zt ty3 (o_t 49 J) J J) (AllT.cons (t_add (o_t 45 J) (o_t 50 J) h45 J J) ?_)
      exact AllT.nil
     intro a s _ L
     refine sx 8 (zd (o_t 51 J) J J) L fun a s _ L=>en' ?_
     exact J30 (e41+e43) a s (L.keep (.k 1 (.k 2 (.cons (t:=5) J (fun _ _ h_=>h_) (.k 6 (.k 8 .nil)))))) h
    ·replace h:=h.2 hb_
     refine wp_seq_k fun K46 hK46=>rg (sx 53 (t_eqi (o_t 23 J) oI J J) L fun a s _ L=>?_)
     refine sx 52 (zd (o_t 53 J) J J) L fun a s _ L=>en' (hK46 _ _ ?_)
     refine cnd L J (fun hb_=>?_) (fun hb_=>?_)
     ·replace h:=h.1 hb_
      refine wp_seq_k fun K47 hK47=>rg (sx 8 (zd oI J J) L fun a s _ L=>?_)
      refine en' (hK47 _ _ ?_)
      refine wp_seq_k fun K48 hK48=>?_
      obtain ⟨e49,h50,h⟩:=h
      refine rg (sx 54 (zb (o_t 5 J) J J) L fun a s _ L=>?_)
      refine sx 55 (t_fab (off:=1) (o_t 7 J) Tryz.underlying68 J (zg (zn (zj _ _)) J) J ty3 J J) L fun a s _ L=>sx 56 (zt ty3 (o_t 55 J) J J) L fun a s _ L=>sx 57 (zbx (o_t 54 J) (o_t 56 J) h50 Tryz.underlying91 ty3 J J) L fun a s _ L=>sx 58 (zt ty3 (o_t 57 J) J J) L fun a s _ L=>sx 59 (t_gtr (o_t 58 J) oI J J) L fun a s _ L=>en' (hK48 _ _ ?_)
      refine cnd L J (fun hb_=>?_) (fun hb_=>?_)
      ·replace h:=h.1 hb_
       refine rg (sx 8 (zd oI J J) L fun a s _ L=>?_)
       refine en' ?_
       exact J30 2 a s (L.keep (.k 1 (.k 2 (.cons (t:=5) J (fun _ _ h_=>h_) (.k 6 (.k 8 .nil)))))) h
      ·replace h:=h.2 hb_
       refine wp_skip ?_
       exact J30 1 a s (L.keep (.k 1 (.k 2 (.cons (t:=5) J (fun _ _ h_=>h_) (.k 6 (.k 8 .nil)))))) h
     ·replace h:=h.2 hb_
      refine wp_seq_k fun K51 hK51=>rg (sx 61 (t_eqi (o_t 23 J) oI J J) L fun a s _ L=>?_)
      refine sx 60 (zd (o_t 61 J) J J) L fun a s _ L=>en' (hK51 _ _ ?_)
      refine cnd L J (fun hb_=>?_) (fun hb_=>?_)
      ·replace h:=h.1 hb_
       refine wp_seq_k fun K52 hK52=>rg (sx 62 (t_fab (off:=3) (o_t 7 J) Tryz.underlying68 J (zg (zg (zg (zn (zj _ _)) J) J) J) J ty3 J J) L fun a s _ L=>?_)
       refine sx 63 (zt ty3 (o_t 62 J) J J) L fun a s _ L=>sx 9 (zd (o_t 63 J) J J) L fun a s _ L=>en' (hK52 _ _ ?_)
       refine wp_block ?_
       obtain ⟨k55,h⟩:=h
       refine lpg (fun k56 a s=>∃(w53:Int) (t54:Int),Has N0 96 s0 a s [(1,(Pi i_)),(2,(Pd.ptr En.SDesc d_)),(5,(Pd.row (En.int .i64) s0.w.heap.size 3 og12 l11)),(6,(Pi k13)),(7,(Pd.box En.SNode s0.w.heap.size g23 e21)),(8,(Pi w53)),(9,(Pi t54))]∧Dis og12 (some g23)∧zp.l2 l11 e21 (zp.j2 (zp.l1 d_ i_ (zp.j1 i_ r_) k15) l11 k13) k56 w53 t54) k55 ⟨0,e21.2.2.2.1,L.keep (.k 1 (.k 2 (.cons (t:=5) J (fun _ _ h_=>h_) (.k 6 (.cons (t:=7) J (fun _ _ h_=>h_) (.k 8 (.k 9 .nil))))))),(Dis.symm d24),h⟩ ?_
       rintro k56 a s ⟨w53,t54,L,d58,h⟩ KL57 hKL57
       cases k56 with
       | zero=>exact h.elim
       | succ k56=>
       unfold zp.l2 at h
       refine wp_seq_k fun K59 hK59=>wp_seq_k fun K60 hK60=>rg (sx 64 (zb (o_t 9 J) J J) L fun a s _ L=>?_)
       refine sx 65 (t_fab (off:=4) (o_t 7 J) Tryz.underlying68 J (zg (zg (zg (zg (zn (zj _ _)) J) J) J) J) J ty3 J J) L fun a s _ L=>sx 66 (zt ty3 (o_t 65 J) J J) L fun a s _ L=>sx 67 (t_leq (o_t 64 J) (o_t 66 J) J J) L fun a s _ L=>en' (hK60 _ _ ?_)
       refine cnd L J (fun hb_=>?_) (fun hb_=>?_)
       ·replace h:=h.1 hb_
        refine wp_skip ?_
        show K59 a s.w
        refine hK59 _ _ (wp_seq_k fun K61 hK61=>?_)
        refine wp_block (wp_seq_k fun K62 hK62=>?_)
        refine rg (sx 10 (zd oI J J) L fun a s _ L=>?_)
        refine en' (hK62 _ _ ?_)
        refine wp_seq_k fun K63 hK63=>wp_seq_k fun K64 hK64=>rg (sx 11 (zd oI J J) L fun a s _ L=>?_)
        refine en' (hK64 _ _ ?_)
        refine wp_block ?_
        have J66:∀(p65:Int) (a:Act) (s:St),Has N0 96 s0 a s [(1,(Pi i_)),(2,(Pd.ptr En.SDesc d_)),(5,(Pd.row (En.int .i64) s0.w.heap.size 3 og12 l11)),(6,(Pi k13)),(7,(Pd.box En.SNode s0.w.heap.size g23 e21)),(8,(Pi w53)),(9,(Pi t54)),(10,(Pi p65))]→Dis og12 (some g23)→((zp.j3 (zp.l2 l11 e21 (zp.j2 (zp.l1 d_ i_ (zp.j1 i_ r_) k15) l11 k13) k56) w53 t54) p65)→K63 a s.w:=by
         intro p65 a s L d67 h
         unfold zp.j3 at h
         show K63 a s.w
         refine hK63 _ _ ?_
         obtain ⟨h68,h⟩:=h
         refine rg (sx 83 (zb (o_t 8 J) J J) L fun a s _ L=>?_)
         refine sx 84 (zb (o_t 10 J) J J) L fun a s _ L=>sx 85 (t_add (o_t 83 J) (o_t 84 J) h68 J J) L fun a s _ L=>sx 86 (t_min oI (o_t 85 J) J J) L fun a s _ L=>sx 8 (zd (o_t 86 J) J J) L fun a s _ L=>en' (hK61 _ _ ?_)
         obtain ⟨h69,h⟩:=h
         refine rg (sx 68 (zb (o_t 9 J) J J) L fun a s _ L=>?_)
         refine sx 69 (t_add (o_t 68 J) oI h69 J J) L fun a s _ L=>sx 9 (zd (o_t 69 J) J J) L fun a s _ L=>en' ?_
         exact hKL57 k56 a s (Nat.lt_succ_self _) ⟨(min 2 (w53+p65)),(t54+1),L.keep (.k 1 (.k 2 (.cons (t:=5) J (fun _ _ h_=>h_) (.k 6 (.cons (t:=7) J (fun _ _ h_=>h_) (.k 8 (.k 9 .nil))))))),d67,h⟩
        obtain ⟨k72,h⟩:=h
        refine lpg (fun k73 a s=>∃(p70:Int) (m71:Int),Has N0 96 s0 a s [(1,(Pi i_)),(2,(Pd.ptr En.SDesc d_)),(5,(Pd.row (En.int .i64) s0.w.heap.size 3 og12 l11)),(6,(Pi k13)),(7,(Pd.box En.SNode s0.w.heap.size g23 e21)),(8,(Pi w53)),(9,(Pi t54)),(10,(Pi p70)),(11,(Pi m71))]∧Dis og12 (some g23)∧zp.l3 l11 e21 t54 (zp.j3 (zp.l2 l11 e21 (zp.j2 (zp.l1 d_ i_ (zp.j1 i_ r_) k15) l11 k13) k56) w53 t54) k73 p70 m71) k72 ⟨1,0,L.keep (.k 1 (.k 2 (.cons (t:=5) J (fun _ _ h_=>h_) (.k 6 (.cons (t:=7) J (fun _ _ h_=>h_) (.k 8 (.k 9 (.k 10 (.k 11 .nil))))))))),d58,h⟩ ?_
        rintro k73 a s ⟨p70,m71,L,d75,h⟩ KL74 hKL74
        cases k73 with
        | zero=>exact h.elim
        | succ k73=>
        unfold zp.l3 at h
        refine wp_seq_k fun K76 hK76=>wp_seq_k fun K77 hK77=>rg (sx 70 (zb (o_t 11 J) J J) L fun a s _ L=>?_)
        refine sx 71 (zb (o_t 9 J) J J) L fun a s _ L=>sx 72 (t_lss (o_t 70 J) (o_t 71 J) J J) L fun a s _ L=>en' (hK77 _ _ ?_)
        refine cnd L J (fun hb_=>?_) (fun hb_=>?_)
        ·replace h:=h.1 hb_
         refine wp_skip ?_
         show K76 a s.w
         refine hK76 _ _ (wp_seq_k fun K78 hK78=>?_)
         refine wp_block ?_
         obtain ⟨e79,h80,h81,h⟩:=h
         refine rg (sx 75 (zb (o_t 10 J) J J) L fun a s _ L=>?_)
         refine sx 76 (zb (o_t 5 J) J J) L fun a s _ L=>sx 77 (t_fab (off:=1) (o_t 7 J) Tryz.underlying68 J (zg (zn (zj _ _)) J) J ty3 J J) L fun a s _ L=>sx 78 (zt ty3 (o_t 77 J) J J) L fun a s _ L=>sx 79 (zbx (o_t 76 J) (o_t 78 J) h80 Tryz.underlying91 ty3 J J) L fun a s _ L=>sx 80 (zt ty3 (o_t 79 J) J J) L fun a s _ L=>sx 81 (t_mul (o_t 75 J) (o_t 80 J) h81 J J) L fun a s _ L=>sx 82 (t_min oI (o_t 81 J) J J) L fun a s _ L=>sx 10 (zd (o_t 82 J) J J) L fun a s _ L=>en' (hK78 _ _ ?_)
         obtain ⟨h82,h⟩:=h
         refine rg (sx 73 (zb (o_t 11 J) J J) L fun a s _ L=>?_)
         refine sx 74 (t_add (o_t 73 J) oI h82 J J) L fun a s _ L=>sx 11 (zd (o_t 74 J) J J) L fun a s _ L=>en' ?_
         exact hKL74 k73 a s (Nat.lt_succ_self _) ⟨(min 2 (p70*e79)),(m71+1),L.keep (.k 1 (.k 2 (.cons (t:=5) J (fun _ _ h_=>h_) (.k 6 (.cons (t:=7) J (fun _ _ h_=>h_) (.k 8 (.k 9 (.k 10 (.k 11 .nil))))))))),d75,h⟩
        ·replace h:=h.2 hb_
         refine wp_exit ?_
         exact J66 p70 a s (L.keep (.k 1 (.k 2 (.cons (t:=5) J (fun _ _ h_=>h_) (.k 6 (.cons (t:=7) J (fun _ _ h_=>h_) (.k 8 (.k 9 (.k 10 .nil))))))))) d75 h
       ·replace h:=h.2 hb_
        refine wp_exit ?_
        exact J30 w53 a s (L.keep (.k 1 (.k 2 (.cons (t:=5) J (fun _ _ h_=>h_) (.k 6 (.k 8 .nil)))))) h
      ·replace h:=h.2 hb_
       refine wp_skip ?_
       exact J30 0 a s (L.keep (.k 1 (.k 2 (.cons (t:=5) J (fun _ _ h_=>h_) (.k 6 (.k 8 .nil)))))) h
 ·replace h:=h.2 hb_
  refine wp_exit ?_
  exact J7 l11 og12 a s (L.keep (.k 1 (.cons (t:=5) J (fun _ _ h_=>h_) .nil))) h
theorem ref08_First_ok {d_:SDesc} {r_:(Int × Bool)} (h:zb1 d_ r_):Fn Tryz.prog 50 [(Pd.rep En.SDesc d_)] (Rq2 (Pi r_.1) (Pd.rep En.bool r_.2)):=by
 unfold zb1 at h
 refine fn_of Tryz.func50 J Tryz.ntmps50 (by rfl) (by simp) fun s0 a L=>?_
 refine wp_seq_k fun K1 hK1=>rg (sx 1 (t_box (o_t 0 J) J J) L fun a s _ L=>?_)
 refine sx 2 (zd oI J J) L fun a s _ L=>sx 3 (zd o_b J J) L fun a s _ L=>en' (hK1 _ _ ?_)
 refine wp_seq_k fun K2 hK2=>wp_seq_k fun K3 hK3=>rg (sx 4 (zd oI J J) L fun a s _ L=>?_)
 refine en' (hK3 _ _ ?_)
 refine wp_block ?_
 have J4:∀(a:Act) (s:St),Has N0 37 s0 a s []→((zb1.j1 r_))→K2 a s.w:=by
  intro a s L h
  unfold zb1.j1 at h
  show K2 a s.w
  refine hK2 _ _ (wp_seq_k fun K5 hK5=>?_)
  refine rg (sx 2 (zd oI J J) L fun a s _ L=>?_)
  refine sx 3 (zd o_b J J) L fun a s _ L=>en' (hK5 _ _ ?_)
  subst h
  exact wp_ret (ret2 J L J J)
 obtain ⟨k7,h⟩:=h
 refine lpg (fun k8 a s=>∃(i6:Int),Has N0 37 s0 a s [(1,(Pd.ptr En.SDesc d_)),(4,(Pi i6))]∧zb1.l1 d_ r_ (zb1.j1 r_) k8 i6) k7 ⟨0,L.keep (.k 1 (.k 4 .nil)),h⟩ ?_
 rintro k8 a s ⟨i6,L,h⟩ KL9 hKL9
 cases k8 with
 | zero=>exact h.elim
 | succ k8=>
 unfold zb1.l1 at h
 refine wp_seq_k fun K10 hK10=>wp_seq_k fun K11 hK11=>rg (sx 6 (zb (o_t 4 J) J J) L fun a s _ L=>?_)
 refine sx 7 (t_fa (off:=0) (o_t 1 J) Tryz.underlying24 J (zcs (zj _ _)) J ty22 J J) L fun a s _ L=>sx 8 (zo ty22 (o_t 7 J) J J) L fun a s _ L=>sx 9 (t_len (o_t 8 J) Tryz.underlying22 J J) L fun a s _ L=>sx 10 (t_lss (o_t 6 J) (o_t 9 J) J J) L fun a s _ L=>en' (hK11 _ _ ?_)
 refine cnd L J (fun hb_=>?_) (fun hb_=>?_)
 ·replace h:=h.1 hb_
  refine wp_skip ?_
  show K10 a s.w
  refine hK10 _ _ (wp_seq_k fun K12 hK12=>?_)
  refine wp_block (wp_seq_k fun K13 hK13=>?_)
  obtain ⟨e14,h15,h⟩:=h
  refine rg (sx 13 (t_fa (off:=0) (o_t 1 J) Tryz.underlying24 J (zcs (zj _ _)) J ty22 J J) L fun a s _ L=>?_)
  refine sx 14 (zo ty22 (o_t 13 J) J J) L fun a s _ L=>sx 15 (zb (o_t 4 J) J J) L fun a s _ L=>sx 16 (t_idx (o_t 14 J) (o_t 15 J) h15 Tryz.underlying22 ty68 J J) L fun a s _ L=>sx 17 (t_fa (off:=0) (o_t 16 J) Tryz.underlying68 J (zn (zj _ _)) J ty3 J J) L fun a s _ L=>sx 18 (zo ty3 (o_t 17 J) J J) L fun a s _ L=>sx 5 (zd (o_t 18 J) J J) L fun a s _ L=>en' (hK13 _ _ ?_)
  refine wp_seq_k fun K16 hK16=>?_
  obtain ⟨e17,h18,r19,h20,h⟩:=h
  refine rda zbk 17 [(Pi e14.1),(Pd.rep En.bool (e14.1==6)),(Pd.rep En.bool (e14.1==6)),(Pd.when (((e14.1==6))=false) (Pi e14.1)),(Pd.when (((e14.1==6))=false) (Pd.rep En.bool (e14.1==7))),(Pd.rep En.bool ((e14.1==6)||(e14.1==7))),(Pd.rep En.bool ((e14.1==6)||(e14.1==7))),(Pd.when ((((e14.1==6)||(e14.1==7)))=true) (Pd.rep En.SDesc d_)),(Pd.when ((((e14.1==6)||(e14.1==7)))=true) (Pd.ptr (En.slice En.SNode) d_)),(Pd.when ((((e14.1==6)||(e14.1==7)))=true) (Pd.rep (En.slice En.SNode) d_)),(Pd.when ((((e14.1==6)||(e14.1==7)))=true) (Pi i6)),(Pd.when ((((e14.1==6)||(e14.1==7)))=true) (Pd.ptr En.SNode e17)),(Pd.when ((((e14.1==6)||(e14.1==7)))=true) (Pd.ptr (En.int .i64) e17.2.1)),(Pd.when ((((e14.1==6)||(e14.1==7)))=true) (Pi e17.2.1)),(Pd.when ((((e14.1==6)||(e14.1==7)))=true) (Pi r19)),(Pd.when ((((e14.1==6)||(e14.1==7)))=true) (Pd.rep En.bool (r19 != 0))),(Pd.rep En.bool (((e14.1==6)||(e14.1==7))&&(r19 != 0)))] L (by kernel_rfl) J J ?_ ?_
  ·refine AllT.cons (zb (o_t 5 J) J J) ?_
   refine AllT.cons (t_eqi (o_t 19 J) oI J J) (AllT.cons (zb (o_t 20 J) J J) ?_)
   refine AllT.cons (t_g1 J J J (fun hc_=>zb (o_t 5 J) J J)) (AllT.cons (t_g1 J J J (fun hc_=>t_eqi (o_w hc_ 22 J) oI J J)) ?_)
   refine AllT.cons (t_or (o_t 21 J) (fun hc2_=>(o_w hc2_ 23 J)) J J) (AllT.cons (zb (o_t 24 J) J J) ?_)
   refine AllT.cons (t_g1 J J J (fun hc_=>zo ty24 (o_t 1 J) J J)) (AllT.cons (t_g1 J J J (fun hc_=>t_fa (off:=0) (o_t 1 J) Tryz.underlying24 J (zcs (zj _ _)) J ty22 J J)) ?_)
   refine AllT.cons (t_g1 J J J (fun hc_=>zo ty22 (o_w hc_ 27 J) J J)) (AllT.cons (t_g1 J J J (fun hc_=>zb (o_t 4 J) J J)) ?_)
   refine AllT.cons (t_g1 J J J (fun hc_=>t_idx (o_w hc_ 28 J) (o_w hc_ 29 J) (h18 hc_) Tryz.underlying22 ty68 J J)) (AllT.cons (t_g1 J J J (fun hc_=>t_fa (off:=1) (o_w hc_ 30 J) Tryz.underlying68 J (zg (zn (zj _ _)) J) J ty3 J J)) ?_)
   refine AllT.cons (t_g1 J J J (fun hc_=>zo ty3 (o_w hc_ 31 J) J J)) (AllT.cons (t_g1 J J J (fun hc_=>zu (ref08_Ways_ok (h20 hc_)) (xs:=[.tmp 26,.tmp 32]) (.cons (o_w hc_ 26 J) (.cons (o_w hc_ 32 J) .nil)) J J)) ?_)
   refine AllT.cons (t_g1 J J J (fun hc_=>t_nei (o_w hc_ 33 J) oI J J)) (AllT.cons (t_and (o_t 25 J) (fun hc2_=>(o_w hc2_ 34 J)) J J) ?_)
   exact AllT.nil
  intro a s _ L
  refine en' (hK16 _ _ ?_)
  refine cnd L J (fun hb_=>?_) (fun hb_=>?_)
  ·replace h:=h.1 hb_
   refine wp_seq_k fun K21 hK21=>rg (sx 36 (zb (o_t 4 J) J J) L fun a s _ L=>?_)
   refine sx 2 (zd (o_t 36 J) J J) L fun a s _ L=>sx 3 (zd o_b J J) L fun a s _ L=>en' (hK21 _ _ ?_)
   subst h
   exact wp_ret (ret2 J L J J)
  ·replace h:=h.2 hb_
   refine wp_skip ?_
   show K12 a s.w
   refine hK12 _ _ ?_
   obtain ⟨h22,h⟩:=h
   refine rg (sx 11 (zb (o_t 4 J) J J) L fun a s _ L=>?_)
   refine sx 12 (t_add (o_t 11 J) oI h22 J J) L fun a s _ L=>sx 4 (zd (o_t 12 J) J J) L fun a s _ L=>en' ?_
   exact hKL9 k8 a s (Nat.lt_succ_self _) ⟨(i6+1),L.keep (.k 1 (.k 4 .nil)),h⟩
 ·replace h:=h.2 hb_
  refine wp_exit ?_
  exact J4 a s (L.keep .nil) h
theorem ref08_Right_ok {d_:SDesc} {r_:Bool} (h:ref08_Right d_ r_):Fn Tryz.prog 14 [(Pd.rep En.SDesc d_)] (Rq (Pd.rep En.bool r_)):=by
 unfold ref08_Right at h
 refine fn_of Tryz.func14 J Tryz.ntmps14 (by rfl) (by simp) fun s0 a L=>?_
 refine wp_seq_k fun K1 hK1=>rg (sx 1 (t_box (o_t 0 J) J J) L fun a s _ L=>?_)
 refine sx 2 (zd o_b J J) L fun a s _ L=>en' (hK1 _ _ ?_)
 refine wp_seq_k fun K2 hK2=>wp_seq_k fun K3 hK3=>?_
 obtain ⟨r4,h5,h⟩:=h
 refine rg (sx 5 (zo ty24 (o_t 1 J) J J) L fun a s _ L=>?_)
 refine sx 6 (zu (ref04_Form_ok h5) (xs:=[.tmp 5]) (.cons (o_t 5 J) .nil) J J) L fun a s _ L=>sx 7 (t_not (o_t 6 J) J J) L fun a s _ L=>en' (hK3 _ _ ?_)
 refine cnd L J (fun hb_=>?_) (fun hb_=>?_)
 ·replace h:=h.1 hb_
  refine wp_seq_k fun K6 hK6=>rg (sx 2 (zd o_b J J) L fun a s _ L=>?_)
  refine en' (hK6 _ _ ?_)
  subst h
  exact wp_ret (retq J L J)
 ·replace h:=h.2 hb_
  refine wp_skip ?_
  show K2 a s.w
  refine hK2 _ _ (wp_seq_k fun K7 hK7=>?_)
  obtain ⟨r8,h9,h⟩:=h
  refine rg (sx 9 (zo ty24 (o_t 1 J) J J) L fun a s _ L=>?_)
  refine sx 10 (zu ((ref08_First_ok h9).tup) (xs:=[.tmp 9]) (.cons (o_t 9 J) .nil) J J) L fun a s _ L=>sx 8 (zb (o_t 10 J) J J) L fun a s _ L=>sx 11 (t_ext0 (o_t 8 J) J J) L fun a s _ L=>sx 12 (t_ext1 (o_t 8 J) J J) L fun a s _ L=>sx 3 (zd (o_t 11 J) J J) L fun a s _ L=>sx 4 (zd (o_t 12 J) J J) L fun a s _ L=>en' (hK7 _ _ ?_)
  refine wp_seq_k fun K10 hK10=>rg (sx 13 (zb (o_t 4 J) J J) L fun a s _ L=>?_)
  refine sx 14 (t_not (o_t 13 J) J J) L fun a s _ L=>sx 2 (zd (o_t 14 J) J J) L fun a s _ L=>en' (hK10 _ _ ?_)
  subst h
  exact wp_ret (retq J L J)
def ref12_Fits (d_:SDesc) (w_:(List Int)) (r_:Bool):Prop:=∃b3:Bool,b3=((decide ((d_.length:Int)≤16))&&(decide ((w_.length:Int)≤8)))∧r_=b3
def zd9 (w_:(List Int)) (r_:(List Int)):Prop:=(InR .i64 ((w_.length:Int)+1))∧(0≤((w_.length:Int)+1)∧((w_.length:Int)+1)≤16777216)∧r_=(List.replicate ((w_.length:Int)+1:Int).toNat 0)
def zb0.j1 (r_:(List Int)) (out8:(List Int)):Prop:=r_=out8
def zb0.l1 (b_:(List Int)) (times_:Int) (X1:(List Int)→Prop):Nat→(List Int)→Int→Prop
 | 0,_,_=>False
 | k_0+1,out12,i14=>((decide (i14<(b_.length:Int)))=true→∃e21:Int,at? out12 i14=some e21∧∃e23:Int,at? b_ i14=some e23∧(InR .i64 (times_*e23))∧(InR .i64 (e21+(times_*e23)))∧∃e27:Int,at? out12 i14=some e27∧(InR .i64 (i14+1))∧zb0.l1 b_ times_ X1 k_0 (out12.set (i14:Int).toNat (min 2 (e21+(times_*e23)))) (i14+1))∧((decide (i14<(b_.length:Int)))=false→X1 out12)
def zb0 (a_:(List Int)) (b_:(List Int)) (times_:Int) (r_:(List Int)):Prop:=(([]:(List Int)).length+a_.length≤2147483648)∧∃k15,zb0.l1 b_ times_ (zb0.j1 r_) k15 (([]:(List Int))++a_) 0
def ref12_through.j1 (r_:(List Int)) (out8:(List Int)):Prop:=r_=out8
def ref12_through.l1 (n_:SDesc→Int→(List Int)→Int→(List Int)→Prop) (d_:SDesc) (i_:Int) (w_:(List Int)) (a_:(List Int)) (X1:(List Int)→Prop):Nat→(List Int)→Int→Prop
 | 0,_,_=>False
 | k_0+1,out12,k14=>((decide (k14<(a_.length:Int)))=true→∃e22:Int,at? a_ k14=some e22∧((decide (0<e22))=true→∃r26:(List Int),n_ d_ i_ w_ k14 r26∧∃e28:Int,at? a_ k14=some e28∧∃r30:(List Int),zb0 out12 r26 e28 r30∧(InR .i64 (k14+1))∧ref12_through.l1 n_ d_ i_ w_ a_ X1 k_0 r30 (k14+1))∧((decide (0<e22))=false→(InR .i64 (k14+1))∧ref12_through.l1 n_ d_ i_ w_ a_ X1 k_0 out12 (k14+1)))∧((decide (k14<(a_.length:Int)))=false→X1 out12)
def ref12_through.b (n_:SDesc→Int→(List Int)→Int→(List Int)→Prop) (d_:SDesc) (i_:Int) (w_:(List Int)) (a_:(List Int)) (r_:(List Int)):Prop:=∃r3:(List Int),zd9 w_ r3∧∃k15,ref12_through.l1 n_ d_ i_ w_ a_ (ref12_through.j1 r_) k15 r3 0
def ref12_times.j1 (r_:(List Int)) (out16:(List Int)):Prop:=r_=out16
def ref12_times.j2 (L1_:(List Int)→(List Int)→Int→Prop) (t24:Int) (out37:(List Int)) (next49:(List Int)):Prop:=(InR .i64 (t24+1))∧L1_ next49 out37 (t24+1)
def ref12_times.l2 (n_:SDesc→Int→(List Int)→Int→(List Int)→Prop) (d_:SDesc) (i_:Int) (w_:(List Int)) (now20:(List Int)) (X2:(List Int)→Prop):Nat→(List Int)→Int→Prop
 | 0,_,_=>False
 | k_0+1,next54,k56=>((decide (k56<(now20.length:Int)))=true→∃e65:Int,at? now20 k56=some e65∧((decide (0<e65))=true→∃r68:(List Int),n_ d_ i_ w_ k56 r68∧∃e74:Int,at? r68 k56=some e74∧∃e80:Int,at? now20 k56=some e80∧∃r82:(List Int),zb0 next54 (r68.set (k56:Int).toNat 0) e80 r82∧(InR .i64 (k56+1))∧ref12_times.l2 n_ d_ i_ w_ now20 X2 k_0 r82 (k56+1))∧((decide (0<e65))=false→(InR .i64 (k56+1))∧ref12_times.l2 n_ d_ i_ w_ now20 X2 k_0 next54 (k56+1)))∧((decide (k56<(now20.length:Int)))=false→X2 next54)
def ref12_times.j3 (n_:SDesc→Int→(List Int)→Int→(List Int)→Prop) (L1_:(List Int)→(List Int)→Int→Prop) (d_:SDesc) (i_:Int) (w_:(List Int)) (hi_:Int) (r_:(List Int)) (now20:(List Int)) (t24:Int) (out37:(List Int)):Prop:=(((t24==hi_))=true→(ref12_times.j1 r_) out37)∧(((t24==hi_))=false→∃r43:(List Int),zd9 w_ r43∧∃k57,ref12_times.l2 (n_) d_ i_ w_ now20 (ref12_times.j2 (L1_) t24 out37) k57 r43 0)
def ref12_times.l1 (n_:SDesc→Int→(List Int)→Int→(List Int)→Prop) (d_:SDesc) (i_:Int) (w_:(List Int)) (lo_:Int) (hi_:Int) (r_:(List Int)) (X1:(List Int)→Prop):Nat→(List Int)→(List Int)→Int→Prop
 | 0,_,_,_=>False
 | k_0+1,now20,out22,t24=>(InR .i64 ((w_.length:Int)+1))∧((decide (t24≤(w_.length:Int)+1))=true→((decide (lo_≤t24))=true→∃r90:(List Int),zb0 out22 now20 1 r90∧(ref12_times.j3 (n_) (ref12_times.l1 n_ d_ i_ w_ lo_ hi_ r_ X1 k_0) d_ i_ w_ hi_ r_ now20 t24) r90)∧((decide (lo_≤t24))=false→(ref12_times.j3 (n_) (ref12_times.l1 n_ d_ i_ w_ lo_ hi_ r_ X1 k_0) d_ i_ w_ hi_ r_ now20 t24) out22))∧((decide (t24≤(w_.length:Int)+1))=false→X1 out22)
def ref12_times.b (n_:SDesc→Int→(List Int)→Int→(List Int)→Prop) (d_:SDesc) (i_:Int) (w_:(List Int)) (from_:Int) (lo_:Int) (hi_:Int) (r_:(List Int)):Prop:=∃r3:(List Int),zd9 w_ r3∧∃e7:Int,at? r3 from_=some e7∧∃r10:(List Int),zd9 w_ r10∧∃k25,ref12_times.l1 n_ d_ i_ w_ lo_ hi_ r_ (ref12_times.j1 r_) k25 (r3.set (from_:Int).toNat 1) r10 0
def zb8.n:Nat→SDesc→Int→(List Int)→Int→(List Int)→Prop
 | 0,_,_,_,_,_=>False
 | k_+1,d_,i_,w_,from_,r_=>∃e3:SNode,at? d_ i_=some e3∧∃r7:(List Int),zd9 w_ r7∧(((e3.1==1))=true→∃e14:Int,at? r7 from_=some e14∧r_=(r7.set (from_:Int).toNat 1))∧(((e3.1==1))=false→(((e3.1==2))=true→∃e19:Int,(((decide (from_<(w_.length:Int)))=true)→at? w_ from_=some e19)∧∃r21:Bool,(((decide (from_<(w_.length:Int)))=true)→zcp e3.2.2.2.2.2.1 e19 r21)∧((((decide (from_<(w_.length:Int)))&&r21))=true→(InR .i64 (from_+1))∧∃e24:Int,at? r7 (from_+1)=some e24∧r_=(r7.set (from_+1:Int).toNat 1))∧((((decide (from_<(w_.length:Int)))&&r21))=false→r_=r7))∧(((e3.1==2))=false→(((e3.1==3))=true→(InR .i64 (from_+(e3.2.2.2.2.2.2.length:Int)))∧∃b31:Bool,b31=(decide (from_+(e3.2.2.2.2.2.2.length:Int)≤(w_.length:Int)))∧(((b31)=true)→InR .i64 (from_+(e3.2.2.2.2.2.2.length:Int)))∧(((b31)=true)→(0:Int)≤from_∧from_≤(from_+(e3.2.2.2.2.2.2.length:Int))∧(from_+(e3.2.2.2.2.2.2.length:Int))≤(w_.length:Int))∧∃b35:Bool,b35=((strB ((w_.take (from_+(e3.2.2.2.2.2.2.length:Int):Int).toNat).drop (from_:Int).toNat))==e3.2.2.2.2.2.2)∧(((b31&&b35))=true→(InR .i64 (from_+(e3.2.2.2.2.2.2.length:Int)))∧∃e38:Int,at? r7 (from_+(e3.2.2.2.2.2.2.length:Int))=some e38∧r_=(r7.set (from_+(e3.2.2.2.2.2.2.length:Int):Int).toNat 1))∧(((b31&&b35))=false→r_=r7))∧(((e3.1==3))=false→(((e3.1==4))=true→∃r44:(List Int),zb8.n k_ d_ e3.2.1 w_ from_ r44∧∃r46:(List Int),ref12_through.b (zb8.n k_) d_ e3.2.2.1 w_ r44 r46∧r_=r46)∧(((e3.1==4))=false→(((e3.1==5))=true→∃r53:(List Int),zb8.n k_ d_ e3.2.1 w_ from_ r53∧∃r55:(List Int),zb8.n k_ d_ e3.2.2.1 w_ from_ r55∧∃r57:(List Int),zb0 r53 r55 1 r57∧r_=r57)∧(((e3.1==5))=false→(((e3.1==6))=true→∃r64:(List Int),ref12_times.b (zb8.n k_) d_ e3.2.1 w_ from_ 0 (-1) r64∧r_=r64)∧(((e3.1==6))=false→(((e3.1==7))=true→∃r71:(List Int),ref12_times.b (zb8.n k_) d_ e3.2.1 w_ from_ e3.2.2.2.1 e3.2.2.2.2.1 r71∧r_=r71)∧(((e3.1==7))=false→(((e3.1==8))=true→((decide (from_<(w_.length:Int)))=true→(InR .i64 (from_+1))∧∃e80:Int,at? w_ from_=some e80∧(InR .i64 ((from_+1)+e80))∧((decide ((from_+1)+e80≤(w_.length:Int)))=true→((0:Int)≤((from_+1)+e80)∧((from_+1)+e80)≤(w_.length:Int))∧(InR .i64 (from_+1))∧∃r86:(List Int),zb8.n k_ d_ e3.2.1 (w_.take ((from_+1)+e80:Int).toNat) (from_+1) r86∧∃e88:Int,at? r86 ((from_+1)+e80)=some e88∧∃e90:Int,at? r7 ((from_+1)+e80)=some e90∧r_=(r7.set ((from_+1)+e80:Int).toNat e88))∧((decide ((from_+1)+e80≤(w_.length:Int)))=false→r_=r7))∧((decide (from_<(w_.length:Int)))=false→r_=r7))∧(((e3.1==8))=false→(((e3.1==9))=true→(InR .i64 (from_+1))∧((decide (from_+1<(w_.length:Int)))=true→(InR .i64 (from_+2))∧∃e100:Int,at? w_ from_=some e100∧(InR .i64 (256*e100))∧(InR .i64 ((from_+2)+(256*e100)))∧(InR .i64 (from_+1))∧∃e105:Int,at? w_ (from_+1)=some e105∧(InR .i64 (((from_+2)+(256*e100))+e105))∧∃b109:Bool,b109=(decide (((from_+2)+(256*e100))+e105≤(w_.length:Int)))∧((b109)=true→((0:Int)≤(((from_+2)+(256*e100))+e105)∧(((from_+2)+(256*e100))+e105)≤(w_.length:Int))∧(InR .i64 (from_+2))∧∃r113:(List Int),zb8.n k_ d_ e3.2.1 (w_.take (((from_+2)+(256*e100))+e105:Int).toNat) (from_+2) r113∧∃e115:Int,at? r113 (((from_+2)+(256*e100))+e105)=some e115∧∃e117:Int,at? r7 (((from_+2)+(256*e100))+e105)=some e117∧r_=(r7.set (((from_+2)+(256*e100))+e105:Int).toNat e115))∧((b109)=false→r_=r7))∧((decide (from_+1<(w_.length:Int)))=false→r_=r7))∧(((e3.1==9))=false→r_=r7)))))))))
def zb8 (d_:SDesc) (i_:Int) (w_:(List Int)) (from_:Int) (r_:(List Int)):Prop:=∃k_,zb8.n k_ d_ i_ w_ from_ r_
def ref12_Ways (d_:SDesc) (w_:(List Int)) (r_:Int):Prop:=(InR .i64 ((d_.length:Int)-1))∧∃r4:(List Int),zb8 d_ ((d_.length:Int)-1) w_ 0 r4∧∃e6:Int,at? r4 (w_.length:Int)=some e6∧r_=e6
set_option maxRecDepth 100000
theorem ref12_Fits_ok {d_:SDesc} {w_:(List Int)} {r_:Bool} (h:ref12_Fits d_ w_ r_):Fn Tryz.prog 33 [(Pd.rep En.SDesc d_),(Pd.rep (En.slice (En.int .u8)) w_)] (Rq (Pd.rep En.bool r_)):=by
 unfold ref12_Fits at h
 refine fn_of Tryz.func33 J Tryz.ntmps33 (by rfl) (by simp) fun s0 a L=>?_
 refine wp_seq_k fun K1 hK1=>rg (sx 2 (t_box (o_t 0 J) J J) L fun a s _ L=>?_)
 refine sx 4 (zd o_b J J) L fun a s _ L=>en' (hK1 _ _ ?_)
 refine wp_seq_k fun K2 hK2=>?_
 obtain ⟨b3,h4,h⟩:=h
 refine rg (sx 5 (t_fa (off:=0) (o_t 2 J) Tryz.underlying24 J (zcs (zj _ _)) J ty22 J J) L fun a s _ L=>?_)
 refine sx 6 (zo ty22 (o_t 5 J) J J) L fun a s _ L=>sx 7 (t_len (o_t 6 J) Tryz.underlying22 J J) L fun a s _ L=>sx 8 (t_leq (o_t 7 J) oI J J) L fun a s _ L=>sx 9 (zb (o_t 8 J) J J) L fun a s _ L=>sx 10 (t_g1 J J J (fun hc_=>zb (o_t 1 J) J J)) L fun a s _ L=>sx 11 (t_g1 J J J (fun hc_=>t_len (o_w hc_ 10 J) Tryz.underlying26 J J)) L fun a s _ L=>sx 12 (t_g1 J J J (fun hc_=>t_leq (o_w hc_ 11 J) oI J J)) L fun a s _ L=>sx 13 (h4 ▸ (t_and (o_t 9 J) (fun hc2_=>(o_w hc2_ 12 J)) J J)) L fun a s _ L=>sx 4 (zd (o_t 13 J) J J) L fun a s _ L=>?_
 refine en' (hK2 _ _ ?_)
 subst h
 exact wp_ret (retq J L J)
theorem zeh {w_:(List Int)} {r_:(List Int)} (h:zd9 w_ r_):Fn Tryz.prog 107 [(Pd.rep (En.slice (En.int .u8)) w_)] (Ro (En.int .i64) 3 r_):=by
 unfold zd9 at h
 refine fn_of Tryz.func107 J Tryz.ntmps107 (by rfl) (by simp) fun s0 a L=>?_
 refine wp_seq_k fun K1 hK1=>rg (sx 2 (zd (o_nil (E:=(En.int .i64)) (N:=s0.w.heap.size) (te:=3)) J J) L fun a s _ L=>?_)
 refine en' (hK1 _ _ ?_)
 refine wp_seq_k fun K2 hK2=>?_
 obtain ⟨h3,h5,h⟩:=h
 refine rg (sx 3 (zb (o_t 0 J) J J) L fun a s _ L=>?_)
 refine sx 4 (t_len (o_t 3 J) Tryz.underlying26 J J) L fun a s _ L=>sx 5 (t_add (o_t 4 J) oI h3 J J) L fun a s _ L=>st_makev (En.int .i64) (z:=0) (m:=(w_.length:Int)+1) 6 L (o_t 5 J) (o_t 5 J) h5 Tryz.underlying92 ty3 tyz3 J J J J fun a s g4 hg_ L=>?_
 refine sx 2 (zd (o_t 6 J) J J) L fun a s _ L=>en' (hK2 _ _ ?_)
 subst h
 exact wp_ret (reto J L J)
theorem ref12_plus_ok {a_:(List Int)} {b_:(List Int)} {times_:Int} {r_:(List Int)} (h:zb0 a_ b_ times_ r_):Fn Tryz.prog 110 [(Pd.rep (En.slice (En.int .i64)) a_),(Pd.rep (En.slice (En.int .i64)) b_),(Pi times_)] (Ro (En.int .i64) 3 r_):=by
 unfold zb0 at h
 refine fn_of Tryz.func110 J Tryz.ntmps110 (by rfl) (by simp) fun s0 a L=>?_
 refine wp_seq_k fun K1 hK1=>rg (sx 6 (zd (o_nil (E:=(En.int .i64)) (N:=s0.w.heap.size) (te:=3)) J J) L fun a s _ L=>?_)
 refine en' (hK1 _ _ ?_)
 refine wp_seq_k fun K2 hK2=>?_
 obtain ⟨h4,h⟩:=h
 refine rg (st_new (En.int .i64) 9 L Tryz.underlying92 ty3 J J J J fun a s g3 hg_ L=>?_)
 refine sx 10 (zb (o_t 0 J) J J) L fun a s _ L=>zd2 (L':=[(1,(Pd.rep (En.slice (En.int .i64)) b_)),(2,(Pi times_))]) 11 L (o_t 9 J) (o_t 10 J) Tryz.underlying92 ty3 h4 J J J J (.k 1 (.k 2 .nil)) fun a s og5 hg_ L=>?_
 refine sx 7 (zd (o_t 11 J) J J) L fun a s _ L=>en' (hK2 _ _ ?_)
 refine wp_seq_k fun K6 hK6=>wp_seq_k fun K7 hK7=>rg (sx 8 (zd oI J J) L fun a s _ L=>?_)
 refine en' (hK7 _ _ ?_)
 refine wp_block ?_
 have J10:∀(out8:(List Int)) (og9:Option Nat) (a:Act) (s:St),Has N0 34 s0 a s [(7,(Pd.row (En.int .i64) s0.w.heap.size 3 og9 out8))]→((zb0.j1 r_) out8)→K6 a s.w:=by
  intro out8 og9 a s L h
  unfold zb0.j1 at h
  show K6 a s.w
  refine hK6 _ _ (wp_seq_k fun K11 hK11=>?_)
  refine rg (sx 33 (zb (o_t 7 J) J J) L fun a s _ L=>?_)
  refine sx 6 (zd (o_t 33 J) J J) L fun a s _ L=>en' (hK11 _ _ ?_)
  subst h
  exact wp_ret (reto J L J)
 obtain ⟨k15,h⟩:=h
 refine lpg (fun k16 a s=>∃(out12:(List Int)) (i14:Int) (og13:Option Nat),Has N0 34 s0 a s [(1,(Pd.rep (En.slice (En.int .i64)) b_)),(2,(Pi times_)),(7,(Pd.row (En.int .i64) s0.w.heap.size 3 og13 out12)),(8,(Pi i14))]∧zb0.l1 b_ times_ (zb0.j1 r_) k16 out12 i14) k15 ⟨(([]:(List Int))++a_),0,og5,L.keep (.k 1 (.k 2 (.cons (t:=7) J (fun _ _ h_=>h_) (.k 8 .nil)))),h⟩ ?_
 rintro k16 a s ⟨out12,i14,og13,L,h⟩ KL17 hKL17
 cases k16 with
 | zero=>exact h.elim
 | succ k16=>
 unfold zb0.l1 at h
 refine wp_seq_k fun K18 hK18=>wp_seq_k fun K19 hK19=>rg (sx 12 (zb (o_t 8 J) J J) L fun a s _ L=>?_)
 refine sx 13 (zb (o_t 1 J) J J) L fun a s _ L=>sx 14 (t_len (o_t 13 J) Tryz.underlying92 J J) L fun a s _ L=>sx 15 (t_lss (o_t 12 J) (o_t 14 J) J J) L fun a s _ L=>en' (hK19 _ _ ?_)
 refine cnd L J (fun hb_=>?_) (fun hb_=>?_)
 ·replace h:=h.1 hb_
  refine wp_skip ?_
  show K18 a s.w
  refine hK18 _ _ (wp_seq_k fun K20 hK20=>?_)
  refine wp_block ?_
  obtain ⟨e21,h22,e23,h24,h25,h26,e27,h28,h⟩:=h
  refine rda zbk 15 [(Pd.row (En.int .i64) s0.w.heap.size 3 og13 out12),(Pi i14),(Pd.row (En.int .i64) s0.w.heap.size 3 og13 out12),(Pi i14),(Pd.optr (En.int .i64) s0.w.heap.size og13 ((i14:Int).toNat*(En.int .i64).sz) e21),(Pi e21),(Pi times_),(Pd.rep (En.slice (En.int .i64)) b_),(Pi i14),(Pd.ptr (En.int .i64) e23),(Pi e23),(Pi (times_*e23)),(Pi (e21+(times_*e23))),(Pi (min 2 (e21+(times_*e23)))),(Pd.optr (En.int .i64) s0.w.heap.size og13 ((i14:Int).toNat*(En.int .i64).sz) e27)] L (by kernel_rfl) J J ?_ ?_
  ·refine AllT.cons (zb (o_t 7 J) J J) ?_
   refine AllT.cons (zb (o_t 8 J) J J) (AllT.cons (zb (o_t 7 J) J J) ?_)
   refine AllT.cons (zb (o_t 8 J) J J) (AllT.cons (zbx (o_t 20 J) (o_t 21 J) h22 Tryz.underlying92 ty3 J J) ?_)
   refine AllT.cons (zt ty3 (o_t 22 J) J J) (AllT.cons (zb (o_t 2 J) J J) ?_)
   refine AllT.cons (zb (o_t 1 J) J J) (AllT.cons (zb (o_t 8 J) J J) ?_)
   refine AllT.cons (t_idx (o_t 25 J) (o_t 26 J) h24 Tryz.underlying92 ty3 J J) (AllT.cons (zo ty3 (o_t 27 J) J J) ?_)
   refine AllT.cons (t_mul (o_t 24 J) (o_t 28 J) h25 J J) (AllT.cons (t_add (o_t 23 J) (o_t 29 J) h26 J J) ?_)
   refine AllT.cons (t_min oI (o_t 30 J) J J) (AllT.cons (zbx (o_t 18 J) (o_t 19 J) h28 Tryz.underlying92 ty3 J J) ?_)
   exact AllT.nil
  intro a s _ L
  refine st_stor (L':=[(1,(Pd.rep (En.slice (En.int .i64)) b_)),(2,(Pi times_)),(7,(Pd.row (En.int .i64) s0.w.heap.size 3 og13 (out12.set (i14:Int).toNat (min 2 (e21+(times_*e23)))))),(8,(Pi i14))]) (off:=0) 7 L J h28 (o_t 32 J) (o_t 31 J) (zy _ _ _) ty3 J J J (.k 1 (.k 2 (.turn (t:=7) J (.k 8 .nil)))) fun s L=>?_
  refine en' (hK20 _ _ ?_)
  obtain ⟨h29,h⟩:=h
  refine rg (sx 16 (zb (o_t 8 J) J J) L fun a s _ L=>?_)
  refine sx 17 (t_add (o_t 16 J) oI h29 J J) L fun a s _ L=>sx 8 (zd (o_t 17 J) J J) L fun a s _ L=>en' ?_
  exact hKL17 k16 a s (Nat.lt_succ_self _) ⟨(out12.set (i14:Int).toNat (min 2 (e21+(times_*e23)))),(i14+1),og13,L.keep (.k 1 (.k 2 (.cons (t:=7) J (fun _ _ h_=>h_) (.k 8 .nil)))),h⟩
 ·replace h:=h.2 hb_
  refine wp_exit ?_
  exact J10 out12 og13 a s (L.keep (.cons (t:=7) J (fun _ _ h_=>h_) .nil)) h
theorem ref12_through.b_ok {n_:SDesc→Int→(List Int)→Int→(List Int)→Prop} (ih_:∀{y0_:SDesc} {y1_:Int} {y2_:(List Int)} {y3_:Int} {r_:(List Int)} (h:n_ y0_ y1_ y2_ y3_ r_),Fn Tryz.prog 68 [Pd.rep En.SDesc y0_,Pd.rep (En.int .i64) y1_,Pd.rep (En.slice (En.int .u8)) y2_,Pd.rep (En.int .i64) y3_] (Ro (En.int .i64) 3 r_)) {d_:SDesc} {i_:Int} {w_:(List Int)} {a_:(List Int)} {r_:(List Int)} (h:ref12_through.b n_ d_ i_ w_ a_ r_):Fn Tryz.prog 109 [(Pd.rep En.SDesc d_),(Pi i_),(Pd.rep (En.slice (En.int .u8)) w_),(Pd.rep (En.slice (En.int .i64)) a_)] (Ro (En.int .i64) 3 r_):=by
 unfold ref12_through.b at h
 refine fn_of Tryz.func109 J Tryz.ntmps109 (by rfl) (by simp) fun s0 a L=>?_
 refine wp_seq_k fun K1 hK1=>rg (sx 4 (t_box (o_t 0 J) J J) L fun a s _ L=>?_)
 refine sx 8 (zd (o_nil (E:=(En.int .i64)) (N:=s0.w.heap.size) (te:=3)) J J) L fun a s _ L=>en' (hK1 _ _ ?_)
 refine wp_seq_k fun K2 hK2=>?_
 obtain ⟨r3,h4,h⟩:=h
 refine rg (sx 11 (zb (o_t 2 J) J J) L fun a s _ L=>?_)
 refine zcb 12 L (zeh h4) (xs:=[.tmp 11]) (.cons (o_t 11 J) .nil) J J J J fun a s og5 hg_ L=>?_
 refine sx 9 (zd (o_t 12 J) J J) L fun a s _ L=>en' (hK2 _ _ ?_)
 refine wp_seq_k fun K6 hK6=>wp_seq_k fun K7 hK7=>rg (sx 10 (zd oI J J) L fun a s _ L=>?_)
 refine en' (hK7 _ _ ?_)
 refine wp_block ?_
 have J10:∀(out8:(List Int)) (og9:Option Nat) (a:Act) (s:St),Has N0 36 s0 a s [(9,(Pd.row (En.int .i64) s0.w.heap.size 3 og9 out8))]→((ref12_through.j1 r_) out8)→K6 a s.w:=by
  intro out8 og9 a s L h
  unfold ref12_through.j1 at h
  show K6 a s.w
  refine hK6 _ _ (wp_seq_k fun K11 hK11=>?_)
  refine rg (sx 35 (zb (o_t 9 J) J J) L fun a s _ L=>?_)
  refine sx 8 (zd (o_t 35 J) J J) L fun a s _ L=>en' (hK11 _ _ ?_)
  subst h
  exact wp_ret (reto J L J)
 obtain ⟨k15,h⟩:=h
 refine lpg (fun k16 a s=>∃(out12:(List Int)) (k14:Int) (og13:Option Nat),Has N0 36 s0 a s [(1,(Pi i_)),(2,(Pd.rep (En.slice (En.int .u8)) w_)),(3,(Pd.rep (En.slice (En.int .i64)) a_)),(4,(Pd.ptr En.SDesc d_)),(9,(Pd.row (En.int .i64) s0.w.heap.size 3 og13 out12)),(10,(Pi k14))]∧ref12_through.l1 n_ d_ i_ w_ a_ (ref12_through.j1 r_) k16 out12 k14) k15 ⟨r3,0,og5,L.keep (.k 1 (.k 2 (.k 3 (.k 4 (.cons (t:=9) J (fun _ _ h_=>h_) (.k 10 .nil)))))),h⟩ ?_
 rintro k16 a s ⟨out12,k14,og13,L,h⟩ KL17 hKL17
 cases k16 with
 | zero=>exact h.elim
 | succ k16=>
 unfold ref12_through.l1 at h
 refine wp_seq_k fun K18 hK18=>wp_seq_k fun K19 hK19=>rg (sx 13 (zb (o_t 10 J) J J) L fun a s _ L=>?_)
 refine sx 14 (zb (o_t 3 J) J J) L fun a s _ L=>sx 15 (t_len (o_t 14 J) Tryz.underlying92 J J) L fun a s _ L=>sx 16 (t_lss (o_t 13 J) (o_t 15 J) J J) L fun a s _ L=>en' (hK19 _ _ ?_)
 refine cnd L J (fun hb_=>?_) (fun hb_=>?_)
 ·replace h:=h.1 hb_
  refine wp_skip ?_
  show K18 a s.w
  refine hK18 _ _ (wp_seq_k fun K20 hK20=>?_)
  refine wp_block (wp_seq_k fun K21 hK21=>?_)
  obtain ⟨e22,h23,h⟩:=h
  refine rg (sx 19 (zb (o_t 3 J) J J) L fun a s _ L=>?_)
  refine sx 20 (zb (o_t 10 J) J J) L fun a s _ L=>sx 21 (t_idx (o_t 19 J) (o_t 20 J) h23 Tryz.underlying92 ty3 J J) L fun a s _ L=>sx 22 (zo ty3 (o_t 21 J) J J) L fun a s _ L=>sx 23 (t_gtr (o_t 22 J) oI J J) L fun a s _ L=>en' (hK21 _ _ ?_)
  refine cnd L J (fun hb_=>?_) (fun hb_=>?_)
  ·replace h:=h.1 hb_
   obtain ⟨s25,h24,L⟩:=L.freeze (L':=[(1,(Pi i_)),(2,(Pd.rep (En.slice (En.int .u8)) w_)),(3,(Pd.rep (En.slice (En.int .i64)) a_)),(4,(Pd.ptr En.SDesc d_)),(10,(Pi k14))]) 9 rfl (.cons (t:=1) rfl nE (.cons (t:=2) rfl nE (.cons (t:=3) rfl nE (.cons (t:=4) rfl nE (.cons (t:=10) rfl nE .nil)))))
   rw [← h24]
   clear h24
   generalize s25=s at *
   obtain ⟨r26,h27,e28,h29,r30,h31,h⟩:=h
   refine rda zbk 10 [(Pd.rep (En.slice (En.int .i64)) out12),(Pd.rep En.SDesc d_),(Pi i_),(Pd.rep (En.slice (En.int .u8)) w_),(Pi k14),(Pd.rep (En.slice (En.int .i64)) r26),(Pd.rep (En.slice (En.int .i64)) a_),(Pi k14),(Pd.ptr (En.int .i64) e28),(Pi e28)] L (by kernel_rfl) J J ?_ ?_
   ·refine AllT.cons (zb (o_t 9 J) J J) ?_
    refine AllT.cons (zo ty24 (o_t 4 J) J J) (AllT.cons (zb (o_t 1 J) J J) ?_)
    refine AllT.cons (zb (o_t 2 J) J J) (AllT.cons (zb (o_t 10 J) J J) ?_)
    refine AllT.cons (zu ((ih_ h27).frz) (xs:=[.tmp 25,.tmp 26,.tmp 27,.tmp 28]) (.cons (o_t 25 J) (.cons (o_t 26 J) (.cons (o_t 27 J) (.cons (o_t 28 J) .nil)))) J J) (AllT.cons (zb (o_t 3 J) J J) ?_)
    refine AllT.cons (zb (o_t 10 J) J J) (AllT.cons (t_idx (o_t 30 J) (o_t 31 J) h29 Tryz.underlying92 ty3 J J) ?_)
    refine AllT.cons (zo ty3 (o_t 32 J) J J) ?_
    exact AllT.nil
   intro a s _ L
   refine zcb 34 L (ref12_plus_ok h31) (xs:=[.tmp 24,.tmp 29,.tmp 33]) (.cons (o_t 24 J) (.cons (o_t 29 J) (.cons (o_t 33 J) .nil))) J J J J fun a s og32 hg_ L=>?_
   refine sx 9 (zd (o_t 34 J) J J) L fun a s _ L=>en' (hK20 _ _ ?_)
   obtain ⟨h33,h⟩:=h
   refine rg (sx 17 (zb (o_t 10 J) J J) L fun a s _ L=>?_)
   refine sx 18 (t_add (o_t 17 J) oI h33 J J) L fun a s _ L=>sx 10 (zd (o_t 18 J) J J) L fun a s _ L=>en' ?_
   exact hKL17 k16 a s (Nat.lt_succ_self _) ⟨r30,(k14+1),og32,L.keep (.k 1 (.k 2 (.k 3 (.k 4 (.cons (t:=9) J (fun _ _ h_=>h_) (.k 10 .nil)))))),h⟩
  ·replace h:=h.2 hb_
   refine wp_skip ?_
   show K20 a s.w
   refine hK20 _ _ ?_
   obtain ⟨h34,h⟩:=h
   refine rg (sx 17 (zb (o_t 10 J) J J) L fun a s _ L=>?_)
   refine sx 18 (t_add (o_t 17 J) oI h34 J J) L fun a s _ L=>sx 10 (zd (o_t 18 J) J J) L fun a s _ L=>en' ?_
   exact hKL17 k16 a s (Nat.lt_succ_self _) ⟨out12,(k14+1),og13,L.keep (.k 1 (.k 2 (.k 3 (.k 4 (.cons (t:=9) J (fun _ _ h_=>h_) (.k 10 .nil)))))),h⟩
 ·replace h:=h.2 hb_
  refine wp_exit ?_
  exact J10 out12 og13 a s (L.keep (.cons (t:=9) J (fun _ _ h_=>h_) .nil)) h
theorem ref12_times.b_ok {n_:SDesc→Int→(List Int)→Int→(List Int)→Prop} (ih_:∀{y0_:SDesc} {y1_:Int} {y2_:(List Int)} {y3_:Int} {r_:(List Int)} (h:n_ y0_ y1_ y2_ y3_ r_),Fn Tryz.prog 68 [Pd.rep En.SDesc y0_,Pd.rep (En.int .i64) y1_,Pd.rep (En.slice (En.int .u8)) y2_,Pd.rep (En.int .i64) y3_] (Ro (En.int .i64) 3 r_)) {d_:SDesc} {i_:Int} {w_:(List Int)} {from_:Int} {lo_:Int} {hi_:Int} {r_:(List Int)} (h:ref12_times.b n_ d_ i_ w_ from_ lo_ hi_ r_):Fn Tryz.prog 111 [(Pd.rep En.SDesc d_),(Pi i_),(Pd.rep (En.slice (En.int .u8)) w_),(Pi from_),(Pi lo_),(Pi hi_)] (Ro (En.int .i64) 3 r_):=by
 unfold ref12_times.b at h
 refine fn_of Tryz.func111 J Tryz.ntmps111 (by rfl) (by simp) fun s0 a L=>?_
 refine wp_seq_k fun K1 hK1=>rg (sx 6 (t_box (o_t 0 J) J J) L fun a s _ L=>?_)
 refine sx 12 (zd (o_nil (E:=(En.int .i64)) (N:=s0.w.heap.size) (te:=3)) J J) L fun a s _ L=>en' (hK1 _ _ ?_)
 refine wp_seq_k fun K2 hK2=>?_
 obtain ⟨r3,h4,h⟩:=h
 refine rg (sx 19 (zb (o_t 2 J) J J) L fun a s _ L=>?_)
 refine zcb 20 L (zeh h4) (xs:=[.tmp 19]) (.cons (o_t 19 J) .nil) J J J J fun a s og5 hg_ L=>?_
 refine sx 13 (zd (o_t 20 J) J J) L fun a s _ L=>en' (hK2 _ _ ?_)
 refine wp_seq_k fun K6 hK6=>?_
 obtain ⟨e7,h8,h⟩:=h
 refine rg (sx 21 (zb (o_t 13 J) J J) L fun a s _ L=>?_)
 refine sx 22 (zb (o_t 3 J) J J) L fun a s _ L=>sx 23 (zbx (o_t 21 J) (o_t 22 J) h8 Tryz.underlying92 ty3 J J) L fun a s _ L=>st_stor (L':=[(1,(Pi i_)),(2,(Pd.rep (En.slice (En.int .u8)) w_)),(4,(Pi lo_)),(5,(Pi hi_)),(6,(Pd.ptr En.SDesc d_)),(13,(Pd.row (En.int .i64) s0.w.heap.size 3 og5 (r3.set (from_:Int).toNat 1)))]) (off:=0) 13 L J h8 (o_t 23 J) oI (zy _ _ _) ty3 J J J (.k 1 (.k 2 (.k 4 (.k 5 (.k 6 (.turn (t:=13) J .nil)))))) fun s L=>?_
 refine en' (hK6 _ _ ?_)
 refine wp_seq_k fun K9 hK9=>?_
 obtain ⟨r10,h11,h⟩:=h
 refine rg (sx 24 (zb (o_t 2 J) J J) L fun a s _ L=>?_)
 have lt_d13:=L.rlt 13 rfl
 refine zcb 25 L (zeh h11) (xs:=[.tmp 24]) (.cons (o_t 24 J) .nil) J J J J fun a s og12 hg_ L=>?_
 have d13:Dis og12 og5:=Dis.new hg_ lt_d13
 refine sx 14 (zd (o_t 25 J) J J) L fun a s _ L=>en' (hK9 _ _ ?_)
 refine wp_seq_k fun K14 hK14=>wp_seq_k fun K15 hK15=>rg (sx 15 (zd oI J J) L fun a s _ L=>?_)
 refine en' (hK15 _ _ ?_)
 refine wp_block ?_
 have J18:∀(out16:(List Int)) (og17:Option Nat) (a:Act) (s:St),Has N0 72 s0 a s [(14,(Pd.row (En.int .i64) s0.w.heap.size 3 og17 out16))]→((ref12_times.j1 r_) out16)→K14 a s.w:=by
  intro out16 og17 a s L h
  unfold ref12_times.j1 at h
  show K14 a s.w
  refine hK14 _ _ (wp_seq_k fun K19 hK19=>?_)
  refine rg (sx 71 (zb (o_t 14 J) J J) L fun a s _ L=>?_)
  refine sx 12 (zd (o_t 71 J) J J) L fun a s _ L=>en' (hK19 _ _ ?_)
  subst h
  exact wp_ret (reto J L J)
 obtain ⟨k25,h⟩:=h
 refine lpg (fun k26 a s=>∃(now20:(List Int)) (out22:(List Int)) (t24:Int) (og21:Option Nat) (og23:Option Nat),Has N0 72 s0 a s [(1,(Pi i_)),(2,(Pd.rep (En.slice (En.int .u8)) w_)),(4,(Pi lo_)),(5,(Pi hi_)),(6,(Pd.ptr En.SDesc d_)),(13,(Pd.row (En.int .i64) s0.w.heap.size 3 og21 now20)),(14,(Pd.row (En.int .i64) s0.w.heap.size 3 og23 out22)),(15,(Pi t24))]∧Dis og21 og23∧ref12_times.l1 n_ d_ i_ w_ lo_ hi_ r_ (ref12_times.j1 r_) k26 now20 out22 t24) k25 ⟨(r3.set (from_:Int).toNat 1),r10,0,og5,og12,L.keep (.k 1 (.k 2 (.k 4 (.k 5 (.k 6 (.cons (t:=13) J (fun _ _ h_=>h_) (.cons (t:=14) J (fun _ _ h_=>h_) (.k 15 .nil)))))))),(Dis.symm d13),h⟩ ?_
 rintro k26 a s ⟨now20,out22,t24,og21,og23,L,d28,h⟩ KL27 hKL27
 cases k26 with
 | zero=>exact h.elim
 | succ k26=>
 unfold ref12_times.l1 at h
 refine wp_seq_k fun K29 hK29=>wp_seq_k fun K30 hK30=>?_
 obtain ⟨h31,h⟩:=h
 refine rg (sx 26 (zb (o_t 15 J) J J) L fun a s _ L=>?_)
 refine sx 27 (zb (o_t 2 J) J J) L fun a s _ L=>sx 28 (t_len (o_t 27 J) Tryz.underlying26 J J) L fun a s _ L=>sx 29 (t_add (o_t 28 J) oI h31 J J) L fun a s _ L=>sx 30 (t_leq (o_t 26 J) (o_t 29 J) J J) L fun a s _ L=>en' (hK30 _ _ ?_)
 refine cnd L J (fun hb_=>?_) (fun hb_=>?_)
 ·replace h:=h.1 hb_
  refine wp_skip ?_
  show K29 a s.w
  refine hK29 _ _ (wp_seq_k fun K32 hK32=>?_)
  refine wp_block (wp_seq_k fun K33 hK33=>?_)
  refine wp_seq_k fun K34 hK34=>rg (sx 33 (zb (o_t 15 J) J J) L fun a s _ L=>?_)
  refine sx 34 (zb (o_t 4 J) J J) L fun a s _ L=>sx 35 (t_geq (o_t 33 J) (o_t 34 J) J J) L fun a s _ L=>en' (hK34 _ _ ?_)
  obtain ⟨s36,h35,L⟩:=L.freeze (L':=[(1,(Pi i_)),(2,(Pd.rep (En.slice (En.int .u8)) w_)),(4,(Pi lo_)),(5,(Pi hi_)),(6,(Pd.ptr En.SDesc d_)),(14,(Pd.row (En.int .i64) s0.w.heap.size 3 og23 out22)),(15,(Pi t24)),(26,(Pi t24)),(27,(Pd.rep (En.slice (En.int .u8)) w_)),(28,(Pi (w_.length:Int))),(29,(Pi ((w_.length:Int)+1))),(30,(Pd.rep En.bool (decide (t24≤(w_.length:Int)+1)))),(33,(Pi t24)),(34,(Pi lo_)),(35,(Pd.rep En.bool (decide (lo_≤t24))))]) 13 rfl (.cons (t:=1) rfl nE (.cons (t:=2) rfl nE (.cons (t:=4) rfl nE (.cons (t:=5) rfl nE (.cons (t:=6) rfl nE (.cons (t:=14) rfl (Dis.ow (Dis.symm d28)) (.cons (t:=15) rfl nE (.cons (t:=26) rfl nE (.cons (t:=27) rfl nE (.cons (t:=28) rfl nE (.cons (t:=29) rfl nE (.cons (t:=30) rfl nE (.cons (t:=33) rfl nE (.cons (t:=34) rfl nE (.cons (t:=35) rfl nE .nil)))))))))))))))
  rw [← h35]
  clear h35
  generalize s36=s at *
  have J39:∀(out37:(List Int)) (og38:Option Nat) (a:Act) (s:St),Has N0 72 s0 a s [(1,(Pi i_)),(2,(Pd.rep (En.slice (En.int .u8)) w_)),(4,(Pi lo_)),(5,(Pi hi_)),(6,(Pd.ptr En.SDesc d_)),(13,(Pd.rep (En.slice (En.int .i64)) now20)),(14,(Pd.row (En.int .i64) s0.w.heap.size 3 og38 out37)),(15,(Pi t24))]→((ref12_times.j3 n_ (ref12_times.l1 n_ d_ i_ w_ lo_ hi_ r_ (ref12_times.j1 r_) k26) d_ i_ w_ hi_ r_ now20 t24) out37)→K33 a s.w:=by
   intro out37 og38 a s L h
   unfold ref12_times.j3 at h
   show K33 a s.w
   refine hK33 _ _ (wp_seq_k fun K40 hK40=>?_)
   refine wp_seq_k fun K41 hK41=>rg (sx 39 (zb (o_t 15 J) J J) L fun a s _ L=>?_)
   refine sx 40 (zb (o_t 5 J) J J) L fun a s _ L=>sx 41 (t_eqi (o_t 39 J) (o_t 40 J) J J) L fun a s _ L=>en' (hK41 _ _ ?_)
   refine cnd L J (fun hb_=>?_) (fun hb_=>?_)
   ·replace h:=h.1 hb_
    refine wp_exit ?_
    exact J18 out37 og38 a s (L.keep (.cons (t:=14) J (fun _ _ h_=>h_) .nil)) h
   ·replace h:=h.2 hb_
    refine wp_skip ?_
    show K40 a s.w
    refine hK40 _ _ (wp_seq_k fun K42 hK42=>?_)
    obtain ⟨r43,h44,h⟩:=h
    refine rg (sx 42 (zb (o_t 2 J) J J) L fun a s _ L=>?_)
    have lt_d46:=L.rlt 14 rfl
    refine zcb 43 L (zeh h44) (xs:=[.tmp 42]) (.cons (o_t 42 J) .nil) J J J J fun a s og45 hg_ L=>?_
    have d46:Dis og45 og38:=Dis.new hg_ lt_d46
    refine sx 16 (zd (o_t 43 J) J J) L fun a s _ L=>en' (hK42 _ _ ?_)
    refine wp_seq_k fun K47 hK47=>wp_seq_k fun K48 hK48=>rg (sx 17 (zd oI J J) L fun a s _ L=>?_)
    refine en' (hK48 _ _ ?_)
    refine wp_block ?_
    have J51:∀(next49:(List Int)) (og50:Option Nat) (a:Act) (s:St),Has N0 72 s0 a s [(1,(Pi i_)),(2,(Pd.rep (En.slice (En.int .u8)) w_)),(4,(Pi lo_)),(5,(Pi hi_)),(6,(Pd.ptr En.SDesc d_)),(14,(Pd.row (En.int .i64) s0.w.heap.size 3 og38 out37)),(15,(Pi t24)),(16,(Pd.row (En.int .i64) s0.w.heap.size 3 og50 next49))]→Dis og38 og50→((ref12_times.j2 (ref12_times.l1 n_ d_ i_ w_ lo_ hi_ r_ (ref12_times.j1 r_) k26) t24 out37) next49)→K47 a s.w:=by
     intro next49 og50 a s L d52 h
     unfold ref12_times.j2 at h
     show K47 a s.w
     refine hK47 _ _ (rg ?_)
     refine sx 70 (zb (o_t 16 J) J J) L fun a s _ L=>sx 13 (zd (o_t 70 J) J J) L fun a s _ L=>en' (hK32 _ _ ?_)
     obtain ⟨h53,h⟩:=h
     refine rg (sx 31 (zb (o_t 15 J) J J) L fun a s _ L=>?_)
     refine sx 32 (t_add (o_t 31 J) oI h53 J J) L fun a s _ L=>sx 15 (zd (o_t 32 J) J J) L fun a s _ L=>en' ?_
     exact hKL27 k26 a s (Nat.lt_succ_self _) ⟨next49,out37,(t24+1),og50,og38,L.keep (.k 1 (.k 2 (.k 4 (.k 5 (.k 6 (.cons (t:=13) J (fun _ _ h_=>h_) (.cons (t:=14) J (fun _ _ h_=>h_) (.k 15 .nil)))))))),(Dis.symm d52),h⟩
    obtain ⟨k57,h⟩:=h
    refine lpg (fun k58 a s=>∃(next54:(List Int)) (k56:Int) (og55:Option Nat),Has N0 72 s0 a s [(1,(Pi i_)),(2,(Pd.rep (En.slice (En.int .u8)) w_)),(4,(Pi lo_)),(5,(Pi hi_)),(6,(Pd.ptr En.SDesc d_)),(13,(Pd.rep (En.slice (En.int .i64)) now20)),(14,(Pd.row (En.int .i64) s0.w.heap.size 3 og38 out37)),(15,(Pi t24)),(16,(Pd.row (En.int .i64) s0.w.heap.size 3 og55 next54)),(17,(Pi k56))]∧Dis og38 og55∧ref12_times.l2 n_ d_ i_ w_ now20 (ref12_times.j2 (ref12_times.l1 n_ d_ i_ w_ lo_ hi_ r_ (ref12_times.j1 r_) k26) t24 out37) k58 next54 k56) k57 ⟨r43,0,og45,L.keep (.k 1 (.k 2 (.k 4 (.k 5 (.k 6 (.k 13 (.cons (t:=14) J (fun _ _ h_=>h_) (.k 15 (.cons (t:=16) J (fun _ _ h_=>h_) (.k 17 .nil)))))))))),(Dis.symm d46),h⟩ ?_
    rintro k58 a s ⟨next54,k56,og55,L,d60,h⟩ KL59 hKL59
    cases k58 with
    | zero=>exact h.elim
    | succ k58=>
    unfold ref12_times.l2 at h
    refine wp_seq_k fun K61 hK61=>wp_seq_k fun K62 hK62=>rg (sx 44 (zb (o_t 17 J) J J) L fun a s _ L=>?_)
    refine sx 45 (zb (o_t 13 J) J J) L fun a s _ L=>sx 46 (t_len (o_t 45 J) Tryz.underlying92 J J) L fun a s _ L=>sx 47 (t_lss (o_t 44 J) (o_t 46 J) J J) L fun a s _ L=>en' (hK62 _ _ ?_)
    refine cnd L J (fun hb_=>?_) (fun hb_=>?_)
    ·replace h:=h.1 hb_
     refine wp_skip ?_
     show K61 a s.w
     refine hK61 _ _ (wp_seq_k fun K63 hK63=>?_)
     refine wp_block (wp_seq_k fun K64 hK64=>?_)
     obtain ⟨e65,h66,h⟩:=h
     refine rg (sx 50 (zb (o_t 13 J) J J) L fun a s _ L=>?_)
     refine sx 51 (zb (o_t 17 J) J J) L fun a s _ L=>sx 52 (t_idx (o_t 50 J) (o_t 51 J) h66 Tryz.underlying92 ty3 J J) L fun a s _ L=>sx 53 (zo ty3 (o_t 52 J) J J) L fun a s _ L=>sx 54 (t_gtr (o_t 53 J) oI J J) L fun a s _ L=>en' (hK64 _ _ ?_)
     refine cnd L J (fun hb_=>?_) (fun hb_=>?_)
     ·replace h:=h.1 hb_
      refine wp_seq_k fun K67 hK67=>?_
      obtain ⟨r68,h69,h⟩:=h
      refine rg (sx 55 (zo ty24 (o_t 6 J) J J) L fun a s _ L=>?_)
      refine sx 56 (zb (o_t 1 J) J J) L fun a s _ L=>sx 57 (zb (o_t 2 J) J J) L fun a s _ L=>sx 58 (zb (o_t 17 J) J J) L fun a s _ L=>?_
      have lt_d72:=L.rlt 16 rfl
      have lt_d71:=L.rlt 14 rfl
      refine zcb 59 L (ih_ h69) (xs:=[.tmp 55,.tmp 56,.tmp 57,.tmp 58]) (.cons (o_t 55 J) (.cons (o_t 56 J) (.cons (o_t 57 J) (.cons (o_t 58 J) .nil)))) J J J J fun a s og70 hg_ L=>?_
      have d71:Dis og70 og38:=Dis.new hg_ lt_d71
      have d72:Dis og70 og55:=Dis.new hg_ lt_d72
      refine sx 18 (zd (o_t 59 J) J J) L fun a s _ L=>en' (hK67 _ _ ?_)
      refine wp_seq_k fun K73 hK73=>?_
      obtain ⟨e74,h75,h⟩:=h
      refine rg (sx 60 (zb (o_t 18 J) J J) L fun a s _ L=>?_)
      refine sx 61 (zb (o_t 17 J) J J) L fun a s _ L=>sx 62 (zbx (o_t 60 J) (o_t 61 J) h75 Tryz.underlying92 ty3 J J) L fun a s _ L=>st_stor (L':=[(1,(Pi i_)),(2,(Pd.rep (En.slice (En.int .u8)) w_)),(4,(Pi lo_)),(5,(Pi hi_)),(6,(Pd.ptr En.SDesc d_)),(13,(Pd.rep (En.slice (En.int .i64)) now20)),(14,(Pd.row (En.int .i64) s0.w.heap.size 3 og38 out37)),(15,(Pi t24)),(16,(Pd.row (En.int .i64) s0.w.heap.size 3 og55 next54)),(17,(Pi k56)),(18,(Pd.row (En.int .i64) s0.w.heap.size 3 og70 (r68.set (k56:Int).toNat 0)))]) (off:=0) 18 L J h75 (o_t 62 J) oI (zy _ _ _) ty3 J J J (.k 1 (.k 2 (.k 4 (.k 5 (.k 6 (.k 13 (.cons (t:=14) J (Dis.ow (Dis.symm d71)) (.k 15 (.cons (t:=16) J (Dis.ow (Dis.symm d72)) (.k 17 (.turn (t:=18) J .nil))))))))))) fun s L=>?_
      refine en' (hK73 _ _ ?_)
      obtain ⟨s77,h76,L⟩:=L.freeze (L':=[(1,(Pi i_)),(2,(Pd.rep (En.slice (En.int .u8)) w_)),(4,(Pi lo_)),(5,(Pi hi_)),(6,(Pd.ptr En.SDesc d_)),(13,(Pd.rep (En.slice (En.int .i64)) now20)),(14,(Pd.row (En.int .i64) s0.w.heap.size 3 og38 out37)),(15,(Pi t24)),(17,(Pi k56)),(18,(Pd.row (En.int .i64) s0.w.heap.size 3 og70 (r68.set (k56:Int).toNat 0)))]) 16 rfl (.cons (t:=1) rfl nE (.cons (t:=2) rfl nE (.cons (t:=4) rfl nE (.cons (t:=5) rfl nE (.cons (t:=6) rfl nE (.cons (t:=13) rfl nE (.cons (t:=14) rfl (Dis.ow d60) (.cons (t:=15) rfl nE (.cons (t:=17) rfl nE (.cons (t:=18) rfl (Dis.ow d72) .nil))))))))))
      rw [← h76]
      clear h76
      generalize s77=s at *
      obtain ⟨s79,h78,L⟩:=L.freeze (L':=[(1,(Pi i_)),(2,(Pd.rep (En.slice (En.int .u8)) w_)),(4,(Pi lo_)),(5,(Pi hi_)),(6,(Pd.ptr En.SDesc d_)),(13,(Pd.rep (En.slice (En.int .i64)) now20)),(14,(Pd.row (En.int .i64) s0.w.heap.size 3 og38 out37)),(15,(Pi t24)),(16,(Pd.rep (En.slice (En.int .i64)) next54)),(17,(Pi k56))]) 18 rfl (.cons (t:=1) rfl nE (.cons (t:=2) rfl nE (.cons (t:=4) rfl nE (.cons (t:=5) rfl nE (.cons (t:=6) rfl nE (.cons (t:=13) rfl nE (.cons (t:=14) rfl (Dis.ow (Dis.symm d71)) (.cons (t:=15) rfl nE (.cons (t:=16) rfl nE (.cons (t:=17) rfl nE .nil))))))))))
      rw [← h78]
      clear h78
      generalize s79=s at *
      obtain ⟨e80,h81,r82,h83,h⟩:=h
      refine rg (sx 63 (zb (o_t 16 J) J J) L fun a s _ L=>?_)
      refine sx 64 (zb (o_t 18 J) J J) L fun a s _ L=>sx 65 (zb (o_t 13 J) J J) L fun a s _ L=>sx 66 (zb (o_t 17 J) J J) L fun a s _ L=>sx 67 (t_idx (o_t 65 J) (o_t 66 J) h81 Tryz.underlying92 ty3 J J) L fun a s _ L=>sx 68 (zo ty3 (o_t 67 J) J J) L fun a s _ L=>?_
      have lt_d85:=L.rlt 14 rfl
      refine zcb 69 L (ref12_plus_ok h83) (xs:=[.tmp 63,.tmp 64,.tmp 68]) (.cons (o_t 63 J) (.cons (o_t 64 J) (.cons (o_t 68 J) .nil))) J J J J fun a s og84 hg_ L=>?_
      have d85:Dis og84 og38:=Dis.new hg_ lt_d85
      refine sx 16 (zd (o_t 69 J) J J) L fun a s _ L=>en' (hK63 _ _ ?_)
      obtain ⟨h86,h⟩:=h
      refine rg (sx 48 (zb (o_t 17 J) J J) L fun a s _ L=>?_)
      refine sx 49 (t_add (o_t 48 J) oI h86 J J) L fun a s _ L=>sx 17 (zd (o_t 49 J) J J) L fun a s _ L=>en' ?_
      exact hKL59 k58 a s (Nat.lt_succ_self _) ⟨r82,(k56+1),og84,L.keep (.k 1 (.k 2 (.k 4 (.k 5 (.k 6 (.k 13 (.cons (t:=14) J (fun _ _ h_=>h_) (.k 15 (.cons (t:=16) J (fun _ _ h_=>h_) (.k 17 .nil)))))))))),(Dis.symm d85),h⟩
     ·replace h:=h.2 hb_
      refine wp_skip ?_
      show K63 a s.w
      refine hK63 _ _ ?_
      obtain ⟨h87,h⟩:=h
      refine rg (sx 48 (zb (o_t 17 J) J J) L fun a s _ L=>?_)
      refine sx 49 (t_add (o_t 48 J) oI h87 J J) L fun a s _ L=>sx 17 (zd (o_t 49 J) J J) L fun a s _ L=>en' ?_
      exact hKL59 k58 a s (Nat.lt_succ_self _) ⟨next54,(k56+1),og55,L.keep (.k 1 (.k 2 (.k 4 (.k 5 (.k 6 (.k 13 (.cons (t:=14) J (fun _ _ h_=>h_) (.k 15 (.cons (t:=16) J (fun _ _ h_=>h_) (.k 17 .nil)))))))))),d60,h⟩
    ·replace h:=h.2 hb_
     refine wp_exit ?_
     exact J51 next54 og55 a s (L.keep (.k 1 (.k 2 (.k 4 (.k 5 (.k 6 (.cons (t:=14) J (fun _ _ h_=>h_) (.k 15 (.cons (t:=16) J (fun _ _ h_=>h_) .nil))))))))) d60 h
  refine cnd L J (fun hb_=>?_) (fun hb_=>?_)
  ·replace h:=h.1 hb_
   obtain ⟨s89,h88,L⟩:=L.freeze (L':=[(1,(Pi i_)),(2,(Pd.rep (En.slice (En.int .u8)) w_)),(4,(Pi lo_)),(5,(Pi hi_)),(6,(Pd.ptr En.SDesc d_)),(13,(Pd.rep (En.slice (En.int .i64)) now20)),(15,(Pi t24))]) 14 rfl (.cons (t:=1) rfl nE (.cons (t:=2) rfl nE (.cons (t:=4) rfl nE (.cons (t:=5) rfl nE (.cons (t:=6) rfl nE (.cons (t:=13) rfl nE (.cons (t:=15) rfl nE .nil)))))))
   rw [← h88]
   clear h88
   generalize s89=s at *
   obtain ⟨r90,h91,h⟩:=h
   refine rg (sx 36 (zb (o_t 14 J) J J) L fun a s _ L=>?_)
   refine sx 37 (zb (o_t 13 J) J J) L fun a s _ L=>zcb 38 L (ref12_plus_ok h91) (xs:=[.tmp 36,.tmp 37,.const (.int .i64 1)]) (.cons (o_t 36 J) (.cons (o_t 37 J) (.cons oI .nil))) J J J J fun a s og92 hg_ L=>?_
   refine sx 14 (zd (o_t 38 J) J J) L fun a s _ L=>en' ?_
   exact J39 r90 og92 a s (L.keep (.k 1 (.k 2 (.k 4 (.k 5 (.k 6 (.k 13 (.cons (t:=14) J (fun _ _ h_=>h_) (.k 15 .nil))))))))) h
  ·replace h:=h.2 hb_
   refine wp_skip ?_
   exact J39 out22 og23 a s (L.keep (.k 1 (.k 2 (.k 4 (.k 5 (.k 6 (.k 13 (.cons (t:=14) J (fun _ _ h_=>h_) (.k 15 .nil))))))))) h
 ·replace h:=h.2 hb_
  refine wp_exit ?_
  exact J18 out22 og23 a s (L.keep (.cons (t:=14) J (fun _ _ h_=>h_) .nil)) h
theorem zb8.n_ok (k_:Nat):∀{d_:SDesc} {i_:Int} {w_:(List Int)} {from_:Int} {r_:(List Int)} (h:zb8.n k_ d_ i_ w_ from_ r_),Fn Tryz.prog 68 [(Pd.rep En.SDesc d_),(Pi i_),(Pd.rep (En.slice (En.int .u8)) w_),(Pi from_)] (Ro (En.int .i64) 3 r_):=by
 induction k_ with
 | zero=>intro d_ i_ w_ from_ r_ h;exact h.elim
 | succ k_ ih_=>
 intro d_ i_ w_ from_ r_ h
 unfold zb8.n at h
 refine fn_of Tryz.func68 J Tryz.ntmps68 (by rfl) (by simp) fun s0 a L=>?_
 refine wp_seq_k fun K1 hK1=>rg (sx 4 (t_box (o_t 0 J) J J) L fun a s _ L=>?_)
 refine sx 8 (zd (o_nil (E:=(En.int .i64)) (N:=s0.w.heap.size) (te:=3)) J J) L fun a s _ L=>en' (hK1 _ _ ?_)
 refine wp_seq_k fun K2 hK2=>?_
 obtain ⟨e3,h4,h⟩:=h
 refine rg (sx 13 (t_fa (off:=0) (o_t 4 J) Tryz.underlying24 J (zcs (zj _ _)) J ty22 J J) L fun a s _ L=>?_)
 refine sx 14 (zo ty22 (o_t 13 J) J J) L fun a s _ L=>sx 15 (zb (o_t 1 J) J J) L fun a s _ L=>sx 16 (t_idx (o_t 14 J) (o_t 15 J) h4 Tryz.underlying22 ty68 J J) L fun a s _ L=>sx 17 (zo ty68 (o_t 16 J) J J) L fun a s _ L=>zbb En.SNode (z:=(0,0,0,0,0,(0#256),([]:Str))) 9 L tyz68 J J J J fun a s g5 hg_ L=>?_
 refine zca (L':=[(2,(Pd.rep (En.slice (En.int .u8)) w_)),(3,(Pi from_)),(4,(Pd.ptr En.SDesc d_))]) 9 L J (o_t 17 J) ty68 J J J (.k 2 (.k 3 (.k 4 .nil))) fun s L=>?_
 refine en' (hK2 _ _ ?_)
 refine wp_seq_k fun K6 hK6=>?_
 obtain ⟨r7,h8,h⟩:=h
 refine rg (sx 18 (zb (o_t 2 J) J J) L fun a s _ L=>?_)
 have lt_d10:=L.blt 9 rfl
 refine zcb 19 L (zeh h8) (xs:=[.tmp 18]) (.cons (o_t 18 J) .nil) J J J J fun a s og9 hg_ L=>?_
 have d10:Dis og9 (some g5):=Dis.new hg_ lt_d10
 refine sx 10 (zd (o_t 19 J) J J) L fun a s _ L=>en' (hK6 _ _ ?_)
 refine wp_seq_k fun K11 hK11=>wp_seq_k fun K12 hK12=>rg (sx 20 (t_fab (off:=0) (o_t 9 J) Tryz.underlying68 J (zn (zj _ _)) J ty3 J J) L fun a s _ L=>?_)
 refine sx 21 (zt ty3 (o_t 20 J) J J) L fun a s _ L=>en' (hK12 _ _ ?_)
 refine wp_block (wp_seq_k fun K13 hK13=>?_)
 refine rg (sx 23 (t_eqi (o_t 21 J) oI J J) L fun a s _ L=>?_)
 refine sx 22 (zd (o_t 23 J) J J) L fun a s _ L=>en' (hK13 _ _ ?_)
 refine cnd L J (fun hb_=>?_) (fun hb_=>?_)
 ·obtain ⟨e14,h15,h⟩:=h.1 hb_
  refine rg (sx 24 (zb (o_t 10 J) J J) L fun a s _ L=>?_)
  refine sx 25 (zb (o_t 3 J) J J) L fun a s _ L=>sx 26 (zbx (o_t 24 J) (o_t 25 J) h15 Tryz.underlying92 ty3 J J) L fun a s _ L=>st_stor (L':=[(10,(Pd.row (En.int .i64) s0.w.heap.size 3 og9 (r7.set (from_:Int).toNat 1)))]) (off:=0) 10 L J h15 (o_t 26 J) oI (zy _ _ _) ty3 J J J (.turn (t:=10) J .nil) fun s L=>?_
  refine en' (hK11 _ _ ?_)
  refine wp_seq_k fun K16 hK16=>rg (sx 200 (zb (o_t 10 J) J J) L fun a s _ L=>?_)
  refine sx 8 (zd (o_t 200 J) J J) L fun a s _ L=>en' (hK16 _ _ ?_)
  subst h
  exact wp_ret (reto J L J)
 ·replace h:=h.2 hb_
  refine wp_seq_k fun K17 hK17=>rg (sx 28 (t_eqi (o_t 21 J) oI J J) L fun a s _ L=>?_)
  refine sx 27 (zd (o_t 28 J) J J) L fun a s _ L=>en' (hK17 _ _ ?_)
  refine cnd L J (fun hb_=>?_) (fun hb_=>?_)
  ·replace h:=h.1 hb_
   refine wp_seq_k fun K18 hK18=>?_
   obtain ⟨e19,h20,r21,h22,h⟩:=h
   refine rda zbk 13 [(Pi from_),(Pd.rep (En.slice (En.int .u8)) w_),(Pi (w_.length:Int)),(Pd.rep En.bool (decide (from_<(w_.length:Int)))),(Pd.rep En.bool (decide (from_<(w_.length:Int)))),(Pd.when ((decide (from_<(w_.length:Int)))=true) (Pd.optr En.cls s0.w.heap.size (some g5) (5) e3.2.2.2.2.2.1)),(Pd.when ((decide (from_<(w_.length:Int)))=true) (Pd.rep En.cls e3.2.2.2.2.2.1)),(Pd.when ((decide (from_<(w_.length:Int)))=true) (Pd.rep (En.slice (En.int .u8)) w_)),(Pd.when ((decide (from_<(w_.length:Int)))=true) (Pi from_)),(Pd.when ((decide (from_<(w_.length:Int)))=true) (Pd.ptr (En.int .u8) e19)),(Pd.when ((decide (from_<(w_.length:Int)))=true) (Pd.rep (En.int .u8) e19)),(Pd.when ((decide (from_<(w_.length:Int)))=true) (Pd.rep En.bool r21)),(Pd.rep En.bool ((decide (from_<(w_.length:Int)))&&r21))] L (by kernel_rfl) J J ?_ ?_
   ·refine AllT.cons (zb (o_t 3 J) J J) ?_
    refine AllT.cons (zb (o_t 2 J) J J) (AllT.cons (t_len (o_t 30 J) Tryz.underlying26 J J) ?_)
    refine AllT.cons (t_lss (o_t 29 J) (o_t 31 J) J J) (AllT.cons (zb (o_t 32 J) J J) ?_)
    refine AllT.cons (t_g1 J J J (fun hc_=>t_fab (off:=5) (o_t 9 J) Tryz.underlying68 J (zg (zg (zg (zg (zg (zn (zj _ _)) J) J) J) J) J) J ty51 J J)) (AllT.cons (t_g1 J J J (fun hc_=>zt ty51 (o_w hc_ 34 J) J J)) ?_)
    refine AllT.cons (t_g1 J J J (fun hc_=>zb (o_t 2 J) J J)) (AllT.cons (t_g1 J J J (fun hc_=>zb (o_t 3 J) J J)) ?_)
    refine AllT.cons (t_g1 J J J (fun hc_=>t_idx (o_w hc_ 36 J) (o_w hc_ 37 J) (h20 hc_) Tryz.underlying26 ty5 J J)) (AllT.cons (t_g1 J J J (fun hc_=>zo ty5 (o_w hc_ 38 J) J J)) ?_)
    refine AllT.cons (t_g1 J J J (fun hc_=>zu (ref01_Has_ok (h22 hc_)) (xs:=[.tmp 35,.tmp 39]) (.cons (o_w hc_ 35 J) (.cons (o_w hc_ 39 J) .nil)) J J)) (AllT.cons (t_and (o_t 33 J) (fun hc2_=>(o_w hc2_ 40 J)) J J) ?_)
    exact AllT.nil
   intro a s _ L
   refine en' (hK18 _ _ ?_)
   refine cnd L J (fun hb_=>?_) (fun hb_=>?_)
   ·obtain ⟨h23,e24,h25,h⟩:=h.1 hb_
    refine rg (sx 42 (zb (o_t 10 J) J J) L fun a s _ L=>?_)
    refine sx 43 (zb (o_t 3 J) J J) L fun a s _ L=>sx 44 (t_add (o_t 43 J) oI h23 J J) L fun a s _ L=>sx 45 (zbx (o_t 42 J) (o_t 44 J) h25 Tryz.underlying92 ty3 J J) L fun a s _ L=>st_stor (L':=[(10,(Pd.row (En.int .i64) s0.w.heap.size 3 og9 (r7.set (from_+1:Int).toNat 1)))]) (off:=0) 10 L J h25 (o_t 45 J) oI (zy _ _ _) ty3 J J J (.turn (t:=10) J .nil) fun s L=>?_
    refine en' (hK11 _ _ ?_)
    refine wp_seq_k fun K26 hK26=>rg (sx 200 (zb (o_t 10 J) J J) L fun a s _ L=>?_)
    refine sx 8 (zd (o_t 200 J) J J) L fun a s _ L=>en' (hK26 _ _ ?_)
    subst h
    exact wp_ret (reto J L J)
   ·replace h:=h.2 hb_
    refine wp_skip ?_
    show K11 a s.w
    refine hK11 _ _ (wp_seq_k fun K27 hK27=>?_)
    refine rg (sx 200 (zb (o_t 10 J) J J) L fun a s _ L=>?_)
    refine sx 8 (zd (o_t 200 J) J J) L fun a s _ L=>en' (hK27 _ _ ?_)
    subst h
    exact wp_ret (reto J L J)
  ·replace h:=h.2 hb_
   refine wp_seq_k fun K28 hK28=>rg (sx 47 (t_eqi (o_t 21 J) oI J J) L fun a s _ L=>?_)
   refine sx 46 (zd (o_t 47 J) J J) L fun a s _ L=>en' (hK28 _ _ ?_)
   refine cnd L J (fun hb_=>?_) (fun hb_=>?_)
   ·replace h:=h.1 hb_
    refine wp_seq_k fun K29 hK29=>?_
    obtain ⟨h30,b31,h32,h33,h34,b35,h36,h⟩:=h
    refine rda zbk 22 [(Pi from_),(Pd.optr En.str s0.w.heap.size (some g5) (9) e3.2.2.2.2.2.2),(Pd.rep En.str e3.2.2.2.2.2.2),(Pi (e3.2.2.2.2.2.2.length:Int)),(Pi (from_+(e3.2.2.2.2.2.2.length:Int))),(Pd.rep (En.slice (En.int .u8)) w_),(Pi (w_.length:Int)),(Pd.rep En.bool b31),(Pd.rep En.bool b31),(Pd.when ((b31)=true) (Pd.rep (En.slice (En.int .u8)) w_)),(Pd.when ((b31)=true) (Pi from_)),(Pd.when ((b31)=true) (Pi from_)),(Pd.when ((b31)=true) (Pd.optr En.str s0.w.heap.size (some g5) (9) e3.2.2.2.2.2.2)),(Pd.when ((b31)=true) (Pd.rep En.str e3.2.2.2.2.2.2)),(Pd.when ((b31)=true) (Pi (e3.2.2.2.2.2.2.length:Int))),(Pd.when ((b31)=true) (Pi (from_+(e3.2.2.2.2.2.2.length:Int)))),(Pd.when ((b31)=true) (Pd.rep (En.slice (En.int .u8)) ((w_.take (from_+(e3.2.2.2.2.2.2.length:Int):Int).toNat).drop (from_:Int).toNat))),(Pd.when ((b31)=true) (Pd.rep En.str (strB ((w_.take (from_+(e3.2.2.2.2.2.2.length:Int):Int).toNat).drop (from_:Int).toNat)))),(Pd.when ((b31)=true) (Pd.optr En.str s0.w.heap.size (some g5) (9) e3.2.2.2.2.2.2)),(Pd.when ((b31)=true) (Pd.rep En.str e3.2.2.2.2.2.2)),(Pd.when ((b31)=true) (Pd.rep En.bool b35)),(Pd.rep En.bool (b31&&b35))] L (by kernel_rfl) J J ?_ ?_
    ·refine AllT.cons (zb (o_t 3 J) J J) ?_
     refine AllT.cons (t_fab (off:=9) (o_t 9 J) Tryz.underlying68 J (zg (zg (zg (zg (zg (zg (zj _ _) J) J) J) J) J) J) J ty9 J J) (AllT.cons (zt ty9 (o_t 49 J) J J) ?_)
     refine AllT.cons (t_slen (o_t 50 J) Tryz.underlying9 J J) (AllT.cons (t_add (o_t 48 J) (o_t 51 J) h30 J J) ?_)
     refine AllT.cons (zb (o_t 2 J) J J) (AllT.cons (t_len (o_t 53 J) Tryz.underlying26 J J) ?_)
     refine AllT.cons (h32 ▸ (t_leq (o_t 52 J) (o_t 54 J) J J)) (AllT.cons (zb (o_t 55 J) J J) ?_)
     refine AllT.cons (t_g1 J J J (fun hc_=>zb (o_t 2 J) J J)) (AllT.cons (t_g1 J J J (fun hc_=>zb (o_t 3 J) J J)) ?_)
     refine AllT.cons (t_g1 J J J (fun hc_=>zb (o_t 3 J) J J)) (AllT.cons (t_g1 J J J (fun hc_=>t_fab (off:=9) (o_t 9 J) Tryz.underlying68 J (zg (zg (zg (zg (zg (zg (zj _ _) J) J) J) J) J) J) J ty9 J J)) ?_)
     refine AllT.cons (t_g1 J J J (fun hc_=>zt ty9 (o_w hc_ 60 J) J J)) (AllT.cons (t_g1 J J J (fun hc_=>t_slen (o_w hc_ 61 J) Tryz.underlying9 J J)) ?_)
     refine AllT.cons (t_g1 J J J (fun hc_=>t_add (o_w hc_ 59 J) (o_w hc_ 62 J) (h33 hc_) J J)) (AllT.cons (t_g1 J J J (fun hc_=>t_part (o_w hc_ 57 J) (o_w hc_ 58 J) (o_w hc_ 63 J) (h34 hc_) Tryz.underlying26 ty5 J J)) ?_)
     refine AllT.cons (t_g1 J J J (fun hc_=>t_bstr (o_w hc_ 64 J) Tryz.underlying26 Tryz.underlying5 Tryz.underlying9 J J)) (AllT.cons (t_g1 J J J (fun hc_=>t_fab (off:=9) (o_t 9 J) Tryz.underlying68 J (zg (zg (zg (zg (zg (zg (zj _ _) J) J) J) J) J) J) J ty9 J J)) ?_)
     refine AllT.cons (t_g1 J J J (fun hc_=>zt ty9 (o_w hc_ 66 J) J J)) (AllT.cons (h36 ▸ (t_g1 J J J (fun hc_=>t_eqv eqv_str (o_w hc_ 65 J) (o_w hc_ 67 J) J J))) ?_)
     refine AllT.cons (t_and (o_t 56 J) (fun hc2_=>(o_w hc2_ 68 J)) J J) ?_
     exact AllT.nil
    intro a s _ L
    refine en' (hK29 _ _ ?_)
    refine cnd L J (fun hb_=>?_) (fun hb_=>?_)
    ·obtain ⟨h37,e38,h39,h⟩:=h.1 hb_
     refine rg (sx 70 (zb (o_t 10 J) J J) L fun a s _ L=>?_)
     refine sx 71 (zb (o_t 3 J) J J) L fun a s _ L=>sx 72 (t_fab (off:=9) (o_t 9 J) Tryz.underlying68 J (zg (zg (zg (zg (zg (zg (zj _ _) J) J) J) J) J) J) J ty9 J J) L fun a s _ L=>sx 73 (zt ty9 (o_t 72 J) J J) L fun a s _ L=>sx 74 (t_slen (o_t 73 J) Tryz.underlying9 J J) L fun a s _ L=>sx 75 (t_add (o_t 71 J) (o_t 74 J) h37 J J) L fun a s _ L=>sx 76 (zbx (o_t 70 J) (o_t 75 J) h39 Tryz.underlying92 ty3 J J) L fun a s _ L=>st_stor (L':=[(10,(Pd.row (En.int .i64) s0.w.heap.size 3 og9 (r7.set (from_+(e3.2.2.2.2.2.2.length:Int):Int).toNat 1)))]) (off:=0) 10 L J h39 (o_t 76 J) oI (zy _ _ _) ty3 J J J (.turn (t:=10) J .nil) fun s L=>?_
     refine en' (hK11 _ _ ?_)
     refine wp_seq_k fun K40 hK40=>rg (sx 200 (zb (o_t 10 J) J J) L fun a s _ L=>?_)
     refine sx 8 (zd (o_t 200 J) J J) L fun a s _ L=>en' (hK40 _ _ ?_)
     subst h
     exact wp_ret (reto J L J)
    ·replace h:=h.2 hb_
     refine wp_skip ?_
     show K11 a s.w
     refine hK11 _ _ (wp_seq_k fun K41 hK41=>?_)
     refine rg (sx 200 (zb (o_t 10 J) J J) L fun a s _ L=>?_)
     refine sx 8 (zd (o_t 200 J) J J) L fun a s _ L=>en' (hK41 _ _ ?_)
     subst h
     exact wp_ret (reto J L J)
   ·replace h:=h.2 hb_
    refine wp_seq_k fun K42 hK42=>rg (sx 78 (t_eqi (o_t 21 J) oI J J) L fun a s _ L=>?_)
    refine sx 77 (zd (o_t 78 J) J J) L fun a s _ L=>en' (hK42 _ _ ?_)
    refine cnd L J (fun hb_=>?_) (fun hb_=>?_)
    ·replace h:=h.1 hb_
     refine wp_seq_k fun K43 hK43=>?_
     obtain ⟨r44,h45,r46,h47,h⟩:=h
     refine rda zbk 10 [(Pd.rep En.SDesc d_),(Pd.optr (En.int .i64) s0.w.heap.size (some g5) (2) e3.2.2.1),(Pi e3.2.2.1),(Pd.rep (En.slice (En.int .u8)) w_),(Pd.rep En.SDesc d_),(Pd.optr (En.int .i64) s0.w.heap.size (some g5) (1) e3.2.1),(Pi e3.2.1),(Pd.rep (En.slice (En.int .u8)) w_),(Pi from_),(Pd.rep (En.slice (En.int .i64)) r44)] L (by kernel_rfl) J J ?_ ?_
     ·refine AllT.cons (zo ty24 (o_t 4 J) J J) ?_
      refine AllT.cons (t_fab (off:=2) (o_t 9 J) Tryz.underlying68 J (zg (zg (zn (zj _ _)) J) J) J ty3 J J) (AllT.cons (zt ty3 (o_t 80 J) J J) ?_)
      refine AllT.cons (zb (o_t 2 J) J J) (AllT.cons (zo ty24 (o_t 4 J) J J) ?_)
      refine AllT.cons (t_fab (off:=1) (o_t 9 J) Tryz.underlying68 J (zg (zn (zj _ _)) J) J ty3 J J) (AllT.cons (zt ty3 (o_t 84 J) J J) ?_)
      refine AllT.cons (zb (o_t 2 J) J J) (AllT.cons (zb (o_t 3 J) J J) ?_)
      refine AllT.cons (zu ((ih_ h45).frz) (xs:=[.tmp 83,.tmp 85,.tmp 86,.tmp 87]) (.cons (o_t 83 J) (.cons (o_t 85 J) (.cons (o_t 86 J) (.cons (o_t 87 J) .nil)))) J J) ?_
      exact AllT.nil
     intro a s _ L
     have lt_d50:=L.rlt 19 rfl
     have lt_d49:=L.blt 9 rfl
     refine zcb 89 L (ref12_through.b_ok ih_ h47) (xs:=[.tmp 79,.tmp 81,.tmp 82,.tmp 88]) (.cons (o_t 79 J) (.cons (o_t 81 J) (.cons (o_t 82 J) (.cons (o_t 88 J) .nil)))) J J J J fun a s og48 hg_ L=>?_
     have d49:Dis og48 (some g5):=Dis.new hg_ lt_d49
     have d50:Dis og48 og9:=Dis.new hg_ lt_d50
     refine sx 8 (zd (o_t 89 J) J J) L fun a s _ L=>en' (hK43 _ _ ?_)
     subst h
     exact wp_ret (reto J L J)
    ·replace h:=h.2 hb_
     refine wp_seq_k fun K51 hK51=>rg (sx 91 (t_eqi (o_t 21 J) oI J J) L fun a s _ L=>?_)
     refine sx 90 (zd (o_t 91 J) J J) L fun a s _ L=>en' (hK51 _ _ ?_)
     refine cnd L J (fun hb_=>?_) (fun hb_=>?_)
     ·replace h:=h.1 hb_
      refine wp_seq_k fun K52 hK52=>?_
      obtain ⟨r53,h54,r55,h56,r57,h58,h⟩:=h
      refine rda zbk 12 [(Pd.rep En.SDesc d_),(Pd.optr (En.int .i64) s0.w.heap.size (some g5) (1) e3.2.1),(Pi e3.2.1),(Pd.rep (En.slice (En.int .u8)) w_),(Pi from_),(Pd.rep (En.slice (En.int .i64)) r53),(Pd.rep En.SDesc d_),(Pd.optr (En.int .i64) s0.w.heap.size (some g5) (2) e3.2.2.1),(Pi e3.2.2.1),(Pd.rep (En.slice (En.int .u8)) w_),(Pi from_),(Pd.rep (En.slice (En.int .i64)) r55)] L (by kernel_rfl) J J ?_ ?_
      ·refine AllT.cons (zo ty24 (o_t 4 J) J J) ?_
       refine AllT.cons (t_fab (off:=1) (o_t 9 J) Tryz.underlying68 J (zg (zn (zj _ _)) J) J ty3 J J) (AllT.cons (zt ty3 (o_t 93 J) J J) ?_)
       refine AllT.cons (zb (o_t 2 J) J J) (AllT.cons (zb (o_t 3 J) J J) ?_)
       refine AllT.cons (zu ((ih_ h54).frz) (xs:=[.tmp 92,.tmp 94,.tmp 95,.tmp 96]) (.cons (o_t 92 J) (.cons (o_t 94 J) (.cons (o_t 95 J) (.cons (o_t 96 J) .nil)))) J J) (AllT.cons (zo ty24 (o_t 4 J) J J) ?_)
       refine AllT.cons (t_fab (off:=2) (o_t 9 J) Tryz.underlying68 J (zg (zg (zn (zj _ _)) J) J) J ty3 J J) (AllT.cons (zt ty3 (o_t 99 J) J J) ?_)
       refine AllT.cons (zb (o_t 2 J) J J) (AllT.cons (zb (o_t 3 J) J J) ?_)
       refine AllT.cons (zu ((ih_ h56).frz) (xs:=[.tmp 98,.tmp 100,.tmp 101,.tmp 102]) (.cons (o_t 98 J) (.cons (o_t 100 J) (.cons (o_t 101 J) (.cons (o_t 102 J) .nil)))) J J) ?_
       exact AllT.nil
      intro a s _ L
      have lt_d61:=L.rlt 19 rfl
      have lt_d60:=L.blt 9 rfl
      refine zcb 104 L (ref12_plus_ok h58) (xs:=[.tmp 97,.tmp 103,.const (.int .i64 1)]) (.cons (o_t 97 J) (.cons (o_t 103 J) (.cons oI .nil))) J J J J fun a s og59 hg_ L=>?_
      have d60:Dis og59 (some g5):=Dis.new hg_ lt_d60
      have d61:Dis og59 og9:=Dis.new hg_ lt_d61
      refine sx 8 (zd (o_t 104 J) J J) L fun a s _ L=>en' (hK52 _ _ ?_)
      subst h
      exact wp_ret (reto J L J)
     ·replace h:=h.2 hb_
      refine wp_seq_k fun K62 hK62=>rg (sx 106 (t_eqi (o_t 21 J) oI J J) L fun a s _ L=>?_)
      refine sx 105 (zd (o_t 106 J) J J) L fun a s _ L=>en' (hK62 _ _ ?_)
      refine cnd L J (fun hb_=>?_) (fun hb_=>?_)
      ·replace h:=h.1 hb_
       refine wp_seq_k fun K63 hK63=>?_
       obtain ⟨r64,h65,h⟩:=h
       refine rg (sx 107 (zo ty24 (o_t 4 J) J J) L fun a s _ L=>?_)
       refine sx 108 (t_fab (off:=1) (o_t 9 J) Tryz.underlying68 J (zg (zn (zj _ _)) J) J ty3 J J) L fun a s _ L=>sx 109 (zt ty3 (o_t 108 J) J J) L fun a s _ L=>sx 110 (zb (o_t 2 J) J J) L fun a s _ L=>sx 111 (zb (o_t 3 J) J J) L fun a s _ L=>?_
       have lt_d68:=L.rlt 19 rfl
       have lt_d67:=L.blt 9 rfl
       refine zcb 112 L (ref12_times.b_ok ih_ h65) (xs:=[.tmp 107,.tmp 109,.tmp 110,.tmp 111,.const (.int .i64 0),.const (.int .i64 (-1))]) (.cons (o_t 107 J) (.cons (o_t 109 J) (.cons (o_t 110 J) (.cons (o_t 111 J) (.cons oI (.cons oI .nil)))))) J J J J fun a s og66 hg_ L=>?_
       have d67:Dis og66 (some g5):=Dis.new hg_ lt_d67
       have d68:Dis og66 og9:=Dis.new hg_ lt_d68
       refine sx 8 (zd (o_t 112 J) J J) L fun a s _ L=>en' (hK63 _ _ ?_)
       subst h
       exact wp_ret (reto J L J)
      ·replace h:=h.2 hb_
       refine wp_seq_k fun K69 hK69=>rg (sx 114 (t_eqi (o_t 21 J) oI J J) L fun a s _ L=>?_)
       refine sx 113 (zd (o_t 114 J) J J) L fun a s _ L=>en' (hK69 _ _ ?_)
       refine cnd L J (fun hb_=>?_) (fun hb_=>?_)
       ·replace h:=h.1 hb_
        refine wp_seq_k fun K70 hK70=>?_
        obtain ⟨r71,h72,h⟩:=h
        refine rg (sx 115 (zo ty24 (o_t 4 J) J J) L fun a s _ L=>?_)
        refine sx 116 (t_fab (off:=1) (o_t 9 J) Tryz.underlying68 J (zg (zn (zj _ _)) J) J ty3 J J) L fun a s _ L=>sx 117 (zt ty3 (o_t 116 J) J J) L fun a s _ L=>sx 118 (zb (o_t 2 J) J J) L fun a s _ L=>sx 119 (zb (o_t 3 J) J J) L fun a s _ L=>sx 120 (t_fab (off:=3) (o_t 9 J) Tryz.underlying68 J (zg (zg (zg (zn (zj _ _)) J) J) J) J ty3 J J) L fun a s _ L=>sx 121 (zt ty3 (o_t 120 J) J J) L fun a s _ L=>sx 122 (t_fab (off:=4) (o_t 9 J) Tryz.underlying68 J (zg (zg (zg (zg (zn (zj _ _)) J) J) J) J) J ty3 J J) L fun a s _ L=>sx 123 (zt ty3 (o_t 122 J) J J) L fun a s _ L=>?_
        have lt_d75:=L.rlt 19 rfl
        have lt_d74:=L.blt 9 rfl
        refine zcb 124 L (ref12_times.b_ok ih_ h72) (xs:=[.tmp 115,.tmp 117,.tmp 118,.tmp 119,.tmp 121,.tmp 123]) (.cons (o_t 115 J) (.cons (o_t 117 J) (.cons (o_t 118 J) (.cons (o_t 119 J) (.cons (o_t 121 J) (.cons (o_t 123 J) .nil)))))) J J J J fun a s og73 hg_ L=>?_
        have d74:Dis og73 (some g5):=Dis.new hg_ lt_d74
        have d75:Dis og73 og9:=Dis.new hg_ lt_d75
        refine sx 8 (zd (o_t 124 J) J J) L fun a s _ L=>en' (hK70 _ _ ?_)
        subst h
        exact wp_ret (reto J L J)
       ·replace h:=h.2 hb_
        refine wp_seq_k fun K76 hK76=>rg (sx 126 (t_eqi (o_t 21 J) oI J J) L fun a s _ L=>?_)
        refine sx 125 (zd (o_t 126 J) J J) L fun a s _ L=>en' (hK76 _ _ ?_)
        refine cnd L J (fun hb_=>?_) (fun hb_=>?_)
        ·replace h:=h.1 hb_
         refine wp_seq_k fun K77 hK77=>rg (sx 127 (zb (o_t 3 J) J J) L fun a s _ L=>?_)
         refine sx 128 (zb (o_t 2 J) J J) L fun a s _ L=>sx 129 (t_len (o_t 128 J) Tryz.underlying26 J J) L fun a s _ L=>sx 130 (t_lss (o_t 127 J) (o_t 129 J) J J) L fun a s _ L=>en' (hK77 _ _ ?_)
         refine cnd L J (fun hb_=>?_) (fun hb_=>?_)
         ·replace h:=h.1 hb_
          refine wp_seq_k fun K78 hK78=>?_
          obtain ⟨h79,e80,h81,h82,h⟩:=h
          refine rg (sx 131 (zb (o_t 3 J) J J) L fun a s _ L=>?_)
          refine sx 132 (t_add (o_t 131 J) oI h79 J J) L fun a s _ L=>sx 133 (zb (o_t 2 J) J J) L fun a s _ L=>sx 134 (zb (o_t 3 J) J J) L fun a s _ L=>sx 135 (t_idx (o_t 133 J) (o_t 134 J) h81 Tryz.underlying26 ty5 J J) L fun a s _ L=>sx 136 (zo ty5 (o_t 135 J) J J) L fun a s _ L=>sx 137 (t_up (o_t 136 J) (by decide) Tryz.underlying5 Tryz.underlying3 J J) L fun a s _ L=>sx 138 (t_add (o_t 132 J) (o_t 137 J) h82 J J) L fun a s _ L=>sx 11 (zd (o_t 138 J) J J) L fun a s _ L=>en' (hK78 _ _ ?_)
          refine wp_seq_k fun K83 hK83=>rg (sx 139 (zb (o_t 11 J) J J) L fun a s _ L=>?_)
          refine sx 140 (zb (o_t 2 J) J J) L fun a s _ L=>sx 141 (t_len (o_t 140 J) Tryz.underlying26 J J) L fun a s _ L=>sx 142 (t_leq (o_t 139 J) (o_t 141 J) J J) L fun a s _ L=>en' (hK83 _ _ ?_)
          refine cnd L J (fun hb_=>?_) (fun hb_=>?_)
          ·obtain ⟨h84,h85,r86,h87,e88,h89,e90,h91,h⟩:=h.1 hb_
           refine rda zbk 15 [(Pd.row (En.int .i64) s0.w.heap.size 3 og9 r7),(Pi ((from_+1)+e80)),(Pd.rep En.SDesc d_),(Pd.optr (En.int .i64) s0.w.heap.size (some g5) (1) e3.2.1),(Pi e3.2.1),(Pd.rep (En.slice (En.int .u8)) w_),(Pi ((from_+1)+e80)),(Pd.rep (En.slice (En.int .u8)) (w_.take ((from_+1)+e80:Int).toNat)),(Pi from_),(Pi (from_+1)),(Pd.rep (En.slice (En.int .i64)) r86),(Pi ((from_+1)+e80)),(Pd.ptr (En.int .i64) e88),(Pi e88),(Pd.optr (En.int .i64) s0.w.heap.size og9 (((from_+1)+e80:Int).toNat*(En.int .i64).sz) e90)] L (by kernel_rfl) J J ?_ ?_
           ·refine AllT.cons (zb (o_t 10 J) J J) ?_
            refine AllT.cons (zb (o_t 11 J) J J) (AllT.cons (zo ty24 (o_t 4 J) J J) ?_)
            refine AllT.cons (t_fab (off:=1) (o_t 9 J) Tryz.underlying68 J (zg (zn (zj _ _)) J) J ty3 J J) (AllT.cons (zt ty3 (o_t 146 J) J J) ?_)
            refine AllT.cons (zb (o_t 2 J) J J) (AllT.cons (zb (o_t 11 J) J J) ?_)
            refine AllT.cons (t_upto (o_t 148 J) (o_t 149 J) h84 Tryz.underlying26 ty5 J J) (AllT.cons (zb (o_t 3 J) J J) ?_)
            refine AllT.cons (t_add (o_t 151 J) oI h85 J J) (AllT.cons (zu ((ih_ h87).frz) (xs:=[.tmp 145,.tmp 147,.tmp 150,.tmp 152]) (.cons (o_t 145 J) (.cons (o_t 147 J) (.cons (o_t 150 J) (.cons (o_t 152 J) .nil)))) J J) ?_)
            refine AllT.cons (zb (o_t 11 J) J J) (AllT.cons (t_idx (o_t 153 J) (o_t 154 J) h89 Tryz.underlying92 ty3 J J) ?_)
            refine AllT.cons (zo ty3 (o_t 155 J) J J) (AllT.cons (zbx (o_t 143 J) (o_t 144 J) h91 Tryz.underlying92 ty3 J J) ?_)
            exact AllT.nil
           intro a s _ L
           refine st_stor (L':=[(10,(Pd.row (En.int .i64) s0.w.heap.size 3 og9 (r7.set ((from_+1)+e80:Int).toNat e88)))]) (off:=0) 10 L J h91 (o_t 157 J) (o_t 156 J) (zy _ _ _) ty3 J J J (.turn (t:=10) J .nil) fun s L=>?_
           refine en' (hK11 _ _ ?_)
           refine wp_seq_k fun K92 hK92=>rg (sx 200 (zb (o_t 10 J) J J) L fun a s _ L=>?_)
           refine sx 8 (zd (o_t 200 J) J J) L fun a s _ L=>en' (hK92 _ _ ?_)
           subst h
           exact wp_ret (reto J L J)
          ·replace h:=h.2 hb_
           refine wp_skip ?_
           show K11 a s.w
           refine hK11 _ _ (wp_seq_k fun K93 hK93=>?_)
           refine rg (sx 200 (zb (o_t 10 J) J J) L fun a s _ L=>?_)
           refine sx 8 (zd (o_t 200 J) J J) L fun a s _ L=>en' (hK93 _ _ ?_)
           subst h
           exact wp_ret (reto J L J)
         ·replace h:=h.2 hb_
          refine wp_skip ?_
          show K11 a s.w
          refine hK11 _ _ (wp_seq_k fun K94 hK94=>?_)
          refine rg (sx 200 (zb (o_t 10 J) J J) L fun a s _ L=>?_)
          refine sx 8 (zd (o_t 200 J) J J) L fun a s _ L=>en' (hK94 _ _ ?_)
          subst h
          exact wp_ret (reto J L J)
        ·replace h:=h.2 hb_
         refine wp_seq_k fun K95 hK95=>rg (sx 159 (t_eqi (o_t 21 J) oI J J) L fun a s _ L=>?_)
         refine sx 158 (zd (o_t 159 J) J J) L fun a s _ L=>en' (hK95 _ _ ?_)
         refine cnd L J (fun hb_=>?_) (fun hb_=>?_)
         ·replace h:=h.1 hb_
          refine wp_seq_k fun K96 hK96=>?_
          obtain ⟨h97,h⟩:=h
          refine rg (sx 160 (zb (o_t 3 J) J J) L fun a s _ L=>?_)
          refine sx 161 (t_add (o_t 160 J) oI h97 J J) L fun a s _ L=>sx 162 (zb (o_t 2 J) J J) L fun a s _ L=>sx 163 (t_len (o_t 162 J) Tryz.underlying26 J J) L fun a s _ L=>sx 164 (t_lss (o_t 161 J) (o_t 163 J) J J) L fun a s _ L=>en' (hK96 _ _ ?_)
          refine cnd L J (fun hb_=>?_) (fun hb_=>?_)
          ·replace h:=h.1 hb_
           refine wp_seq_k fun K98 hK98=>?_
           obtain ⟨h99,e100,h101,h102,h103,h104,e105,h106,h107,h⟩:=h
           refine rda zbk 16 [(Pi from_),(Pi (from_+2)),(Pd.rep (En.slice (En.int .u8)) w_),(Pi from_),(Pd.ptr (En.int .u8) e100),(Pd.rep (En.int .u8) e100),(Pi e100),(Pi (256*e100)),(Pi ((from_+2)+(256*e100))),(Pd.rep (En.slice (En.int .u8)) w_),(Pi from_),(Pi (from_+1)),(Pd.ptr (En.int .u8) e105),(Pd.rep (En.int .u8) e105),(Pi e105),(Pi (((from_+2)+(256*e100))+e105))] L (by kernel_rfl) J J ?_ ?_
           ·refine AllT.cons (zb (o_t 3 J) J J) ?_
            refine AllT.cons (t_add (o_t 165 J) oI h99 J J) (AllT.cons (zb (o_t 2 J) J J) ?_)
            refine AllT.cons (zb (o_t 3 J) J J) (AllT.cons (t_idx (o_t 167 J) (o_t 168 J) h101 Tryz.underlying26 ty5 J J) ?_)
            refine AllT.cons (zo ty5 (o_t 169 J) J J) (AllT.cons (t_up (o_t 170 J) (by decide) Tryz.underlying5 Tryz.underlying3 J J) ?_)
            refine AllT.cons (t_mul oI (o_t 171 J) h102 J J) (AllT.cons (t_add (o_t 166 J) (o_t 172 J) h103 J J) ?_)
            refine AllT.cons (zb (o_t 2 J) J J) (AllT.cons (zb (o_t 3 J) J J) ?_)
            refine AllT.cons (t_add (o_t 175 J) oI h104 J J) (AllT.cons (t_idx (o_t 174 J) (o_t 176 J) h106 Tryz.underlying26 ty5 J J) ?_)
            refine AllT.cons (zo ty5 (o_t 177 J) J J) (AllT.cons (t_up (o_t 178 J) (by decide) Tryz.underlying5 Tryz.underlying3 J J) ?_)
            refine AllT.cons (t_add (o_t 173 J) (o_t 179 J) h107 J J) ?_
            exact AllT.nil
           intro a s _ L
           refine sx 12 (zd (o_t 180 J) J J) L fun a s _ L=>en' (hK98 _ _ ?_)
           refine wp_seq_k fun K108 hK108=>?_
           obtain ⟨b109,h110,h⟩:=h
           refine rg (sx 181 (zb (o_t 12 J) J J) L fun a s _ L=>?_)
           refine sx 182 (zb (o_t 2 J) J J) L fun a s _ L=>sx 183 (t_len (o_t 182 J) Tryz.underlying26 J J) L fun a s _ L=>sx 184 (h110 ▸ (t_leq (o_t 181 J) (o_t 183 J) J J)) L fun a s _ L=>en' (hK108 _ _ ?_)
           refine cnd L J (fun hb_=>?_) (fun hb_=>?_)
           ·obtain ⟨h111,h112,r113,h114,e115,h116,e117,h118,h⟩:=h.1 hb_
            refine rda zbk 15 [(Pd.row (En.int .i64) s0.w.heap.size 3 og9 r7),(Pi (((from_+2)+(256*e100))+e105)),(Pd.rep En.SDesc d_),(Pd.optr (En.int .i64) s0.w.heap.size (some g5) (1) e3.2.1),(Pi e3.2.1),(Pd.rep (En.slice (En.int .u8)) w_),(Pi (((from_+2)+(256*e100))+e105)),(Pd.rep (En.slice (En.int .u8)) (w_.take (((from_+2)+(256*e100))+e105:Int).toNat)),(Pi from_),(Pi (from_+2)),(Pd.rep (En.slice (En.int .i64)) r113),(Pi (((from_+2)+(256*e100))+e105)),(Pd.ptr (En.int .i64) e115),(Pi e115),(Pd.optr (En.int .i64) s0.w.heap.size og9 ((((from_+2)+(256*e100))+e105:Int).toNat*(En.int .i64).sz) e117)] L (by kernel_rfl) J J ?_ ?_
            ·refine AllT.cons (zb (o_t 10 J) J J) ?_
             refine AllT.cons (zb (o_t 12 J) J J) (AllT.cons (zo ty24 (o_t 4 J) J J) ?_)
             refine AllT.cons (t_fab (off:=1) (o_t 9 J) Tryz.underlying68 J (zg (zn (zj _ _)) J) J ty3 J J) (AllT.cons (zt ty3 (o_t 188 J) J J) ?_)
             refine AllT.cons (zb (o_t 2 J) J J) (AllT.cons (zb (o_t 12 J) J J) ?_)
             refine AllT.cons (t_upto (o_t 190 J) (o_t 191 J) h111 Tryz.underlying26 ty5 J J) (AllT.cons (zb (o_t 3 J) J J) ?_)
             refine AllT.cons (t_add (o_t 193 J) oI h112 J J) (AllT.cons (zu ((ih_ h114).frz) (xs:=[.tmp 187,.tmp 189,.tmp 192,.tmp 194]) (.cons (o_t 187 J) (.cons (o_t 189 J) (.cons (o_t 192 J) (.cons (o_t 194 J) .nil)))) J J) ?_)
             refine AllT.cons (zb (o_t 12 J) J J) (AllT.cons (t_idx (o_t 195 J) (o_t 196 J) h116 Tryz.underlying92 ty3 J J) ?_)
             refine AllT.cons (zo ty3 (o_t 197 J) J J) (AllT.cons (zbx (o_t 185 J) (o_t 186 J) h118 Tryz.underlying92 ty3 J J) ?_)
             exact AllT.nil
            intro a s _ L
            refine st_stor (L':=[(10,(Pd.row (En.int .i64) s0.w.heap.size 3 og9 (r7.set (((from_+2)+(256*e100))+e105:Int).toNat e115)))]) (off:=0) 10 L J h118 (o_t 199 J) (o_t 198 J) (zy _ _ _) ty3 J J J (.turn (t:=10) J .nil) fun s L=>?_
            refine en' (hK11 _ _ ?_)
            refine wp_seq_k fun K119 hK119=>rg (sx 200 (zb (o_t 10 J) J J) L fun a s _ L=>?_)
            refine sx 8 (zd (o_t 200 J) J J) L fun a s _ L=>en' (hK119 _ _ ?_)
            subst h
            exact wp_ret (reto J L J)
           ·replace h:=h.2 hb_
            refine wp_skip ?_
            show K11 a s.w
            refine hK11 _ _ (wp_seq_k fun K120 hK120=>?_)
            refine rg (sx 200 (zb (o_t 10 J) J J) L fun a s _ L=>?_)
            refine sx 8 (zd (o_t 200 J) J J) L fun a s _ L=>en' (hK120 _ _ ?_)
            subst h
            exact wp_ret (reto J L J)
          ·replace h:=h.2 hb_
           refine wp_skip ?_
           show K11 a s.w
           refine hK11 _ _ (wp_seq_k fun K121 hK121=>?_)
           refine rg (sx 200 (zb (o_t 10 J) J J) L fun a s _ L=>?_)
           refine sx 8 (zd (o_t 200 J) J J) L fun a s _ L=>en' (hK121 _ _ ?_)
           subst h
           exact wp_ret (reto J L J)
         ·replace h:=h.2 hb_
          refine wp_skip ?_
          show K11 a s.w
          refine hK11 _ _ (wp_seq_k fun K122 hK122=>?_)
          refine rg (sx 200 (zb (o_t 10 J) J J) L fun a s _ L=>?_)
          refine sx 8 (zd (o_t 200 J) J J) L fun a s _ L=>en' (hK122 _ _ ?_)
          subst h
          exact wp_ret (reto J L J)
theorem ref12_ends_ok {d_:SDesc} {i_:Int} {w_:(List Int)} {from_:Int} {r_:(List Int)} (h:zb8 d_ i_ w_ from_ r_):Fn Tryz.prog 68 [(Pd.rep En.SDesc d_),(Pi i_),(Pd.rep (En.slice (En.int .u8)) w_),(Pi from_)] (Ro (En.int .i64) 3 r_):=by
 obtain ⟨k_,h⟩:=h
 exact zb8.n_ok k_ h
theorem ref12_Ways_ok {d_:SDesc} {w_:(List Int)} {r_:Int} (h:ref12_Ways d_ w_ r_):Fn Tryz.prog 34 [(Pd.rep En.SDesc d_),(Pd.rep (En.slice (En.int .u8)) w_)] (Rq (Pi r_)):=by
 unfold ref12_Ways at h
 refine fn_of Tryz.func34 J Tryz.ntmps34 (by rfl) (by simp) fun s0 a L=>?_
 refine wp_seq_k fun K1 hK1=>rg (sx 2 (t_box (o_t 0 J) J J) L fun a s _ L=>?_)
 refine sx 4 (zd oI J J) L fun a s _ L=>en' (hK1 _ _ ?_)
 refine wp_seq_k fun K2 hK2=>?_
 obtain ⟨h3,r4,h5,e6,h7,h⟩:=h
 refine rg (sx 5 (zo ty24 (o_t 2 J) J J) L fun a s _ L=>?_)
 refine sx 6 (t_fa (off:=0) (o_t 2 J) Tryz.underlying24 J (zcs (zj _ _)) J ty22 J J) L fun a s _ L=>sx 7 (zo ty22 (o_t 6 J) J J) L fun a s _ L=>sx 8 (t_len (o_t 7 J) Tryz.underlying22 J J) L fun a s _ L=>sx 9 (t_sub (o_t 8 J) oI h3 J J) L fun a s _ L=>sx 10 (zb (o_t 1 J) J J) L fun a s _ L=>sx 11 (zu ((ref12_ends_ok h5).frz) (xs:=[.tmp 5,.tmp 9,.tmp 10,.const (.int .i64 0)]) (.cons (o_t 5 J) (.cons (o_t 9 J) (.cons (o_t 10 J) (.cons oI .nil)))) J J) L fun a s _ L=>sx 12 (zb (o_t 1 J) J J) L fun a s _ L=>sx 13 (t_len (o_t 12 J) Tryz.underlying26 J J) L fun a s _ L=>sx 14 (t_idx (o_t 11 J) (o_t 13 J) h7 Tryz.underlying92 ty3 J J) L fun a s _ L=>?_
 refine sx 15 (zo ty3 (o_t 14 J) J J) L fun a s _ L=>sx 4 (zd (o_t 15 J) J J) L fun a s _ L=>en' (hK2 _ _ ?_)
 subst h
 exact wp_ret (retq J L J)
def zdb (x_:SItem) (y_:SItem) (r_:Int):Prop:=∃r3:Int,zcr x_.1 y_.1 r3∧∃r5:Int,zcr x_.2.1 y_.2.1 r5∧∃r7:Int,zcr x_.2.2.1 y_.2.2.1 r7∧∃r9:Int,zcr x_.2.2.2 y_.2.2.2 r9∧∃r11:Int,zcl [r3,r5,r7,r9] r11∧r_=r11
def item_Compare (a_:(List SItem)) (b_:(List SItem)) (r_:Int):Prop:=∃r4:Int,zcr (a_.length:Int) (b_.length:Int) r4∧(((r4 != 0))=true→r_=r4)∧(((r4 != 0))=false→∃r9:Int,zh a_ b_ (fun q_=>zdb q_.1 q_.2.1 q_.2.2) r9∧r_=r9)
def zch.j1 (r_:((List SItem) × Bool)) (out8:(List SItem)):Prop:=r_=(out8,true)
def zch.l1 (r3:(List SItem)) (r_:((List SItem) × Bool)) (X1:(List SItem)→Prop):Nat→(List SItem)→Int→Prop
 | 0,_,_=>False
 | k_0+1,out12,v14=>((decide (v14<(r3.length:Int)))=true→∃e22:SItem,at? out12 v14=some e22∧(((e22.1 != 5))=true→(InR .i64 (v14+1))∧zch.l1 r3 r_ X1 k_0 out12 (v14+1))∧(((e22.1 != 5))=false→((decide (e22.2.2.1≤0))=true→r_=(([]:(List SItem)),false))∧((decide (e22.2.2.1≤0))=false→∃e32:SItem,at? out12 v14=some e32∧(InR .i64 (e32.2.2.1-1))∧∃e35:SItem,at? out12 v14=some e35∧(InR .i64 (v14+1))∧zch.l1 r3 r_ X1 k_0 (out12.set (v14:Int).toNat (e35.1,e35.2.1,e32.2.2.1-1,e35.2.2.2)) (v14+1))))∧((decide (v14<(r3.length:Int)))=false→X1 out12)
def zch (s_:(List SItem)) (r_:((List SItem) × Bool)):Prop:=∃r3:(List SItem),zby s_ r3∧∃k15,zch.l1 r3 r_ (zch.j1 r_) k15 r3 0
def item_Start (d_:SDesc) (r_:(List SItem)):Prop:=(InR .i64 ((d_.length:Int)-1))∧r_=[(1,(d_.length:Int)-1,0,0)]
def zbm.j1 (r_:(List Int)) (out6:(List Int)):Prop:=r_=out6
def zbm.l1 (s_:(List SItem)) (X1:(List Int)→Prop):Nat→(List Int)→Int→Prop
 | 0,_,_=>False
 | k_0+1,out10,i12=>((decide (i12<(s_.length:Int)))=true→∃e19:SItem,at? s_ i12=some e19∧∃e21:SItem,at? s_ i12=some e21∧∃e23:SItem,at? s_ i12=some e23∧∃e25:SItem,at? s_ i12=some e25∧(out10.length+[e19.1,e21.2.1,e23.2.2.1,e25.2.2.2].length≤2147483648)∧(InR .i64 (i12+1))∧zbm.l1 s_ X1 k_0 (out10++[e19.1,e21.2.1,e23.2.2.1,e25.2.2.2]) (i12+1))∧((decide (i12<(s_.length:Int)))=false→X1 out10)
def zbm (s_:(List SItem)) (r_:(List Int)):Prop:=∃k13,zbm.l1 s_ (zbm.j1 r_) k13 [(s_.length:Int)] 0
def zbf.j1 (r_:Int):Prop:=r_=0
def zbf.l1 (r3:(List Int)) (r6:(List Int)) (r_:Int) (X1:Prop):Nat→Int→Prop
 | 0,_=>False
 | k_0+1,i12=>∃b18:Bool,b18=((decide (i12<(r3.length:Int)))&&(decide (i12<(r6.length:Int))))∧((b18)=true→∃e23:Int,at? r3 i12=some e23∧∃e25:Int,at? r6 i12=some e25∧((decide (e23<e25))=true→r_=(-1))∧((decide (e23<e25))=false→∃e29:Int,at? r3 i12=some e29∧∃e31:Int,at? r6 i12=some e31∧((decide (e31<e29))=true→r_=1)∧((decide (e31<e29))=false→(InR .i64 (i12+1))∧zbf.l1 r3 r6 r_ X1 k_0 (i12+1))))∧((b18)=false→X1)
def zbf (a_:(List SItem)) (b_:(List SItem)) (r_:Int):Prop:=∃r3:(List Int),zbm a_ r3∧∃r6:(List Int),zbm b_ r6∧∃k13,zbf.l1 r3 r6 r_ (zbf.j1 r_) k13 0
def ref13_Same (a_:(List SItem)) (b_:(List SItem)) (r_:Bool):Prop:=∃r3:Int,zbf a_ b_ r3∧r_=(r3==0)
def zbu.j1 (r_:((List SItem) × Bool)) (out5:(List SItem)):Prop:=r_=(out5,true)
def zbu.j2 (L1_:(List SItem)→Int→Prop) (out9:(List SItem)) (i11:Int) (x25:SItem):Prop:=(out9.length+[x25].length≤2147483648)∧(InR .i64 (i11+1))∧L1_ (out9++[x25]) (i11+1)
def zbu.l1 (s_:(List SItem)) (r_:((List SItem) × Bool)) (X1:(List SItem)→Prop):Nat→(List SItem)→Int→Prop
 | 0,_,_=>False
 | k_0+1,out9,i11=>((decide (i11<(s_.length:Int)))=true→∃e19:SItem,at? s_ i11=some e19∧(((e19.1==5))=true→((decide (e19.2.2.1≤0))=true→r_=(([]:(List SItem)),false))∧((decide (e19.2.2.1≤0))=false→(InR .i64 (e19.2.2.1-1))∧(zbu.j2 (zbu.l1 s_ r_ X1 k_0) out9 i11) (e19.1,e19.2.1,e19.2.2.1-1,e19.2.2.2)))∧(((e19.1==5))=false→(zbu.j2 (zbu.l1 s_ r_ X1 k_0) out9 i11) e19))∧((decide (i11<(s_.length:Int)))=false→X1 out9)
def zbu (s_:(List SItem)) (r_:((List SItem) × Bool)):Prop:=∃k12,zbu.l1 s_ r_ (zbu.j1 r_) k12 ([]:(List SItem)) 0
set_option maxRecDepth 100000
theorem item_Lower_ok {s_:(List SItem)} {r_:((List SItem) × Bool)} (h:zch s_ r_):Fn Tryz.prog 118 [(Pd.rep (En.slice En.SItem) s_)] (Ro2 En.SItem 77 r_.1 (Pd.rep En.bool r_.2)):=by
 unfold zch at h
 refine fn_of Tryz.func118 J Tryz.ntmps118 (by rfl) (by simp) fun s0 a L=>?_
 refine wp_seq_k fun K1 hK1=>rg (sx 2 (zd (o_nil (E:=En.SItem) (N:=s0.w.heap.size) (te:=77)) J J) L fun a s _ L=>?_)
 refine sx 3 (zd o_b J J) L fun a s _ L=>en' (hK1 _ _ ?_)
 refine wp_seq_k fun K2 hK2=>?_
 obtain ⟨r3,h4,h⟩:=h
 refine rg (sx 7 (zb (o_t 0 J) J J) L fun a s _ L=>?_)
 refine zcb 8 L (zc4 h4) (xs:=[.tmp 7]) (.cons (o_t 7 J) .nil) J J J J fun a s og5 hg_ L=>?_
 refine sx 4 (zd (o_t 8 J) J J) L fun a s _ L=>en' (hK2 _ _ ?_)
 refine wp_seq_k fun K6 hK6=>wp_seq_k fun K7 hK7=>rg (sx 9 (zb (o_t 4 J) J J) L fun a s _ L=>?_)
 refine sx 10 (t_leno (o_t 9 J) Tryz.underlying47 J J) L fun a s _ L=>sx 11 (zb oI J J) L fun a s _ L=>en' (hK7 _ _ ?_)
 refine wp_block ?_
 have J10:∀(out8:(List SItem)) (og9:Option Nat) (a:Act) (s:St),Has N0 32 s0 a s [(4,(Pd.row En.SItem s0.w.heap.size 77 og9 out8))]→((zch.j1 r_) out8)→K6 a s.w:=by
  intro out8 og9 a s L h
  unfold zch.j1 at h
  show K6 a s.w
  refine hK6 _ _ (wp_seq_k fun K11 hK11=>?_)
  refine rg (sx 31 (zb (o_t 4 J) J J) L fun a s _ L=>?_)
  refine sx 2 (zd (o_t 31 J) J J) L fun a s _ L=>sx 3 (zd o_b J J) L fun a s _ L=>en' (hK11 _ _ ?_)
  subst h
  exact wp_ret (reto2 J L J J)
 obtain ⟨k15,h⟩:=h
 refine lpg (fun k16 a s=>∃(out12:(List SItem)) (v14:Int) (og13:Option Nat),Has N0 32 s0 a s [(4,(Pd.row En.SItem s0.w.heap.size 77 og13 out12)),(9,(Pd.row En.SItem s0.w.heap.size 77 og13 out12)),(10,(Pi (r3.length:Int))),(11,(Pi v14))]∧zch.l1 r3 r_ (zch.j1 r_) k16 out12 v14) k15 ⟨r3,0,og5,L.keep (.cons (t:=4) J (fun _ _ h_=>h_) (.cons (t:=9) J (fun _ _ h_=>h_) (.k 10 (.k 11 .nil)))),h⟩ ?_
 rintro k16 a s ⟨out12,v14,og13,L,h⟩ KL17 hKL17
 cases k16 with
 | zero=>exact h.elim
 | succ k16=>
 unfold zch.l1 at h
 refine wp_seq_k fun K18 hK18=>rg (sx 12 (t_lss (o_t 11 J) (o_t 10 J) J J) L fun a s _ L=>?_)
 refine en' (hK18 _ _ ?_)
 refine wp_seq_k fun K19 hK19=>cnd L J (fun hb_=>?_) (fun hb_=>?_)
 ·replace h:=h.1 hb_
  refine wp_skip ?_
  show K19 a s.w
  refine hK19 _ _ (wp_seq_k fun K20 hK20=>?_)
  refine wp_block (wp_seq_k fun K21 hK21=>?_)
  obtain ⟨e22,h23,h⟩:=h
  refine rg (sx 13 (zb (o_t 11 J) J J) L fun a s _ L=>?_)
  refine sx 14 (zbx (o_t 9 J) (o_t 11 J) h23 Tryz.underlying47 ty77 J J) L fun a s _ L=>sx 15 (zt ty77 (o_t 14 J) J J) L fun a s _ L=>?_
  have lt_d25:=L.rlt 4 rfl
  refine zbb En.SItem (z:=(0,0,0,0)) 6 L tyz77 J J J J fun a s g24 hg_ L=>?_
  have d25:Dis (some g24) og13:=Dis.newg hg_ lt_d25
  refine sx 5 (zd (o_t 13 J) J J) L fun a s _ L=>zca (L':=[(4,(Pd.row En.SItem s0.w.heap.size 77 og13 out12)),(5,(Pi v14)),(9,(Pd.row En.SItem s0.w.heap.size 77 og13 out12)),(10,(Pi (r3.length:Int))),(11,(Pi v14))]) 6 L J (o_t 15 J) ty77 J J J (.cons (t:=4) J (Dis.ow (Dis.symm d25)) (.k 5 (.cons (t:=9) J (Dis.ow (Dis.symm d25)) (.k 10 (.k 11 .nil))))) fun s L=>?_
  refine en' (hK21 _ _ ?_)
  refine wp_seq_k fun K26 hK26=>wp_seq_k fun K27 hK27=>rg (sx 16 (t_fab (off:=0) (o_t 6 J) Tryz.underlying77 J (zn (zj _ _)) J ty3 J J) L fun a s _ L=>?_)
  refine sx 17 (zt ty3 (o_t 16 J) J J) L fun a s _ L=>sx 18 (t_nei (o_t 17 J) oI J J) L fun a s _ L=>en' (hK27 _ _ ?_)
  refine cnd L J (fun hb_=>?_) (fun hb_=>?_)
  ·replace h:=h.1 hb_
   refine wp_exit ?_
   show K20 a s.w
   refine hK20 _ _ ?_
   obtain ⟨h28,h⟩:=h
   refine rg (sx 30 (t_add (o_t 11 J) oI h28 J J) L fun a s _ L=>?_)
   refine sx 11 (zb (o_t 30 J) J J) L fun a s _ L=>en' ?_
   exact hKL17 k16 a s (Nat.lt_succ_self _) ⟨out12,(v14+1),og13,L.keep (.cons (t:=4) J (fun _ _ h_=>h_) (.cons (t:=9) J (fun _ _ h_=>h_) (.k 10 (.k 11 .nil)))),h⟩
  ·replace h:=h.2 hb_
   refine wp_skip ?_
   show K26 a s.w
   refine hK26 _ _ (wp_seq_k fun K29 hK29=>?_)
   refine wp_seq_k fun K30 hK30=>rg (sx 19 (t_fab (off:=2) (o_t 6 J) Tryz.underlying77 J (zg (zg (zn (zj _ _)) J) J) J ty3 J J) L fun a s _ L=>?_)
   refine sx 20 (zt ty3 (o_t 19 J) J J) L fun a s _ L=>sx 21 (t_leq (o_t 20 J) oI J J) L fun a s _ L=>en' (hK30 _ _ ?_)
   refine cnd L J (fun hb_=>?_) (fun hb_=>?_)
   ·replace h:=h.1 hb_
    refine wp_seq_k fun K31 hK31=>rg (sx 2 (zd (o_nil (E:=En.SItem) (N:=s0.w.heap.size) (te:=77)) J J) L fun a s _ L=>?_)
    refine sx 3 (zd o_b J J) L fun a s _ L=>en' (hK31 _ _ ?_)
    subst h
    exact wp_ret (reto2 J L J J)
   ·replace h:=h.2 hb_
    refine wp_skip ?_
    show K29 a s.w
    refine hK29 _ _ ?_
    obtain ⟨e32,h33,h34,e35,h36,h⟩:=h
    refine rg (sx 22 (zb (o_t 4 J) J J) L fun a s _ L=>?_)
    refine sx 23 (zb (o_t 5 J) J J) L fun a s _ L=>sx 24 (zbx (o_t 22 J) (o_t 23 J) h33 Tryz.underlying47 ty77 J J) L fun a s _ L=>sx 25 (t_fao (off:=2) (o_t 24 J) Tryz.underlying77 J (zg (zg (zn (zj _ _)) J) J) J ty3 J J) L fun a s _ L=>sx 26 (zt ty3 (o_t 25 J) J J) L fun a s _ L=>sx 27 (t_sub (o_t 26 J) oI h34 J J) L fun a s _ L=>sx 28 (zbx (o_t 22 J) (o_t 23 J) h36 Tryz.underlying47 ty77 J J) L fun a s _ L=>sx 29 (t_fao (off:=2) (o_t 28 J) Tryz.underlying77 J (zg (zg (zn (zj _ _)) J) J) J ty3 J J) L fun a s _ L=>st_stor (L':=[(4,(Pd.row En.SItem s0.w.heap.size 77 og13 (out12.set (v14:Int).toNat (e35.1,e35.2.1,e32.2.2.1-1,e35.2.2.2)))),(9,(Pd.row En.SItem s0.w.heap.size 77 og13 (out12.set (v14:Int).toNat (e35.1,e35.2.1,e32.2.2.1-1,e35.2.2.2)))),(10,(Pi (r3.length:Int))),(11,(Pi v14))]) (off:=2) 4 L J h36 (o_t 29 J) (o_t 27 J) (z6 (z6 (zbl (zy _ _ _)) J) J) ty3 J J J (.turn (t:=4) J (.turn (t:=9) J (.k 10 (.k 11 .nil)))) fun s L=>?_
    refine en' (hK20 _ _ ?_)
    obtain ⟨h37,h⟩:=h
    refine rg (sx 30 (t_add (o_t 11 J) oI h37 J J) L fun a s _ L=>?_)
    refine sx 11 (zb (o_t 30 J) J J) L fun a s _ L=>en' ?_
    exact hKL17 k16 a s (Nat.lt_succ_self _) ⟨(out12.set (v14:Int).toNat (e35.1,e35.2.1,e32.2.2.1-1,e35.2.2.2)),(v14+1),og13,L.keep (.cons (t:=4) J (fun _ _ h_=>h_) (.cons (t:=9) J (fun _ _ h_=>h_) (.k 10 (.k 11 .nil)))),h⟩
 ·replace h:=h.2 hb_
  refine wp_exit ?_
  exact J10 out12 og13 a s (L.keep (.cons (t:=4) J (fun _ _ h_=>h_) .nil)) h
theorem item_Start_ok {d_:SDesc} {r_:(List SItem)} (h:item_Start d_ r_):Fn Tryz.prog 54 [(Pd.rep En.SDesc d_)] (Ro En.SItem 77 r_):=by
 unfold item_Start at h
 refine fn_of Tryz.func54 J Tryz.ntmps54 (by rfl) (by simp) fun s0 a L=>?_
 refine wp_seq_k fun K1 hK1=>rg (sx 1 (t_box (o_t 0 J) J J) L fun a s _ L=>?_)
 refine sx 2 (zd (o_nil (E:=En.SItem) (N:=s0.w.heap.size) (te:=77)) J J) L fun a s _ L=>en' (hK1 _ _ ?_)
 refine wp_seq_k fun K2 hK2=>?_
 obtain ⟨h3,h⟩:=h
 refine rg (sx 3 (t_fa (off:=0) (o_t 1 J) Tryz.underlying24 J (zcs (zj _ _)) J ty22 J J) L fun a s _ L=>?_)
 refine sx 4 (zo ty22 (o_t 3 J) J J) L fun a s _ L=>sx 5 (t_len (o_t 4 J) Tryz.underlying22 J J) L fun a s _ L=>sx 6 (t_sub (o_t 5 J) oI h3 J J) L fun a s _ L=>sx 7 (zdn (x:=(1,(d_.length:Int)-1,0,0)) (ps:=[(0,.const (.int .i64 1)),(1,.tmp 6)]) tyz77 J stt77 (.cons (i:=0) oI J (zbl (zy _ _ _)) (.cons (i:=1) (o_t 6 J) J (z6 (zbl (zy _ _ _)) J) .nil)) J J) L fun a s _ L=>st_lito (xs:=[.tmp 7]) 8 L (.cons (o_t 7 J) .nil) Tryz.underlying47 ty77 J J (by decide) J J J J fun a s g4 hg_ L=>?_
 refine sx 2 (zd (o_t 8 J) J J) L fun a s _ L=>en' (hK2 _ _ ?_)
 subst h
 exact wp_ret (reto J L J)
theorem ref13_numbers_ok {s_:(List SItem)} {r_:(List Int)} (h:zbm s_ r_):Fn Tryz.prog 88 [(Pd.rep (En.slice En.SItem) s_)] (Ro (En.int .i64) 3 r_):=by
 unfold zbm at h
 refine fn_of Tryz.func88 J Tryz.ntmps88 (by rfl) (by simp) fun s0 a L=>?_
 refine wp_seq_k fun K1 hK1=>rg (sx 2 (zd (o_nil (E:=(En.int .i64)) (N:=s0.w.heap.size) (te:=3)) J J) L fun a s _ L=>?_)
 refine en' (hK1 _ _ ?_)
 refine wp_seq_k fun K2 hK2=>rg (sx 5 (zb (o_t 0 J) J J) L fun a s _ L=>?_)
 refine sx 6 (t_len (o_t 5 J) Tryz.underlying47 J J) L fun a s _ L=>st_lito (xs:=[.tmp 6]) 7 L (.cons (o_t 6 J) .nil) Tryz.underlying91 ty3 J J (by decide) J J J J fun a s g3 hg_ L=>?_
 refine sx 3 (zd (o_t 7 J) J J) L fun a s _ L=>en' (hK2 _ _ ?_)
 refine wp_seq_k fun K4 hK4=>wp_seq_k fun K5 hK5=>rg (sx 4 (zd oI J J) L fun a s _ L=>?_)
 refine en' (hK5 _ _ ?_)
 refine wp_block ?_
 have J8:∀(out6:(List Int)) (og7:Option Nat) (a:Act) (s:St),Has N0 38 s0 a s [(3,(Pd.row (En.int .i64) s0.w.heap.size 3 og7 out6))]→((zbm.j1 r_) out6)→K4 a s.w:=by
  intro out6 og7 a s L h
  unfold zbm.j1 at h
  show K4 a s.w
  refine hK4 _ _ (wp_seq_k fun K9 hK9=>?_)
  refine rg (sx 37 (zb (o_t 3 J) J J) L fun a s _ L=>?_)
  refine sx 2 (zd (o_t 37 J) J J) L fun a s _ L=>en' (hK9 _ _ ?_)
  subst h
  exact wp_ret (reto J L J)
 obtain ⟨k13,h⟩:=h
 refine lpg (fun k14 a s=>∃(out10:(List Int)) (i12:Int) (og11:Option Nat),Has N0 38 s0 a s [(0,(Pd.rep (En.slice En.SItem) s_)),(3,(Pd.row (En.int .i64) s0.w.heap.size 3 og11 out10)),(4,(Pi i12))]∧zbm.l1 s_ (zbm.j1 r_) k14 out10 i12) k13 ⟨[(s_.length:Int)],0,(some g3),L.keep (.k 0 (.cons (t:=3) J (fun _ _ h_=>h_) (.k 4 .nil))),h⟩ ?_
 rintro k14 a s ⟨out10,i12,og11,L,h⟩ KL15 hKL15
 cases k14 with
 | zero=>exact h.elim
 | succ k14=>
 unfold zbm.l1 at h
 refine wp_seq_k fun K16 hK16=>wp_seq_k fun K17 hK17=>rg (sx 8 (zb (o_t 4 J) J J) L fun a s _ L=>?_)
 refine sx 9 (zb (o_t 0 J) J J) L fun a s _ L=>sx 10 (t_len (o_t 9 J) Tryz.underlying47 J J) L fun a s _ L=>sx 11 (t_lss (o_t 8 J) (o_t 10 J) J J) L fun a s _ L=>en' (hK17 _ _ ?_)
 refine cnd L J (fun hb_=>?_) (fun hb_=>?_)
 ·replace h:=h.1 hb_
  refine wp_skip ?_
  show K16 a s.w
  refine hK16 _ _ (wp_seq_k fun K18 hK18=>?_)
  refine wp_block ?_
  obtain ⟨e19,h20,e21,h22,e23,h24,e25,h26,h27,h⟩:=h
  refine rda zbk 22 [(Pd.row (En.int .i64) s0.w.heap.size 3 og11 out10),(Pd.rep (En.slice En.SItem) s_),(Pi i12),(Pd.ptr En.SItem e19),(Pd.ptr (En.int .i64) e19.1),(Pi e19.1),(Pd.rep (En.slice En.SItem) s_),(Pi i12),(Pd.ptr En.SItem e21),(Pd.ptr (En.int .i64) e21.2.1),(Pi e21.2.1),(Pd.rep (En.slice En.SItem) s_),(Pi i12),(Pd.ptr En.SItem e23),(Pd.ptr (En.int .i64) e23.2.2.1),(Pi e23.2.2.1),(Pd.rep (En.slice En.SItem) s_),(Pi i12),(Pd.ptr En.SItem e25),(Pd.ptr (En.int .i64) e25.2.2.2),(Pi e25.2.2.2),(Pd.rep (En.slice (En.int .i64)) [e19.1,e21.2.1,e23.2.2.1,e25.2.2.2])] L (by kernel_rfl) J J ?_ ?_
  ·refine AllT.cons (zb (o_t 3 J) J J) ?_
   refine AllT.cons (zb (o_t 0 J) J J) (AllT.cons (zb (o_t 4 J) J J) ?_)
   refine AllT.cons (t_idx (o_t 15 J) (o_t 16 J) h20 Tryz.underlying47 ty77 J J) (AllT.cons (t_fa (off:=0) (o_t 17 J) Tryz.underlying77 J (zn (zj _ _)) J ty3 J J) ?_)
   refine AllT.cons (zo ty3 (o_t 18 J) J J) (AllT.cons (zb (o_t 0 J) J J) ?_)
   refine AllT.cons (zb (o_t 4 J) J J) (AllT.cons (t_idx (o_t 20 J) (o_t 21 J) h22 Tryz.underlying47 ty77 J J) ?_)
   refine AllT.cons (t_fa (off:=1) (o_t 22 J) Tryz.underlying77 J (zg (zn (zj _ _)) J) J ty3 J J) (AllT.cons (zo ty3 (o_t 23 J) J J) ?_)
   refine AllT.cons (zb (o_t 0 J) J J) (AllT.cons (zb (o_t 4 J) J J) ?_)
   refine AllT.cons (t_idx (o_t 25 J) (o_t 26 J) h24 Tryz.underlying47 ty77 J J) (AllT.cons (t_fa (off:=2) (o_t 27 J) Tryz.underlying77 J (zg (zg (zn (zj _ _)) J) J) J ty3 J J) ?_)
   refine AllT.cons (zo ty3 (o_t 28 J) J J) (AllT.cons (zb (o_t 0 J) J J) ?_)
   refine AllT.cons (zb (o_t 4 J) J J) (AllT.cons (t_idx (o_t 30 J) (o_t 31 J) h26 Tryz.underlying47 ty77 J J) ?_)
   refine AllT.cons (t_fa (off:=3) (o_t 32 J) Tryz.underlying77 J (zg (zg (zg (zj _ _) J) J) J) J ty3 J J) (AllT.cons (zo ty3 (o_t 33 J) J J) ?_)
   refine AllT.cons (t_lit (xs:=[.tmp 19,.tmp 24,.tmp 29,.tmp 34]) (.cons (o_t 19 J) (.cons (o_t 24 J) (.cons (o_t 29 J) (.cons (o_t 34 J) .nil)))) Tryz.underlying91 ty3 J J (by decide) J J) ?_
   exact AllT.nil
  intro a s _ L
  refine zd2 (L':=[(0,(Pd.rep (En.slice En.SItem) s_)),(4,(Pi i12))]) 36 L (o_t 14 J) (o_t 35 J) Tryz.underlying91 ty3 h27 J J J J (.k 0 (.k 4 .nil)) fun a s og28 hg_ L=>?_
  refine sx 3 (zd (o_t 36 J) J J) L fun a s _ L=>en' (hK18 _ _ ?_)
  obtain ⟨h29,h⟩:=h
  refine rg (sx 12 (zb (o_t 4 J) J J) L fun a s _ L=>?_)
  refine sx 13 (t_add (o_t 12 J) oI h29 J J) L fun a s _ L=>sx 4 (zd (o_t 13 J) J J) L fun a s _ L=>en' ?_
  exact hKL15 k14 a s (Nat.lt_succ_self _) ⟨(out10++[e19.1,e21.2.1,e23.2.2.1,e25.2.2.2]),(i12+1),og28,L.keep (.k 0 (.cons (t:=3) J (fun _ _ h_=>h_) (.k 4 .nil))),h⟩
 ·replace h:=h.2 hb_
  refine wp_exit ?_
  exact J8 out10 og11 a s (L.keep (.cons (t:=3) J (fun _ _ h_=>h_) .nil)) h
theorem ref13_Compare_ok {a_:(List SItem)} {b_:(List SItem)} {r_:Int} (h:zbf a_ b_ r_):Fn Tryz.prog 52 [(Pd.rep (En.slice En.SItem) a_),(Pd.rep (En.slice En.SItem) b_)] (Rq (Pi r_)):=by
 unfold zbf at h
 refine fn_of Tryz.func52 J Tryz.ntmps52 (by rfl) (by simp) fun s0 a L=>?_
 refine wp_seq_k fun K1 hK1=>rg (sx 4 (zd oI J J) L fun a s _ L=>?_)
 refine en' (hK1 _ _ ?_)
 refine wp_seq_k fun K2 hK2=>?_
 obtain ⟨r3,h4,h⟩:=h
 refine rg (sx 8 (zb (o_t 0 J) J J) L fun a s _ L=>?_)
 refine sx 9 (zu ((ref13_numbers_ok h4).frz) (xs:=[.tmp 8]) (.cons (o_t 8 J) .nil) J J) L fun a s _ L=>sx 5 (zd (o_t 9 J) J J) L fun a s _ L=>en' (hK2 _ _ ?_)
 refine wp_seq_k fun K5 hK5=>?_
 obtain ⟨r6,h7,h⟩:=h
 refine rg (sx 10 (zb (o_t 1 J) J J) L fun a s _ L=>?_)
 refine sx 11 (zu ((ref13_numbers_ok h7).frz) (xs:=[.tmp 10]) (.cons (o_t 10 J) .nil) J J) L fun a s _ L=>sx 6 (zd (o_t 11 J) J J) L fun a s _ L=>en' (hK5 _ _ ?_)
 refine wp_seq_k fun K8 hK8=>wp_seq_k fun K9 hK9=>rg (sx 7 (zd oI J J) L fun a s _ L=>?_)
 refine en' (hK9 _ _ ?_)
 refine wp_block ?_
 have J10:∀(a:Act) (s:St),Has N0 42 s0 a s []→((zbf.j1 r_))→K8 a s.w:=by
  intro a s L h
  unfold zbf.j1 at h
  show K8 a s.w
  refine hK8 _ _ (wp_seq_k fun K11 hK11=>?_)
  refine rg (sx 4 (zd oI J J) L fun a s _ L=>?_)
  refine en' (hK11 _ _ ?_)
  subst h
  exact wp_ret (retq J L J)
 obtain ⟨k13,h⟩:=h
 refine lpg (fun k14 a s=>∃(i12:Int),Has N0 42 s0 a s [(5,(Pd.rep (En.slice (En.int .i64)) r3)),(6,(Pd.rep (En.slice (En.int .i64)) r6)),(7,(Pi i12))]∧zbf.l1 r3 r6 r_ (zbf.j1 r_) k14 i12) k13 ⟨0,L.keep (.k 5 (.k 6 (.k 7 .nil))),h⟩ ?_
 rintro k14 a s ⟨i12,L,h⟩ KL15 hKL15
 cases k14 with
 | zero=>exact h.elim
 | succ k14=>
 unfold zbf.l1 at h
 refine wp_seq_k fun K16 hK16=>wp_seq_k fun K17 hK17=>?_
 obtain ⟨b18,h19,h⟩:=h
 refine rg (sx 12 (zb (o_t 7 J) J J) L fun a s _ L=>?_)
 refine sx 13 (zb (o_t 5 J) J J) L fun a s _ L=>sx 14 (t_len (o_t 13 J) Tryz.underlying91 J J) L fun a s _ L=>sx 15 (t_lss (o_t 12 J) (o_t 14 J) J J) L fun a s _ L=>sx 16 (zb (o_t 15 J) J J) L fun a s _ L=>sx 17 (t_g1 J J J (fun hc_=>zb (o_t 7 J) J J)) L fun a s _ L=>sx 18 (t_g1 J J J (fun hc_=>zb (o_t 6 J) J J)) L fun a s _ L=>sx 19 (t_g1 J J J (fun hc_=>t_len (o_w hc_ 18 J) Tryz.underlying91 J J)) L fun a s _ L=>sx 20 (t_g1 J J J (fun hc_=>t_lss (o_w hc_ 17 J) (o_w hc_ 19 J) J J)) L fun a s _ L=>sx 21 (h19 ▸ (t_and (o_t 16 J) (fun hc2_=>(o_w hc2_ 20 J)) J J)) L fun a s _ L=>?_
 refine en' (hK17 _ _ ?_)
 refine cnd L J (fun hb_=>?_) (fun hb_=>?_)
 ·replace h:=h.1 hb_
  refine wp_skip ?_
  show K16 a s.w
  refine hK16 _ _ (wp_seq_k fun K20 hK20=>?_)
  refine wp_block (wp_seq_k fun K21 hK21=>?_)
  refine wp_seq_k fun K22 hK22=>?_
  obtain ⟨e23,h24,e25,h26,h⟩:=h
  refine rda zbk 9 [(Pd.rep (En.slice (En.int .i64)) r3),(Pi i12),(Pd.ptr (En.int .i64) e23),(Pi e23),(Pd.rep (En.slice (En.int .i64)) r6),(Pi i12),(Pd.ptr (En.int .i64) e25),(Pi e25),(Pd.rep En.bool (decide (e23<e25)))] L (by kernel_rfl) J J ?_ ?_
  ·refine AllT.cons (zb (o_t 5 J) J J) ?_
   refine AllT.cons (zb (o_t 7 J) J J) (AllT.cons (t_idx (o_t 24 J) (o_t 25 J) h24 Tryz.underlying91 ty3 J J) ?_)
   refine AllT.cons (zo ty3 (o_t 26 J) J J) (AllT.cons (zb (o_t 6 J) J J) ?_)
   refine AllT.cons (zb (o_t 7 J) J J) (AllT.cons (t_idx (o_t 28 J) (o_t 29 J) h26 Tryz.underlying91 ty3 J J) ?_)
   refine AllT.cons (zo ty3 (o_t 30 J) J J) (AllT.cons (t_lss (o_t 27 J) (o_t 31 J) J J) ?_)
   exact AllT.nil
  intro a s _ L
  refine en' (hK22 _ _ ?_)
  refine cnd L J (fun hb_=>?_) (fun hb_=>?_)
  ·replace h:=h.1 hb_
   refine wp_seq_k fun K27 hK27=>rg (sx 4 (zd oI J J) L fun a s _ L=>?_)
   refine en' (hK27 _ _ ?_)
   subst h
   exact wp_ret (retq J L J)
  ·replace h:=h.2 hb_
   refine wp_skip ?_
   show K21 a s.w
   refine hK21 _ _ (wp_seq_k fun K28 hK28=>?_)
   obtain ⟨e29,h30,e31,h32,h⟩:=h
   refine rda zbk 9 [(Pd.rep (En.slice (En.int .i64)) r3),(Pi i12),(Pd.ptr (En.int .i64) e29),(Pi e29),(Pd.rep (En.slice (En.int .i64)) r6),(Pi i12),(Pd.ptr (En.int .i64) e31),(Pi e31),(Pd.rep En.bool (decide (e31<e29)))] L (by kernel_rfl) J J ?_ ?_
   ·refine AllT.cons (zb (o_t 5 J) J J) ?_
    refine AllT.cons (zb (o_t 7 J) J J) (AllT.cons (t_idx (o_t 33 J) (o_t 34 J) h30 Tryz.underlying91 ty3 J J) ?_)
    refine AllT.cons (zo ty3 (o_t 35 J) J J) (AllT.cons (zb (o_t 6 J) J J) ?_)
    refine AllT.cons (zb (o_t 7 J) J J) (AllT.cons (t_idx (o_t 37 J) (o_t 38 J) h32 Tryz.underlying91 ty3 J J) ?_)
    refine AllT.cons (zo ty3 (o_t 39 J) J J) (AllT.cons (t_gtr (o_t 36 J) (o_t 40 J) J J) ?_)
    exact AllT.nil
   intro a s _ L
   refine en' (hK28 _ _ ?_)
   refine cnd L J (fun hb_=>?_) (fun hb_=>?_)
   ·replace h:=h.1 hb_
    refine wp_seq_k fun K33 hK33=>rg (sx 4 (zd oI J J) L fun a s _ L=>?_)
    refine en' (hK33 _ _ ?_)
    subst h
    exact wp_ret (retq J L J)
   ·replace h:=h.2 hb_
    refine wp_skip ?_
    show K20 a s.w
    refine hK20 _ _ ?_
    obtain ⟨h34,h⟩:=h
    refine rg (sx 22 (zb (o_t 7 J) J J) L fun a s _ L=>?_)
    refine sx 23 (t_add (o_t 22 J) oI h34 J J) L fun a s _ L=>sx 7 (zd (o_t 23 J) J J) L fun a s _ L=>en' ?_
    exact hKL15 k14 a s (Nat.lt_succ_self _) ⟨(i12+1),L.keep (.k 5 (.k 6 (.k 7 .nil))),h⟩
 ·replace h:=h.2 hb_
  refine wp_exit ?_
  exact J10 a s (L.keep .nil) h
theorem ref13_Same_ok {a_:(List SItem)} {b_:(List SItem)} {r_:Bool} (h:ref13_Same a_ b_ r_):Fn Tryz.prog 53 [(Pd.rep (En.slice En.SItem) a_),(Pd.rep (En.slice En.SItem) b_)] (Rq (Pd.rep En.bool r_)):=by
 unfold ref13_Same at h
 refine fn_of Tryz.func53 J Tryz.ntmps53 (by rfl) (by simp) fun s0 a L=>?_
 refine wp_seq_k fun K1 hK1=>rg (sx 4 (zd o_b J J) L fun a s _ L=>?_)
 refine en' (hK1 _ _ ?_)
 refine wp_seq_k fun K2 hK2=>?_
 obtain ⟨r3,h4,h⟩:=h
 refine rg (sx 5 (zb (o_t 0 J) J J) L fun a s _ L=>?_)
 refine sx 6 (zb (o_t 1 J) J J) L fun a s _ L=>sx 7 (zu (ref13_Compare_ok h4) (xs:=[.tmp 5,.tmp 6]) (.cons (o_t 5 J) (.cons (o_t 6 J) .nil)) J J) L fun a s _ L=>sx 8 (t_eqi (o_t 7 J) oI J J) L fun a s _ L=>sx 4 (zd (o_t 8 J) J J) L fun a s _ L=>en' (hK2 _ _ ?_)
 subst h
 exact wp_ret (retq J L J)
def heads_Ready (d_:SDesc) (s_:(List SItem)) (r_:Bool):Prop:=((((s_.length:Int)==0))=true→r_=true)∧((((s_.length:Int)==0))=false→∃e7:SItem,at? s_ 0=some e7∧(((e7.1==1))=true→∃e13:SNode,at? d_ e7.2.1=some e13∧∃e16:Bool,(((decide (e13.1<10))=true)→at? gdat1 e13.1=some e16)∧r_=((decide (e13.1<10))&&e16))∧(((e7.1==1))=false→(((e7.1==3))=true→(((e7.1==3))=true→r_=true)∧(((e7.1==3))=false→r_=false))∧(((e7.1==3))=false→(((e7.1==4))=true→r_=true)∧(((e7.1==4))=false→r_=false))))
def zci (rest_:(List SItem)) (list_:(List SItem)) (r_:(List SItem)):Prop:=∃r3:(List SItem),zi [list_,rest_] r3∧r_=r3
def zeb (i_:Int) (r_:SItem):Prop:=r_=(1,i_,0,0)
def zct.j1 (r_:(List (List SItem))) (out35:(List (List SItem))):Prop:=r_=out35
def zct.j2 (s_:(List SItem)) (r_:(List (List SItem))) (e4:SItem) (e9:SNode) (out27:(List (List SItem))):Prop:=((decide (0<e4.2.2.2))=true→∃r39:SItem,zeb e9.2.1 r39∧(InR .i64 (e4.2.2.1-1))∧(InR .i64 (e4.2.2.2-1))∧∃r43:(List SItem),zci (s_.drop (1:Int).toNat) [r39,(e4.1,e4.2.1,(max (e4.2.2.1-1) 0),e4.2.2.2-1)] r43∧(out27.length+[r43].length≤2147483648)∧(zct.j1 r_) (out27++[r43]))∧((decide (0<e4.2.2.2))=false→(zct.j1 r_) out27)
def zct (d_:SDesc) (s_:(List SItem)) (r_:(List (List SItem))):Prop:=∃e4:SItem,at? s_ 0=some e4∧((0:Int)≤1∧1≤(s_.length:Int))∧∃e9:SNode,at? d_ e4.2.1=some e9∧((((e4.1==5)&&(e4.2.2.1==0)))=true→∃r16:(List SItem),zci (s_.drop (1:Int).toNat) ([]:(List SItem)) r16∧r_=[r16])∧((((e4.1==5)&&(e4.2.2.1==0)))=false→(((e4.1==5))=true→r_=([]:(List (List SItem))))∧(((e4.1==5))=false→(((e4.1==2))=true→(((e4.2.2.1==0))=true→∃r47:(List SItem),zci (s_.drop (1:Int).toNat) ([]:(List SItem)) r47∧(([]:(List (List SItem))).length+[r47].length≤2147483648)∧(zct.j2 s_ r_ e4 e9) (([]:(List (List SItem)))++[r47]))∧(((e4.2.2.1==0))=false→(zct.j2 s_ r_ e4 e9) ([]:(List (List SItem)))))∧(((e4.1==2))=false→(((e9.1==1))=true→∃r57:(List SItem),zci (s_.drop (1:Int).toNat) ([]:(List SItem)) r57∧r_=[r57])∧(((e9.1==1))=false→(((e9.1==3))=true→∃r64:(List SItem),zci (s_.drop (1:Int).toNat) [(3,e4.2.1,0,0)] r64∧r_=[r64])∧(((e9.1==3))=false→(((e9.1==4))=true→∃r71:SItem,zeb e9.2.1 r71∧∃r73:SItem,zeb e9.2.2.1 r73∧∃r75:(List SItem),zci (s_.drop (1:Int).toNat) [r71,r73] r75∧r_=[r75])∧(((e9.1==4))=false→(((e9.1==5))=true→∃r82:SItem,zeb e9.2.1 r82∧∃r84:(List SItem),zci (s_.drop (1:Int).toNat) [r82] r84∧∃r86:SItem,zeb e9.2.2.1 r86∧∃r88:(List SItem),zci (s_.drop (1:Int).toNat) [r86] r88∧r_=[r84,r88])∧(((e9.1==5))=false→(((e9.1==6))=true→∃r95:(List SItem),zci (s_.drop (1:Int).toNat) ([]:(List SItem)) r95∧∃r97:SItem,zeb e9.2.1 r97∧∃r99:(List SItem),zci (s_.drop (1:Int).toNat) [r97,e4] r99∧r_=[r95,r99])∧(((e9.1==6))=false→∃r105:(List SItem),zci (s_.drop (1:Int).toNat) [(2,e4.2.1,e9.2.2.2.1,e9.2.2.2.2.1)] r105∧r_=[r105]))))))))
def heads_Heads_1 (a_:SBranch) (b_:SBranch) (r_:Int):Prop:=∃r3:Int,item_Compare a_.1 b_.1 r3∧r_=r3
def ref14_Ready (d_:SDesc) (s_:(List SItem)) (r_:Bool):Prop:=∃e4:SItem,(((((s_.length:Int)==0))=false)→at? s_ 0=some e4)∧∃e6:SItem,((((((s_.length:Int)==0)||(e4.1==3)))=false)→at? s_ 0=some e6)∧∃b8:Bool,b8=((((s_.length:Int)==0)||(e4.1==3))||(e6.1==4))∧((b8)=true→r_=true)∧((b8)=false→∃e12:SItem,at? s_ 0=some e12∧∃e14:SNode,at? d_ e12.2.1=some e14∧∃e17:SItem,at? s_ 0=some e17∧∃b19:Bool,b19=((e17.1==1)&&(((e14.1==2)||(e14.1==8))||(e14.1==9)))∧r_=b19)
def zb7 (l_:(List SItem)) (s_:(List SItem)) (r_:(List SItem)):Prop:=(([]:(List SItem)).length+l_.length≤2147483648)∧((([]:(List SItem))++l_).length+s_.length≤2147483648)∧r_=(([]:(List SItem))++l_)++s_
def zc8.j1 (s_:(List SItem)) (many_:Int) (r_:(List SBranch)) (out6:(List SBranch)) (done8:Bool):Prop:=(((!done8))=true→(out6.length+[(s_,many_)].length≤2147483648)∧r_=out6++[(s_,many_)])∧(((!done8))=false→r_=out6)
def zc8.j2 (L1_:(List SBranch)→Bool→Int→Prop) (l_:(List SBranch)) (i19:Int) (out43:(List SBranch)) (done45:Bool):Prop:=∃e47:SBranch,at? l_ i19=some e47∧(out43.length+[e47].length≤2147483648)∧(InR .i64 (i19+1))∧L1_ (out43++[e47]) done45 (i19+1)
def zc8.l1 (l_:(List SBranch)) (s_:(List SItem)) (many_:Int) (X1:(List SBranch)→Bool→Prop):Nat→(List SBranch)→Bool→Int→Prop
 | 0,_,_,_=>False
 | k_0+1,out16,done18,i19=>((decide (i19<(l_.length:Int)))=true→∃e27:SBranch,at? l_ i19=some e27∧∃r29:Int,zbf s_ e27.1 r29∧(((r29==0))=true→∃e34:SBranch,at? l_ i19=some e34∧(InR .i64 (e34.2+many_))∧(out16.length+[(s_,(min 2 (e34.2+many_)))].length≤2147483648)∧(InR .i64 (i19+1))∧zc8.l1 l_ s_ many_ X1 k_0 (out16++[(s_,(min 2 (e34.2+many_)))]) true (i19+1))∧(((r29==0))=false→((((decide (r29<0))&&(!done18)))=true→(out16.length+[(s_,many_)].length≤2147483648)∧(zc8.j2 (zc8.l1 l_ s_ many_ X1 k_0) l_ i19) (out16++[(s_,many_)]) true)∧((((decide (r29<0))&&(!done18)))=false→(zc8.j2 (zc8.l1 l_ s_ many_ X1 k_0) l_ i19) out16 done18)))∧((decide (i19<(l_.length:Int)))=false→X1 out16 done18)
def zc8 (l_:(List SBranch)) (s_:(List SItem)) (many_:Int) (r_:(List SBranch)):Prop:=∃k20,zc8.l1 l_ s_ many_ (zc8.j1 s_ many_ r_) k20 ([]:(List SBranch)) false 0
def zc6.j1 (r_:(List (List SItem))) (out27:(List (List SItem))):Prop:=r_=out27
def zc6.j2 (r_:(List (List SItem))) (out47:(List (List SItem))):Prop:=r_=out47
def zc6.j3 (s_:(List SItem)) (r_:(List (List SItem))) (e3:SItem) (e9:SNode) (out39:(List (List SItem))):Prop:=((decide (0<e3.2.2.2))=true→(InR .i64 (e3.2.2.1-1))∧(InR .i64 (e3.2.2.2-1))∧∃r53:(List SItem),zb7 [(1,e9.2.1,0,0),(2,e3.2.1,(max 0 (e3.2.2.1-1)),e3.2.2.2-1)] (s_.drop (1:Int).toNat) r53∧(out39.length+[r53].length≤2147483648)∧(zc6.j2 r_) (out39++[r53]))∧((decide (0<e3.2.2.2))=false→(zc6.j2 r_) out39)
def zc6 (d_:SDesc) (s_:(List SItem)) (r_:(List (List SItem))):Prop:=∃e3:SItem,at? s_ 0=some e3∧((0:Int)≤1∧1≤(s_.length:Int))∧∃e9:SNode,at? d_ e3.2.1=some e9∧(((e3.1==5))=true→(((e3.2.2.1==0))=true→∃r31:(List SItem),zb7 ([]:(List SItem)) (s_.drop (1:Int).toNat) r31∧(([]:(List (List SItem))).length+[r31].length≤2147483648)∧(zc6.j1 r_) (([]:(List (List SItem)))++[r31]))∧(((e3.2.2.1==0))=false→(zc6.j1 r_) ([]:(List (List SItem)))))∧(((e3.1==5))=false→(((e3.1==2))=true→(((e3.2.2.1==0))=true→∃r57:(List SItem),zb7 ([]:(List SItem)) (s_.drop (1:Int).toNat) r57∧(([]:(List (List SItem))).length+[r57].length≤2147483648)∧(zc6.j3 s_ r_ e3 e9) (([]:(List (List SItem)))++[r57]))∧(((e3.2.2.1==0))=false→(zc6.j3 s_ r_ e3 e9) ([]:(List (List SItem)))))∧(((e3.1==2))=false→(((e9.1==1))=true→∃r66:(List SItem),zb7 ([]:(List SItem)) (s_.drop (1:Int).toNat) r66∧(([]:(List (List SItem))).length+[r66].length≤2147483648)∧r_=([]:(List (List SItem)))++[r66])∧(((e9.1==1))=false→(((e9.1==3))=true→∃r72:(List SItem),zb7 [(3,e3.2.1,0,0)] (s_.drop (1:Int).toNat) r72∧(([]:(List (List SItem))).length+[r72].length≤2147483648)∧r_=([]:(List (List SItem)))++[r72])∧(((e9.1==3))=false→(((e9.1==4))=true→∃r78:(List SItem),zb7 [(1,e9.2.1,0,0),(1,e9.2.2.1,0,0)] (s_.drop (1:Int).toNat) r78∧(([]:(List (List SItem))).length+[r78].length≤2147483648)∧r_=([]:(List (List SItem)))++[r78])∧(((e9.1==4))=false→(((e9.1==5))=true→∃r84:(List SItem),zb7 [(1,e9.2.1,0,0)] (s_.drop (1:Int).toNat) r84∧∃r86:(List SItem),zb7 [(1,e9.2.2.1,0,0)] (s_.drop (1:Int).toNat) r86∧(([]:(List (List SItem))).length+[r84,r86].length≤2147483648)∧r_=([]:(List (List SItem)))++[r84,r86])∧(((e9.1==5))=false→(((e9.1==6))=true→∃r92:(List SItem),zb7 ([]:(List SItem)) (s_.drop (1:Int).toNat) r92∧∃r94:(List SItem),zb7 [(1,e9.2.1,0,0),e3] (s_.drop (1:Int).toNat) r94∧(([]:(List (List SItem))).length+[r92,r94].length≤2147483648)∧r_=([]:(List (List SItem)))++[r92,r94])∧(((e9.1==6))=false→(((e9.1==7))=true→∃r100:(List SItem),zb7 [(2,e3.2.1,e9.2.2.2.1,e9.2.2.2.2.1)] (s_.drop (1:Int).toNat) r100∧(([]:(List (List SItem))).length+[r100].length≤2147483648)∧r_=([]:(List (List SItem)))++[r100])∧(((e9.1==7))=false→r_=([]:(List (List SItem)))))))))))
def zc0.j1 (r_:(List SBranch)) (l16:(List SBranch)):Prop:=r_=l16
def zc0.l1 (n_:SDesc→(List SItem)→(List SBranch)→(List SBranch)→Prop) (d_:SDesc) (r12:(List (List SItem))) (X1:(List SBranch)→Prop):Nat→(List SBranch)→Int→Prop
 | 0,_,_=>False
 | k_0+1,l19,i20=>((decide (i20<(r12.length:Int)))=true→∃e27:(List SItem),at? r12 i20=some e27∧∃r29:(List SBranch),n_ d_ e27 l19 r29∧(InR .i64 (i20+1))∧zc0.l1 n_ d_ r12 X1 k_0 r29 (i20+1))∧((decide (i20<(r12.length:Int)))=false→X1 l19)
def zc0.n:Nat→SDesc→(List SItem)→(List SBranch)→(List SBranch)→Prop
 | 0,_,_,_,_=>False
 | k_+1,d_,s_,l_,r_=>∃r4:Bool,ref14_Ready d_ s_ r4∧((r4)=true→∃r7:(List SItem),zb7 ([]:(List SItem)) s_ r7∧∃r9:(List SBranch),zc8 l_ r7 1 r9∧r_=r9)∧((r4)=false→∃r12:(List (List SItem)),zc6 d_ s_ r12∧∃k21,zc0.l1 (zc0.n k_) d_ r12 (zc0.j1 r_) k21 l_ 0)
def zc0 (d_:SDesc) (s_:(List SItem)) (l_:(List SBranch)) (r_:(List SBranch)):Prop:=∃k_,zc0.n k_ d_ s_ l_ r_
def ref14_Heads (d_:SDesc) (s_:(List SItem)) (r_:(List SBranch)):Prop:=∃r3:(List SBranch),zc0 d_ s_ ([]:(List SBranch)) r3∧r_=r3
set_option maxRecDepth 100000
theorem heads_Ready_ok {d_:SDesc} {s_:(List SItem)} {r_:Bool} (h:heads_Ready d_ s_ r_):Fn Tryz.prog 142 [(Pd.rep En.SDesc d_),(Pd.rep (En.slice En.SItem) s_)] (Rq (Pd.rep En.bool r_)):=by
 unfold heads_Ready at h
 refine fn_of Tryz.func142 J Tryz.ntmps142 (by rfl) (by simp) fun s0 a L=>?_
 refine wp_seq_k fun K1 hK1=>rg (sx 2 (t_box (o_t 0 J) J J) L fun a s _ L=>?_)
 refine sx 4 (zd o_b J J) L fun a s _ L=>en' (hK1 _ _ ?_)
 refine wp_seq_k fun K2 hK2=>wp_seq_k fun K3 hK3=>rg (sx 7 (zb (o_t 1 J) J J) L fun a s _ L=>?_)
 refine sx 8 (t_len (o_t 7 J) Tryz.underlying47 J J) L fun a s _ L=>sx 9 (t_eqi (o_t 8 J) oI J J) L fun a s _ L=>en' (hK3 _ _ ?_)
 refine cnd L J (fun hb_=>?_) (fun hb_=>?_)
 ·replace h:=h.1 hb_
  refine wp_seq_k fun K4 hK4=>rg (sx 4 (zd o_b J J) L fun a s _ L=>?_)
  refine en' (hK4 _ _ ?_)
  subst h
  exact wp_ret (retq J L J)
 ·replace h:=h.2 hb_
  refine wp_skip ?_
  show K2 a s.w
  refine hK2 _ _ (wp_seq_k fun K5 hK5=>?_)
  refine wp_seq_k fun K6 hK6=>?_
  obtain ⟨e7,h8,h⟩:=h
  refine rg (sx 10 (zb (o_t 1 J) J J) L fun a s _ L=>?_)
  refine sx 11 (t_idx (o_t 10 J) oI h8 Tryz.underlying47 ty77 J J) L fun a s _ L=>sx 12 (zo ty77 (o_t 11 J) J J) L fun a s _ L=>zbb En.SItem (z:=(0,0,0,0)) 5 L tyz77 J J J J fun a s g9 hg_ L=>?_
  refine zca (L':=[(2,(Pd.ptr En.SDesc d_))]) 5 L J (o_t 12 J) ty77 J J J (.k 2 .nil) fun s L=>?_
  refine en' (hK6 _ _ ?_)
  refine wp_seq_k fun K10 hK10=>rg (sx 13 (t_fab (off:=0) (o_t 5 J) Tryz.underlying77 J (zn (zj _ _)) J ty3 J J) L fun a s _ L=>?_)
  refine sx 14 (zt ty3 (o_t 13 J) J J) L fun a s _ L=>en' (hK10 _ _ ?_)
  refine wp_block (wp_seq_k fun K11 hK11=>?_)
  refine rg (sx 16 (t_eqi (o_t 14 J) oI J J) L fun a s _ L=>?_)
  refine sx 15 (zd (o_t 16 J) J J) L fun a s _ L=>en' (hK11 _ _ ?_)
  refine cnd L J (fun hb_=>?_) (fun hb_=>?_)
  ·replace h:=h.1 hb_
   refine wp_seq_k fun K12 hK12=>?_
   obtain ⟨e13,h14,h⟩:=h
   refine rg (sx 17 (t_fa (off:=0) (o_t 2 J) Tryz.underlying24 J (zcs (zj _ _)) J ty22 J J) L fun a s _ L=>?_)
   refine sx 18 (zo ty22 (o_t 17 J) J J) L fun a s _ L=>sx 19 (t_fab (off:=1) (o_t 5 J) Tryz.underlying77 J (zg (zn (zj _ _)) J) J ty3 J J) L fun a s _ L=>sx 20 (zt ty3 (o_t 19 J) J J) L fun a s _ L=>sx 21 (t_idx (o_t 18 J) (o_t 20 J) h14 Tryz.underlying22 ty68 J J) L fun a s _ L=>sx 22 (t_fa (off:=0) (o_t 21 J) Tryz.underlying68 J (zn (zj _ _)) J ty3 J J) L fun a s _ L=>sx 23 (zo ty3 (o_t 22 J) J J) L fun a s _ L=>sx 6 (zd (o_t 23 J) J J) L fun a s _ L=>en' (hK12 _ _ ?_)
   refine wp_seq_k fun K15 hK15=>?_
   obtain ⟨e16,h17,h⟩:=h
   refine rg (sx 24 (zb (o_t 6 J) J J) L fun a s _ L=>?_)
   refine sx 25 (t_lss (o_t 24 J) oI J J) L fun a s _ L=>sx 26 (zb (o_t 25 J) J J) L fun a s _ L=>sx 27 (t_g1 J J J (fun hc_=>zb (o_t 6 J) J J)) L fun a s _ L=>sx 28 (t_g1 J J J (fun hc_=>t_gidxb (g:=1) (xs:=gdat1) (by simp [gtab]) J (o_w hc_ 27 J) (h17 hc_) Tryz.underlying213 (by rfl) J J)) L fun a s _ L=>sx 29 (t_g1 J J J (fun hc_=>zo ty4 (o_w hc_ 28 J) J J)) L fun a s _ L=>sx 30 (t_and (o_t 26 J) (fun hc2_=>(o_w hc2_ 29 J)) J J) L fun a s _ L=>sx 4 (zd (o_t 30 J) J J) L fun a s _ L=>en' (hK15 _ _ ?_)
   subst h
   exact wp_ret (retq J L J)
  ·replace h:=h.2 hb_
   refine wp_seq_k fun K18 hK18=>wp_seq_k fun K19 hK19=>rg (sx 32 (t_eqi (o_t 14 J) oI J J) L fun a s _ L=>?_)
   refine sx 31 (zd (o_t 32 J) J J) L fun a s _ L=>en' (hK19 _ _ ?_)
   refine cnd L J (fun hb_=>?_) (fun hb_=>?_)
   ·replace h:=h.1 hb_
    refine wp_skip ?_
    show K18 a s.w
    refine hK18 _ _ (cnd L J (fun hb_=>?_) (fun hb_=>?_))
    ·replace h:=h.1 hb_
     refine wp_seq_k fun K20 hK20=>rg (sx 4 (zd o_b J J) L fun a s _ L=>?_)
     refine en' (hK20 _ _ ?_)
     subst h
     exact wp_ret (retq J L J)
    ·replace h:=h.2 hb_
     refine wp_skip ?_
     show K5 a s.w
     refine hK5 _ _ (wp_seq_k fun K21 hK21=>?_)
     refine rg (sx 4 (zd o_b J J) L fun a s _ L=>?_)
     refine en' (hK21 _ _ ?_)
     subst h
     exact wp_ret (retq J L J)
   ·replace h:=h.2 hb_
    refine rg (sx 33 (t_eqi (o_t 14 J) oI J J) L fun a s _ L=>?_)
    refine sx 31 (zd (o_t 33 J) J J) L fun a s _ L=>en' (hK18 _ _ ?_)
    refine cnd L J (fun hb_=>?_) (fun hb_=>?_)
    ·replace h:=h.1 hb_
     refine wp_seq_k fun K22 hK22=>rg (sx 4 (zd o_b J J) L fun a s _ L=>?_)
     refine en' (hK22 _ _ ?_)
     subst h
     exact wp_ret (retq J L J)
    ·replace h:=h.2 hb_
     refine wp_skip ?_
     show K5 a s.w
     refine hK5 _ _ (wp_seq_k fun K23 hK23=>?_)
     refine rg (sx 4 (zd o_b J J) L fun a s _ L=>?_)
     refine en' (hK23 _ _ ?_)
     subst h
     exact wp_ret (retq J L J)
theorem zcc {rest_:(List SItem)} {list_:(List SItem)} {r_:(List SItem)} (h:zci rest_ list_ r_):Fn Tryz.prog 169 [(Pd.rep (En.slice En.SItem) rest_),(Pd.rep (En.slice En.SItem) list_)] (Ro En.SItem 77 r_):=by
 unfold zci at h
 refine fn_of Tryz.func169 J Tryz.ntmps169 (by rfl) (by simp) fun s0 a L=>?_
 refine wp_seq_k fun K1 hK1=>rg (sx 4 (zd (o_nil (E:=En.SItem) (N:=s0.w.heap.size) (te:=77)) J J) L fun a s _ L=>?_)
 refine en' (hK1 _ _ ?_)
 refine wp_seq_k fun K2 hK2=>?_
 obtain ⟨r3,h4,h⟩:=h
 refine rg (sx 5 (zb (o_t 1 J) J J) L fun a s _ L=>?_)
 refine sx 6 (zb (o_t 0 J) J J) L fun a s _ L=>sx 7 (t_lit (xs:=[.tmp 5,.tmp 6]) (.cons (o_t 5 J) (.cons (o_t 6 J) .nil)) Tryz.underlying25 ty47 J J (by decide) J J) L fun a s _ L=>zcb 8 L (zc3 h4) (xs:=[.tmp 7]) (.cons (o_t 7 J) .nil) J J J J fun a s og5 hg_ L=>?_
 refine sx 4 (zd (o_t 8 J) J J) L fun a s _ L=>en' (hK2 _ _ ?_)
 subst h
 exact wp_ret (reto J L J)
theorem zdx {i_:Int} {r_:SItem} (h:zeb i_ r_):Fn Tryz.prog 170 [(Pi i_)] (Rq (Pd.rep En.SItem r_)):=by
 unfold zeb at h
 refine fn_of Tryz.func170 J Tryz.ntmps170 (by rfl) (by simp) fun s0 a L=>?_
 refine wp_seq_k fun K1 hK1=>rg (zbb En.SItem (z:=(0,0,0,0)) 2 L tyz77 J J J J fun a s g2 hg_ L=>?_)
 refine en' (hK1 _ _ ?_)
 refine wp_seq_k fun K3 hK3=>rg (sx 3 (zb (o_t 0 J) J J) L fun a s _ L=>?_)
 refine sx 4 (zdn (x:=(1,i_,0,0)) (ps:=[(0,.const (.int .i64 1)),(1,.tmp 3)]) tyz77 J stt77 (.cons (i:=0) oI J (zbl (zy _ _ _)) (.cons (i:=1) (o_t 3 J) J (z6 (zbl (zy _ _ _)) J) .nil)) J J) L fun a s _ L=>zca (L':=[]) 2 L J (o_t 4 J) ty77 J J J .nil fun s L=>?_
 refine en' (hK3 _ _ ?_)
 subst h
 exact wp_ret (retb J ty77 L J)
theorem heads_Open_ok {d_:SDesc} {s_:(List SItem)} {r_:(List (List SItem))} (h:zct d_ s_ r_):Fn Tryz.prog 144 [(Pd.rep En.SDesc d_),(Pd.rep (En.slice En.SItem) s_)] (Ro (En.slice En.SItem) 47 r_):=by
 unfold zct at h
 refine fn_of Tryz.func144 J Tryz.ntmps144 (by rfl) (by simp) fun s0 a L=>?_
 refine wp_seq_k fun K1 hK1=>rg (sx 2 (t_box (o_t 0 J) J J) L fun a s _ L=>?_)
 refine sx 4 (zd (o_nil (E:=(En.slice En.SItem)) (N:=s0.w.heap.size) (te:=47)) J J) L fun a s _ L=>en' (hK1 _ _ ?_)
 refine wp_seq_k fun K2 hK2=>?_
 obtain ⟨e4,h5,h6,h⟩:=h
 replace L:=L.keep (L':=[(1,(Pd.rep (En.slice En.SItem) s_)),(2,(Pd.ptr En.SDesc d_))]) (.cons (t:=1) rfl nE (.cons (t:=2) rfl nE .nil))
 obtain ⟨K3,hK3,nK3,L⟩:=L.mark 999983
 refine rdf 8 zbk L (by kernel_rfl) fun s _ L=>?_
 refine zd8 3 12 L (by rfl) (by kernel_rfl) (by kernel_rfl) (by kernel_rfl) (fun _ _ _ _ h=>h) (q:=(Pd.rep (En.slice En.SItem) s_)) (y_move (o_t 1 J) J J) J J fun a L=>?_
 refine zd8 4 13 L (by rfl) (by kernel_rfl) (by kernel_rfl) (by kernel_rfl) (fun _ _ _ _ h=>h) (q:=(Pd.rep (En.slice En.SItem) (s_.drop (1:Int).toNat))) (y_from (o_t 12 J) oI h6 Tryz.underlying47 ty77 J J) J J fun a L=>?_
 refine rc_go 6 [(Pd.rep (En.slice En.SItem) s_),(Pd.ptr En.SItem e4),(Pd.rep En.SItem e4),(Pd.rep (En.slice En.SItem) s_),(Pd.rep (En.slice En.SItem) (s_.drop (1:Int).toNat)),(Pd.ebox En.SItem s0.w.heap.size K3 (0,0,0,0))] [3,4] K3 [5] nK3 L (.k 13 (.k 12 (.k 999983 (.k 1 (.k 2 .nil))))) (by kernel_rfl) (by kernel_rfl) (by kernel_rfl) (by kernel_rfl) (.cons (i:=3) J J J J (.cons (i:=4) J J J J .nil)) J J ?_ ?_
 ·refine AllX.t (zb (o_t 1 J) J J) nE ?_
  refine AllX.t (t_idx (o_t 9 J) oI h5 Tryz.underlying47 ty77 J J) nE (AllX.t (zo ty77 (o_t 10 J) J J) nE ?_)
  refine AllX.skip J nE (AllX.skip J nE ?_)
  refine AllX.c (t_allocx En.SItem (z:=(0,0,0,0)) (K:=K3) (m:=999983) J nK3 tyz77 J J) J ?_
  exact AllX.nil
 intro a s _ L
 obtain ⟨g7,hg_,L⟩:=L.openb 5 rfl
 refine zca (L':=[(2,(Pd.ptr En.SDesc d_)),(13,(Pd.rep (En.slice En.SItem) (s_.drop (1:Int).toNat)))]) 5 L J (o_t 11 J) ty77 J J J (.k 2 (.k 13 .nil)) fun s L=>?_
 refine sx 6 (zd (o_t 13 J) J J) L fun a s _ L=>en' (hK2 _ _ ?_)
 refine wp_seq_k fun K8 hK8=>?_
 obtain ⟨e9,h10,h⟩:=h
 refine rg (sx 14 (t_fa (off:=0) (o_t 2 J) Tryz.underlying24 J (zcs (zj _ _)) J ty22 J J) L fun a s _ L=>?_)
 refine sx 15 (zo ty22 (o_t 14 J) J J) L fun a s _ L=>sx 16 (t_fab (off:=1) (o_t 5 J) Tryz.underlying77 J (zg (zn (zj _ _)) J) J ty3 J J) L fun a s _ L=>sx 17 (zt ty3 (o_t 16 J) J J) L fun a s _ L=>sx 18 (t_idx (o_t 15 J) (o_t 17 J) h10 Tryz.underlying22 ty68 J J) L fun a s _ L=>sx 19 (zo ty68 (o_t 18 J) J J) L fun a s _ L=>?_
 have lt_d12:=L.blt 5 rfl
 refine zbb En.SNode (z:=(0,0,0,0,0,(0#256),([]:Str))) 7 L tyz68 J J J J fun a s g11 hg_ L=>?_
 have d12:Dis (some g11) (some g7):=Dis.newg hg_ lt_d12
 refine zca (L':=[(5,(Pd.box En.SItem s0.w.heap.size g7 e4)),(6,(Pd.rep (En.slice En.SItem) (s_.drop (1:Int).toNat)))]) 7 L J (o_t 19 J) ty68 J J J (.cons (t:=5) J (Dis.bx (Dis.symm d12)) (.k 6 .nil)) fun s L=>?_
 refine en' (hK8 _ _ ?_)
 refine wp_seq_k fun K13 hK13=>wp_block (wp_seq_k fun K14 hK14=>?_)
 refine rg (sx 21 (t_fab (off:=0) (o_t 5 J) Tryz.underlying77 J (zn (zj _ _)) J ty3 J J) L fun a s _ L=>?_)
 refine sx 22 (zt ty3 (o_t 21 J) J J) L fun a s _ L=>sx 23 (t_eqi (o_t 22 J) oI J J) L fun a s _ L=>sx 24 (zb (o_t 23 J) J J) L fun a s _ L=>sx 25 (t_g1 J J J (fun hc_=>t_fab (off:=2) (o_t 5 J) Tryz.underlying77 J (zg (zg (zn (zj _ _)) J) J) J ty3 J J)) L fun a s _ L=>sx 26 (t_g1 J J J (fun hc_=>zt ty3 (o_w hc_ 25 J) J J)) L fun a s _ L=>sx 27 (t_g1 J J J (fun hc_=>t_eqi (o_w hc_ 26 J) oI J J)) L fun a s _ L=>sx 28 (t_and (o_t 24 J) (fun hc2_=>(o_w hc2_ 27 J)) J J) L fun a s _ L=>sx 20 (zd (o_t 28 J) J J) L fun a s _ L=>en' (hK14 _ _ ?_)
 refine cnd L J (fun hb_=>?_) (fun hb_=>?_)
 ·replace h:=h.1 hb_
  refine wp_seq_k fun K15 hK15=>?_
  obtain ⟨r16,h17,h⟩:=h
  refine rg (sx 29 (zb (o_t 6 J) J J) L fun a s _ L=>?_)
  refine sx 30 (zu ((zcc h17).frz) (xs:=[.tmp 29,.const (.slice none 0 0)]) (.cons (o_t 29 J) (.cons o_nilr .nil)) J J) L fun a s _ L=>?_
  have lt_d20:=L.blt 7 rfl
  have lt_d19:=L.blt 5 rfl
  refine st_lito (xs:=[.tmp 30]) 31 L (.cons (o_t 30 J) .nil) Tryz.underlying25 ty47 J J (by decide) J J J J fun a s g18 hg_ L=>?_
  have d19:Dis (some g18) (some g7):=Dis.newg hg_ lt_d19
  have d20:Dis (some g18) (some g11):=Dis.newg hg_ lt_d20
  refine sx 4 (zd (o_t 31 J) J J) L fun a s _ L=>en' (hK15 _ _ ?_)
  subst h
  exact wp_ret (reto J L J)
 ·replace h:=h.2 hb_
  refine wp_seq_k fun K21 hK21=>rg (sx 33 (t_fab (off:=0) (o_t 5 J) Tryz.underlying77 J (zn (zj _ _)) J ty3 J J) L fun a s _ L=>?_)
  refine sx 34 (zt ty3 (o_t 33 J) J J) L fun a s _ L=>sx 35 (t_eqi (o_t 34 J) oI J J) L fun a s _ L=>sx 32 (zd (o_t 35 J) J J) L fun a s _ L=>en' (hK21 _ _ ?_)
  refine cnd L J (fun hb_=>?_) (fun hb_=>?_)
  ·replace h:=h.1 hb_
   refine wp_seq_k fun K22 hK22=>rg (sx 4 (zd (o_nil (E:=(En.slice En.SItem)) (N:=s0.w.heap.size) (te:=47)) J J) L fun a s _ L=>?_)
   refine en' (hK22 _ _ ?_)
   subst h
   exact wp_ret (reto J L J)
  ·replace h:=h.2 hb_
   refine wp_seq_k fun K23 hK23=>rg (sx 37 (t_fab (off:=0) (o_t 5 J) Tryz.underlying77 J (zn (zj _ _)) J ty3 J J) L fun a s _ L=>?_)
   refine sx 38 (zt ty3 (o_t 37 J) J J) L fun a s _ L=>sx 39 (t_eqi (o_t 38 J) oI J J) L fun a s _ L=>sx 36 (zd (o_t 39 J) J J) L fun a s _ L=>en' (hK23 _ _ ?_)
   refine cnd L J (fun hb_=>?_) (fun hb_=>?_)
   ·replace h:=h.1 hb_
    refine wp_seq_k fun K24 hK24=>rg (sx 8 (zd (o_nil (E:=(En.slice En.SItem)) (N:=s0.w.heap.size) (te:=47)) J J) L fun a s _ L=>?_)
    refine en' (hK24 _ _ ?_)
    refine wp_seq_k fun K25 hK25=>wp_seq_k fun K26 hK26=>rg (sx 40 (t_fab (off:=2) (o_t 5 J) Tryz.underlying77 J (zg (zg (zn (zj _ _)) J) J) J ty3 J J) L fun a s _ L=>?_)
    refine sx 41 (zt ty3 (o_t 40 J) J J) L fun a s _ L=>sx 42 (t_eqi (o_t 41 J) oI J J) L fun a s _ L=>en' (hK26 _ _ ?_)
    have J29:∀(out27:(List (List SItem))) (og28:Option Nat) (a:Act) (s:St),Has N0 139 s0 a s [(5,(Pd.box En.SItem s0.w.heap.size g7 e4)),(6,(Pd.rep (En.slice En.SItem) (s_.drop (1:Int).toNat))),(7,(Pd.box En.SNode s0.w.heap.size g11 e9)),(8,(Pd.row (En.slice En.SItem) s0.w.heap.size 47 og28 out27))]→Dis (some g7) (some g11)→Dis (some g7) og28→Dis (some g11) og28→((zct.j2 s_ r_ e4 e9) out27)→K25 a s.w:=by
     intro out27 og28 a s L d30 d31 d32 h
     unfold zct.j2 at h
     show K25 a s.w
     refine hK25 _ _ (wp_seq_k fun K33 hK33=>?_)
     refine wp_seq_k fun K34 hK34=>rg (sx 48 (t_fab (off:=3) (o_t 5 J) Tryz.underlying77 J (zg (zg (zg (zj _ _) J) J) J) J ty3 J J) L fun a s _ L=>?_)
     refine sx 49 (zt ty3 (o_t 48 J) J J) L fun a s _ L=>sx 50 (t_gtr (o_t 49 J) oI J J) L fun a s _ L=>en' (hK34 _ _ ?_)
     have J37:∀(out35:(List (List SItem))) (og36:Option Nat) (a:Act) (s:St),Has N0 139 s0 a s [(8,(Pd.row (En.slice En.SItem) s0.w.heap.size 47 og36 out35))]→((zct.j1 r_) out35)→K33 a s.w:=by
      intro out35 og36 a s L h
      unfold zct.j1 at h
      show K33 a s.w
      refine hK33 _ _ (wp_seq_k fun K38 hK38=>?_)
      refine rg (sx 72 (zb (o_t 8 J) J J) L fun a s _ L=>?_)
      refine sx 4 (zd (o_t 72 J) J J) L fun a s _ L=>en' (hK38 _ _ ?_)
      subst h
      exact wp_ret (reto J L J)
     refine cnd L J (fun hb_=>?_) (fun hb_=>?_)
     ·obtain ⟨r39,h40,h41,h42,r43,h44,h45,h⟩:=h.1 hb_
      refine rda zbk 20 [(Pd.row (En.slice En.SItem) s0.w.heap.size 47 og28 out27),(Pd.rep (En.slice En.SItem) (s_.drop (1:Int).toNat)),(Pd.optr (En.int .i64) s0.w.heap.size (some g11) (1) e9.2.1),(Pi e9.2.1),(Pd.rep En.SItem r39),(Pd.optr (En.int .i64) s0.w.heap.size (some g7) (0) e4.1),(Pi e4.1),(Pd.optr (En.int .i64) s0.w.heap.size (some g7) (1) e4.2.1),(Pi e4.2.1),(Pd.optr (En.int .i64) s0.w.heap.size (some g7) (2) e4.2.2.1),(Pi e4.2.2.1),(Pi (e4.2.2.1-1)),(Pi (max (e4.2.2.1-1) 0)),(Pd.optr (En.int .i64) s0.w.heap.size (some g7) (3) e4.2.2.2),(Pi e4.2.2.2),(Pi (e4.2.2.2-1)),(Pd.rep En.SItem (e4.1,e4.2.1,(max (e4.2.2.1-1) 0),e4.2.2.2-1)),(Pd.rep (En.slice En.SItem) [r39,(e4.1,e4.2.1,(max (e4.2.2.1-1) 0),e4.2.2.2-1)]),(Pd.rep (En.slice En.SItem) r43),(Pd.rep (En.slice (En.slice En.SItem)) [r43])] L (by kernel_rfl) J J ?_ ?_
      ·refine AllT.cons (zb (o_t 8 J) J J) ?_
       refine AllT.cons (zb (o_t 6 J) J J) (AllT.cons (t_fab (off:=1) (o_t 7 J) Tryz.underlying68 J (zg (zn (zj _ _)) J) J ty3 J J) ?_)
       refine AllT.cons (zt ty3 (o_t 53 J) J J) (AllT.cons (zu (zdx h40) (xs:=[.tmp 54]) (.cons (o_t 54 J) .nil) J J) ?_)
       refine AllT.cons (t_fab (off:=0) (o_t 5 J) Tryz.underlying77 J (zn (zj _ _)) J ty3 J J) (AllT.cons (zt ty3 (o_t 56 J) J J) ?_)
       refine AllT.cons (t_fab (off:=1) (o_t 5 J) Tryz.underlying77 J (zg (zn (zj _ _)) J) J ty3 J J) (AllT.cons (zt ty3 (o_t 58 J) J J) ?_)
       refine AllT.cons (t_fab (off:=2) (o_t 5 J) Tryz.underlying77 J (zg (zg (zn (zj _ _)) J) J) J ty3 J J) (AllT.cons (zt ty3 (o_t 60 J) J J) ?_)
       refine AllT.cons (t_sub (o_t 61 J) oI h41 J J) (AllT.cons (t_max (o_t 62 J) oI J J) ?_)
       refine AllT.cons (t_fab (off:=3) (o_t 5 J) Tryz.underlying77 J (zg (zg (zg (zj _ _) J) J) J) J ty3 J J) (AllT.cons (zt ty3 (o_t 64 J) J J) ?_)
       refine AllT.cons (t_sub (o_t 65 J) oI h42 J J) (AllT.cons (zdn (x:=(e4.1,e4.2.1,(max (e4.2.2.1-1) 0),e4.2.2.2-1)) (ps:=[(0,.tmp 57),(1,.tmp 59),(2,.tmp 63),(3,.tmp 66)]) tyz77 J stt77 (.cons (i:=0) (o_t 57 J) J (zbl (zy _ _ _)) (.cons (i:=1) (o_t 59 J) J (z6 (zbl (zy _ _ _)) J) (.cons (i:=2) (o_t 63 J) J (z6 (z6 (zbl (zy _ _ _)) J) J) (.cons (i:=3) (o_t 66 J) J (z6 (z6 (z6 (zy _ _ _) J) J) J) .nil)))) J J) ?_)
       refine AllT.cons (t_lit (xs:=[.tmp 55,.tmp 67]) (.cons (o_t 55 J) (.cons (o_t 67 J) .nil)) Tryz.underlying46 ty77 J J (by decide) J J) (AllT.cons (zu ((zcc h44).frz) (xs:=[.tmp 52,.tmp 68]) (.cons (o_t 52 J) (.cons (o_t 68 J) .nil)) J J) ?_)
       refine AllT.cons (t_lit (xs:=[.tmp 69]) (.cons (o_t 69 J) .nil) Tryz.underlying25 ty47 J J (by decide) J J) ?_
       exact AllT.nil
      intro a s _ L
      refine zd2 (L':=[]) 71 L (o_t 51 J) (o_t 70 J) Tryz.underlying25 ty47 h45 J J J J .nil fun a s og46 hg_ L=>?_
      refine sx 8 (zd (o_t 71 J) J J) L fun a s _ L=>en' ?_
      exact J37 (out27++[r43]) og46 a s (L.keep (.cons (t:=8) J (fun _ _ h_=>h_) .nil)) h
     ·replace h:=h.2 hb_
      refine wp_skip ?_
      exact J37 out27 og28 a s (L.keep (.cons (t:=8) J (fun _ _ h_=>h_) .nil)) h
    refine cnd L J (fun hb_=>?_) (fun hb_=>?_)
    ·obtain ⟨r47,h48,h49,h⟩:=h.1 hb_
     refine rg (sx 43 (zb (o_t 8 J) J J) L fun a s _ L=>?_)
     refine sx 44 (zb (o_t 6 J) J J) L fun a s _ L=>sx 45 (zu ((zcc h48).frz) (xs:=[.tmp 44,.const (.slice none 0 0)]) (.cons (o_t 44 J) (.cons o_nilr .nil)) J J) L fun a s _ L=>sx 46 (t_lit (xs:=[.tmp 45]) (.cons (o_t 45 J) .nil) Tryz.underlying25 ty47 J J (by decide) J J) L fun a s _ L=>?_
     have lt_og50_0:=L.blt 5 rfl
     have lt_og50_1:=L.blt 7 rfl
     refine zd2 (L':=[(5,(Pd.box En.SItem s0.w.heap.size g7 e4)),(6,(Pd.rep (En.slice En.SItem) (s_.drop (1:Int).toNat))),(7,(Pd.box En.SNode s0.w.heap.size g11 e9)),(8,(Pd.row (En.slice En.SItem) s0.w.heap.size 47 none ([]:(List (List SItem)))))]) 47 L (o_t 43 J) (o_t 46 J) Tryz.underlying25 ty47 h49 J J J J (.cons (t:=5) J (Dis.bx (Dis.symm Dis.none)) (.k 6 (.cons (t:=7) J (Dis.bx (Dis.symm Dis.none)) (.cons (t:=8) J no_own .nil)))) fun a s og50 hg_ L=>?_
     have d51:Dis og50 (some g7):=Dis.app hg_ Dis.none lt_og50_0
     have d52:Dis og50 (some g11):=Dis.app hg_ Dis.none lt_og50_1
     refine sx 8 (zd (o_t 47 J) J J) L fun a s _ L=>en' ?_
     exact J29 (([]:(List (List SItem)))++[r47]) og50 a s (L.keep (.cons (t:=5) J (fun _ _ h_=>h_) (.k 6 (.cons (t:=7) J (fun _ _ h_=>h_) (.cons (t:=8) J (fun _ _ h_=>h_) .nil))))) (Dis.symm d12) (Dis.symm d51) (Dis.symm d52) h
    ·replace h:=h.2 hb_
     refine wp_skip ?_
     exact J29 ([]:(List (List SItem))) none a s (L.keep (.cons (t:=5) J (fun _ _ h_=>h_) (.k 6 (.cons (t:=7) J (fun _ _ h_=>h_) (.cons (t:=8) J (fun _ _ h_=>h_) .nil))))) (Dis.symm d12) (Dis.symm Dis.none) (Dis.symm Dis.none) h
   ·replace h:=h.2 hb_
    refine wp_skip ?_
    show K13 a s.w
    refine hK13 _ _ (wp_seq_k fun K53 hK53=>?_)
    refine wp_seq_k fun K54 hK54=>rg (sx 73 (t_fab (off:=0) (o_t 7 J) Tryz.underlying68 J (zn (zj _ _)) J ty3 J J) L fun a s _ L=>?_)
    refine sx 74 (zt ty3 (o_t 73 J) J J) L fun a s _ L=>en' (hK54 _ _ ?_)
    refine wp_block (wp_seq_k fun K55 hK55=>?_)
    refine rg (sx 76 (t_eqi (o_t 74 J) oI J J) L fun a s _ L=>?_)
    refine sx 75 (zd (o_t 76 J) J J) L fun a s _ L=>en' (hK55 _ _ ?_)
    refine cnd L J (fun hb_=>?_) (fun hb_=>?_)
    ·replace h:=h.1 hb_
     refine wp_seq_k fun K56 hK56=>?_
     obtain ⟨r57,h58,h⟩:=h
     refine rg (sx 77 (zb (o_t 6 J) J J) L fun a s _ L=>?_)
     refine sx 78 (zu ((zcc h58).frz) (xs:=[.tmp 77,.const (.slice none 0 0)]) (.cons (o_t 77 J) (.cons o_nilr .nil)) J J) L fun a s _ L=>?_
     have lt_d61:=L.blt 7 rfl
     have lt_d60:=L.blt 5 rfl
     refine st_lito (xs:=[.tmp 78]) 79 L (.cons (o_t 78 J) .nil) Tryz.underlying25 ty47 J J (by decide) J J J J fun a s g59 hg_ L=>?_
     have d60:Dis (some g59) (some g7):=Dis.newg hg_ lt_d60
     have d61:Dis (some g59) (some g11):=Dis.newg hg_ lt_d61
     refine sx 4 (zd (o_t 79 J) J J) L fun a s _ L=>en' (hK56 _ _ ?_)
     subst h
     exact wp_ret (reto J L J)
    ·replace h:=h.2 hb_
     refine wp_seq_k fun K62 hK62=>rg (sx 81 (t_eqi (o_t 74 J) oI J J) L fun a s _ L=>?_)
     refine sx 80 (zd (o_t 81 J) J J) L fun a s _ L=>en' (hK62 _ _ ?_)
     refine cnd L J (fun hb_=>?_) (fun hb_=>?_)
     ·replace h:=h.1 hb_
      refine wp_seq_k fun K63 hK63=>?_
      obtain ⟨r64,h65,h⟩:=h
      refine rg (sx 82 (zb (o_t 6 J) J J) L fun a s _ L=>?_)
      refine sx 83 (t_fab (off:=1) (o_t 5 J) Tryz.underlying77 J (zg (zn (zj _ _)) J) J ty3 J J) L fun a s _ L=>sx 84 (zt ty3 (o_t 83 J) J J) L fun a s _ L=>sx 85 (zdn (x:=(3,e4.2.1,0,0)) (ps:=[(0,.const (.int .i64 3)),(1,.tmp 84)]) tyz77 J stt77 (.cons (i:=0) oI J (zbl (zy _ _ _)) (.cons (i:=1) (o_t 84 J) J (z6 (zbl (zy _ _ _)) J) .nil)) J J) L fun a s _ L=>sx 86 (t_lit (xs:=[.tmp 85]) (.cons (o_t 85 J) .nil) Tryz.underlying46 ty77 J J (by decide) J J) L fun a s _ L=>sx 87 (zu ((zcc h65).frz) (xs:=[.tmp 82,.tmp 86]) (.cons (o_t 82 J) (.cons (o_t 86 J) .nil)) J J) L fun a s _ L=>?_
      have lt_d68:=L.blt 7 rfl
      have lt_d67:=L.blt 5 rfl
      refine st_lito (xs:=[.tmp 87]) 88 L (.cons (o_t 87 J) .nil) Tryz.underlying25 ty47 J J (by decide) J J J J fun a s g66 hg_ L=>?_
      have d67:Dis (some g66) (some g7):=Dis.newg hg_ lt_d67
      have d68:Dis (some g66) (some g11):=Dis.newg hg_ lt_d68
      refine sx 4 (zd (o_t 88 J) J J) L fun a s _ L=>en' (hK63 _ _ ?_)
      subst h
      exact wp_ret (reto J L J)
     ·replace h:=h.2 hb_
      refine wp_seq_k fun K69 hK69=>rg (sx 90 (t_eqi (o_t 74 J) oI J J) L fun a s _ L=>?_)
      refine sx 89 (zd (o_t 90 J) J J) L fun a s _ L=>en' (hK69 _ _ ?_)
      refine cnd L J (fun hb_=>?_) (fun hb_=>?_)
      ·replace h:=h.1 hb_
       refine wp_seq_k fun K70 hK70=>?_
       obtain ⟨r71,h72,r73,h74,r75,h76,h⟩:=h
       refine rda zbk 9 [(Pd.rep (En.slice En.SItem) (s_.drop (1:Int).toNat)),(Pd.optr (En.int .i64) s0.w.heap.size (some g11) (1) e9.2.1),(Pi e9.2.1),(Pd.rep En.SItem r71),(Pd.optr (En.int .i64) s0.w.heap.size (some g11) (2) e9.2.2.1),(Pi e9.2.2.1),(Pd.rep En.SItem r73),(Pd.rep (En.slice En.SItem) [r71,r73]),(Pd.rep (En.slice En.SItem) r75)] L (by kernel_rfl) J J ?_ ?_
       ·refine AllT.cons (zb (o_t 6 J) J J) ?_
        refine AllT.cons (t_fab (off:=1) (o_t 7 J) Tryz.underlying68 J (zg (zn (zj _ _)) J) J ty3 J J) (AllT.cons (zt ty3 (o_t 92 J) J J) ?_)
        refine AllT.cons (zu (zdx h72) (xs:=[.tmp 93]) (.cons (o_t 93 J) .nil) J J) (AllT.cons (t_fab (off:=2) (o_t 7 J) Tryz.underlying68 J (zg (zg (zn (zj _ _)) J) J) J ty3 J J) ?_)
        refine AllT.cons (zt ty3 (o_t 95 J) J J) (AllT.cons (zu (zdx h74) (xs:=[.tmp 96]) (.cons (o_t 96 J) .nil) J J) ?_)
        refine AllT.cons (t_lit (xs:=[.tmp 94,.tmp 97]) (.cons (o_t 94 J) (.cons (o_t 97 J) .nil)) Tryz.underlying46 ty77 J J (by decide) J J) (AllT.cons (zu ((zcc h76).frz) (xs:=[.tmp 91,.tmp 98]) (.cons (o_t 91 J) (.cons (o_t 98 J) .nil)) J J) ?_)
        exact AllT.nil
       intro a s _ L
       have lt_d79:=L.blt 7 rfl
       have lt_d78:=L.blt 5 rfl
       refine st_lito (xs:=[.tmp 99]) 100 L (.cons (o_t 99 J) .nil) Tryz.underlying25 ty47 J J (by decide) J J J J fun a s g77 hg_ L=>?_
       have d78:Dis (some g77) (some g7):=Dis.newg hg_ lt_d78
       have d79:Dis (some g77) (some g11):=Dis.newg hg_ lt_d79
       refine sx 4 (zd (o_t 100 J) J J) L fun a s _ L=>en' (hK70 _ _ ?_)
       subst h
       exact wp_ret (reto J L J)
      ·replace h:=h.2 hb_
       refine wp_seq_k fun K80 hK80=>rg (sx 102 (t_eqi (o_t 74 J) oI J J) L fun a s _ L=>?_)
       refine sx 101 (zd (o_t 102 J) J J) L fun a s _ L=>en' (hK80 _ _ ?_)
       refine cnd L J (fun hb_=>?_) (fun hb_=>?_)
       ·replace h:=h.1 hb_
        refine wp_seq_k fun K81 hK81=>?_
        obtain ⟨r82,h83,r84,h85,r86,h87,r88,h89,h⟩:=h
        refine rda zbk 12 [(Pd.rep (En.slice En.SItem) (s_.drop (1:Int).toNat)),(Pd.optr (En.int .i64) s0.w.heap.size (some g11) (1) e9.2.1),(Pi e9.2.1),(Pd.rep En.SItem r82),(Pd.rep (En.slice En.SItem) [r82]),(Pd.rep (En.slice En.SItem) r84),(Pd.rep (En.slice En.SItem) (s_.drop (1:Int).toNat)),(Pd.optr (En.int .i64) s0.w.heap.size (some g11) (2) e9.2.2.1),(Pi e9.2.2.1),(Pd.rep En.SItem r86),(Pd.rep (En.slice En.SItem) [r86]),(Pd.rep (En.slice En.SItem) r88)] L (by kernel_rfl) J J ?_ ?_
        ·refine AllT.cons (zb (o_t 6 J) J J) ?_
         refine AllT.cons (t_fab (off:=1) (o_t 7 J) Tryz.underlying68 J (zg (zn (zj _ _)) J) J ty3 J J) (AllT.cons (zt ty3 (o_t 104 J) J J) ?_)
         refine AllT.cons (zu (zdx h83) (xs:=[.tmp 105]) (.cons (o_t 105 J) .nil) J J) (AllT.cons (t_lit (xs:=[.tmp 106]) (.cons (o_t 106 J) .nil) Tryz.underlying46 ty77 J J (by decide) J J) ?_)
         refine AllT.cons (zu ((zcc h85).frz) (xs:=[.tmp 103,.tmp 107]) (.cons (o_t 103 J) (.cons (o_t 107 J) .nil)) J J) (AllT.cons (zb (o_t 6 J) J J) ?_)
         refine AllT.cons (t_fab (off:=2) (o_t 7 J) Tryz.underlying68 J (zg (zg (zn (zj _ _)) J) J) J ty3 J J) (AllT.cons (zt ty3 (o_t 110 J) J J) ?_)
         refine AllT.cons (zu (zdx h87) (xs:=[.tmp 111]) (.cons (o_t 111 J) .nil) J J) (AllT.cons (t_lit (xs:=[.tmp 112]) (.cons (o_t 112 J) .nil) Tryz.underlying46 ty77 J J (by decide) J J) ?_)
         refine AllT.cons (zu ((zcc h89).frz) (xs:=[.tmp 109,.tmp 113]) (.cons (o_t 109 J) (.cons (o_t 113 J) .nil)) J J) ?_
         exact AllT.nil
        intro a s _ L
        have lt_d92:=L.blt 7 rfl
        have lt_d91:=L.blt 5 rfl
        refine st_lito (xs:=[.tmp 108,.tmp 114]) 115 L (.cons (o_t 108 J) (.cons (o_t 114 J) .nil)) Tryz.underlying25 ty47 J J (by decide) J J J J fun a s g90 hg_ L=>?_
        have d91:Dis (some g90) (some g7):=Dis.newg hg_ lt_d91
        have d92:Dis (some g90) (some g11):=Dis.newg hg_ lt_d92
        refine sx 4 (zd (o_t 115 J) J J) L fun a s _ L=>en' (hK81 _ _ ?_)
        subst h
        exact wp_ret (reto J L J)
       ·replace h:=h.2 hb_
        refine wp_seq_k fun K93 hK93=>rg (sx 117 (t_eqi (o_t 74 J) oI J J) L fun a s _ L=>?_)
        refine sx 116 (zd (o_t 117 J) J J) L fun a s _ L=>en' (hK93 _ _ ?_)
        refine cnd L J (fun hb_=>?_) (fun hb_=>?_)
        ·replace h:=h.1 hb_
         refine wp_seq_k fun K94 hK94=>?_
         obtain ⟨r95,h96,r97,h98,r99,h100,h⟩:=h
         refine rda zbk 9 [(Pd.rep (En.slice En.SItem) (s_.drop (1:Int).toNat)),(Pd.rep (En.slice En.SItem) r95),(Pd.rep (En.slice En.SItem) (s_.drop (1:Int).toNat)),(Pd.optr (En.int .i64) s0.w.heap.size (some g11) (1) e9.2.1),(Pi e9.2.1),(Pd.rep En.SItem r97),(Pd.rep En.SItem e4),(Pd.rep (En.slice En.SItem) [r97,e4]),(Pd.rep (En.slice En.SItem) r99)] L (by kernel_rfl) J J ?_ ?_
         ·refine AllT.cons (zb (o_t 6 J) J J) ?_
          refine AllT.cons (zu ((zcc h96).frz) (xs:=[.tmp 118,.const (.slice none 0 0)]) (.cons (o_t 118 J) (.cons o_nilr .nil)) J J) (AllT.cons (zb (o_t 6 J) J J) ?_)
          refine AllT.cons (t_fab (off:=1) (o_t 7 J) Tryz.underlying68 J (zg (zn (zj _ _)) J) J ty3 J J) (AllT.cons (zt ty3 (o_t 121 J) J J) ?_)
          refine AllT.cons (zu (zdx h98) (xs:=[.tmp 122]) (.cons (o_t 122 J) .nil) J J) (AllT.cons (zbh ty77 (o_t 5 J) J J) ?_)
          refine AllT.cons (t_lit (xs:=[.tmp 123,.tmp 124]) (.cons (o_t 123 J) (.cons (o_t 124 J) .nil)) Tryz.underlying46 ty77 J J (by decide) J J) (AllT.cons (zu ((zcc h100).frz) (xs:=[.tmp 120,.tmp 125]) (.cons (o_t 120 J) (.cons (o_t 125 J) .nil)) J J) ?_)
          exact AllT.nil
         intro a s _ L
         have lt_d103:=L.blt 7 rfl
         have lt_d102:=L.blt 5 rfl
         refine st_lito (xs:=[.tmp 119,.tmp 126]) 127 L (.cons (o_t 119 J) (.cons (o_t 126 J) .nil)) Tryz.underlying25 ty47 J J (by decide) J J J J fun a s g101 hg_ L=>?_
         have d102:Dis (some g101) (some g7):=Dis.newg hg_ lt_d102
         have d103:Dis (some g101) (some g11):=Dis.newg hg_ lt_d103
         refine sx 4 (zd (o_t 127 J) J J) L fun a s _ L=>en' (hK94 _ _ ?_)
         subst h
         exact wp_ret (reto J L J)
        ·replace h:=h.2 hb_
         refine wp_skip ?_
         show K53 a s.w
         refine hK53 _ _ (wp_seq_k fun K104 hK104=>?_)
         obtain ⟨r105,h106,h⟩:=h
         refine rg (sx 128 (zb (o_t 6 J) J J) L fun a s _ L=>?_)
         refine sx 129 (t_fab (off:=1) (o_t 5 J) Tryz.underlying77 J (zg (zn (zj _ _)) J) J ty3 J J) L fun a s _ L=>sx 130 (zt ty3 (o_t 129 J) J J) L fun a s _ L=>sx 131 (t_fab (off:=3) (o_t 7 J) Tryz.underlying68 J (zg (zg (zg (zn (zj _ _)) J) J) J) J ty3 J J) L fun a s _ L=>sx 132 (zt ty3 (o_t 131 J) J J) L fun a s _ L=>sx 133 (t_fab (off:=4) (o_t 7 J) Tryz.underlying68 J (zg (zg (zg (zg (zn (zj _ _)) J) J) J) J) J ty3 J J) L fun a s _ L=>sx 134 (zt ty3 (o_t 133 J) J J) L fun a s _ L=>sx 135 (zdn (x:=(2,e4.2.1,e9.2.2.2.1,e9.2.2.2.2.1)) (ps:=[(0,.const (.int .i64 2)),(1,.tmp 130),(2,.tmp 132),(3,.tmp 134)]) tyz77 J stt77 (.cons (i:=0) oI J (zbl (zy _ _ _)) (.cons (i:=1) (o_t 130 J) J (z6 (zbl (zy _ _ _)) J) (.cons (i:=2) (o_t 132 J) J (z6 (z6 (zbl (zy _ _ _)) J) J) (.cons (i:=3) (o_t 134 J) J (z6 (z6 (z6 (zy _ _ _) J) J) J) .nil)))) J J) L fun a s _ L=>sx 136 (t_lit (xs:=[.tmp 135]) (.cons (o_t 135 J) .nil) Tryz.underlying46 ty77 J J (by decide) J J) L fun a s _ L=>sx 137 (zu ((zcc h106).frz) (xs:=[.tmp 128,.tmp 136]) (.cons (o_t 128 J) (.cons (o_t 136 J) .nil)) J J) L fun a s _ L=>?_
         have lt_d109:=L.blt 7 rfl
         have lt_d108:=L.blt 5 rfl
         refine st_lito (xs:=[.tmp 137]) 138 L (.cons (o_t 137 J) .nil) Tryz.underlying25 ty47 J J (by decide) J J J J fun a s g107 hg_ L=>?_
         have d108:Dis (some g107) (some g7):=Dis.newg hg_ lt_d108
         have d109:Dis (some g107) (some g11):=Dis.newg hg_ lt_d109
         refine sx 4 (zd (o_t 138 J) J J) L fun a s _ L=>en' (hK104 _ _ ?_)
         subst h
         exact wp_ret (reto J L J)
end Go.Proofs.YtahgmdbioafmbaaGreatDoor.V
namespace Go.Proofs.YtahgmdbioafmbaaGreatDoor.VD
open Go
set_option linter.unusedVariables false
structure St where
 w:World
 X:Nat→Prop
 lt:∀b,X b→b<w.heap.size
def DR (w w':World):Prop:=w.drawn≤w'.drawn
theorem DR.eq {w w':World} (h:w'.drawn=w.drawn):DR w w':=Nat.le_of_eq h.symm
theorem DR.succ {w w':World} (h:w'.drawn=w.drawn+1):DR w w':=by unfold DR;omega
theorem DR.trans {a b c:World} (h:DR a b) (k:DR b c):DR a c:=Nat.le_trans h k
structure Mv (T:Nat→Prop) (s s':St):Prop where
 dr:DR s.w s'.w
 os:s'.w.os=s.w.os
 tape:s'.w.tape=s.w.tape
 output:s'.w.output=s.w.output
 size:s.w.heap.size≤s'.w.heap.size
 blk:∀b,b<s.w.heap.size→¬ T b→s'.w.heap[b]?=s.w.heap[b]?
 tx:∀b,T b→s.X b
 xx:∀b,s'.X b→s.X b∨s.w.heap.size≤b
structure Ex (s s':St):Prop where
 mv:Mv (fun _=>False) s s'
 keep:∀b,s.X b→s'.X b
theorem Mv.refl (T:Nat→Prop) (s:St) (h:∀b,T b→s.X b):Mv T s s:=⟨DR.eq rfl,rfl,rfl,rfl,Nat.le_refl _,fun _ _ _=>rfl,h,fun _ h=>.inl h⟩
theorem Ex.refl (s:St):Ex s s:=⟨Mv.refl _ s (fun _ h=>h.elim),fun _ h=>h⟩
theorem Ex.trans {a b c:St} (h:Ex a b) (k:Ex b c):Ex a c:=
 ⟨⟨h.mv.dr.trans k.mv.dr,k.mv.os.trans h.mv.os,k.mv.tape.trans h.mv.tape,k.mv.output.trans h.mv.output,Nat.le_trans h.mv.size k.mv.size,
  fun i hi hn=>(k.mv.blk i (Nat.lt_of_lt_of_le hi h.mv.size) hn).trans (h.mv.blk i hi hn),fun _ h=>h.elim,
  fun i hi=>(k.mv.xx i hi).elim (fun j=>h.mv.xx i j) (fun j=>.inr (Nat.le_trans h.mv.size j))⟩,fun i hi=>k.keep i (h.keep i hi)⟩
def Gl (s:St):Prop:=(∀p∈V.gtab,¬ s.X p.1∧∃t fr,s.w.heap[p.1]?=some (.cells p.2.toArray t fr)) ∧
 ∀p∈V.gmap,¬ s.X p.1∧∃m t fr es clock ys,s.w.heap[p.1]?=some (.cells #[.map (some m)] t fr)∧¬ s.X m∧s.w.heap[m]?=some (.map es clock)∧V.Fmst es clock ys∧ys.Perm p.2
theorem Gl.mv {T:Nat→Prop} {s s':St} (h:Gl s) (m:Mv T s s'):Gl s':=by
 have key:∀b o,¬ s.X b→s.w.heap[b]?=some o→¬ s'.X b∧s'.w.heap[b]?=some o:=fun b o h1 h2=>by
  have hlt:b<s.w.heap.size:=(Array.getElem?_eq_some_iff.1 h2).1
  refine ⟨fun hx=>(m.xx _ hx).elim h1 (fun hk=>by omega), ?_⟩
  rw [m.blk _ hlt (fun ht=>h1 (m.tx _ ht))];exact h2
 refine ⟨fun p hp=>?_,fun p hp=>?_⟩
 ·obtain ⟨h1,t,fr,h2⟩:=h.1 p hp
  obtain ⟨k1,k2⟩:=key _ _ h1 h2
  exact ⟨k1,t,fr,k2⟩
 ·obtain ⟨h1,b,t,fr,es,clock,ys,h2,h3,h4,h5,h6⟩:=h.2 p hp
  obtain ⟨k1,k2⟩:=key _ _ h1 h2
  obtain ⟨k3,k4⟩:=key _ _ h3 h4
  exact ⟨k1,b,t,fr,es,clock,ys,k2,k3,k4,h5,h6⟩
abbrev N0:Nat→Prop:=fun _=>False
structure Fr (M:Nat→Prop) (s s':St):Prop where
 mv:Mv M s s'
 keep:∀b,s.X b→s'.X b
theorem Fr.ex {s s':St} (h:Fr N0 s s'):Ex s s':=⟨h.mv,h.keep⟩
theorem Fr.refl {M:Nat→Prop} {s:St} (h:∀b,M b→s.X b):Fr M s s:=⟨Mv.refl M s h,fun _ h=>h⟩
theorem Fr.trans {M:Nat→Prop} {a b c:St} (h:Fr M a b) (k:Ex b c):Fr M a c:=
 ⟨⟨h.mv.dr.trans k.mv.dr,k.mv.os.trans h.mv.os,k.mv.tape.trans h.mv.tape,k.mv.output.trans h.mv.output,Nat.le_trans h.mv.size k.mv.size,
  fun i hi hn=>(k.mv.blk i (Nat.lt_of_lt_of_le hi h.mv.size) (fun h=>h)).trans (h.mv.blk i hi hn),h.mv.tx,
  fun i hi=>(k.mv.xx i hi).elim (fun j=>h.mv.xx i j) (fun j=>.inr (Nat.le_trans h.mv.size j))⟩,fun i hi=>k.keep i (h.keep i hi)⟩
structure Pd where
 p:St→Value→Prop
 own:Nat→Prop
 mv:∀{T s s' v},Mv T s s'→(∀b,own b→¬ T b∧(s.X b→s'.X b))→p s v→p s' v
theorem Pd.ex {q:Pd} {s s':St} {v:Value} (h:Ex s s') (hq:q.p s v):q.p s' v:=q.mv h.mv (fun b _=>⟨id,h.keep b⟩) hq
abbrev Lst:=List (Nat × Pd)
def lk:Lst→Nat→Option Pd
 | [],_=>none
 | (d,q)::r,t=>bif Nat.beq d t then some q else lk r t
structure Has (M:Nat→Prop) (n:Nat) (s0:St) (a:Act) (s:St) (L:Lst):Prop where
 size:a.tmps.size=n
 defers:a.defers=[]
 ent:Fr M s0 s
 gl:Gl s0
 at_:∀t q,lk L t=some q→q.p s (a.eval (.tmp t))
theorem Has.gls {M:Nat→Prop} {n:Nat} {s0:St} {a:Act} {s:St} {L:Lst} (h:Has M n s0 a s L):Gl s:=h.gl.mv h.ent.mv
theorem Has.get {M:Nat→Prop} {n:Nat} {s0:St} {a:Act} {s:St} {L:Lst} (h:Has M n s0 a s L) (t:Nat) {q:Pd} (e:lk L t=some q):q.p s (a.eval (.tmp t)):=h.at_ t q e
theorem zdz {a:Act} {d n:Nat} {v:Value} (hn:a.tmps.size=n) (hd:Nat.blt d n=true):(a.put (some d) v).eval (.tmp d)=v:=by
 have:d<a.tmps.size:=by rw [hn];exact Nat.le_of_ble_eq_true hd
 simp [Act.eval,Act.put,Array.getD,this]
theorem eval_put_ne {a:Act} {d t:Nat} {v:Value} (h:d≠t):(a.put (some d) v).eval (.tmp t)=a.eval (.tmp t):=by
 simp [Act.eval,Act.put,Array.getElem?_setIfInBounds_ne h]
theorem beq_no {d t:Nat} (h:d≠t):Nat.beq d t=false:=by
 rw [← Bool.not_eq_true];exact fun e=>h (Nat.eq_of_beq_eq_true e)
theorem Has.put {M:Nat→Prop} {n:Nat} {s0:St} {a:Act} {s s':St} {L:Lst} (h:Has M n s0 a s L) (e:Ex s s') {d:Nat} (hd:Nat.blt d n=true) {v:Value} {q:Pd} (hq:q.p s' v):
  Has M n s0 (a.put (some d) v) s' ((d,q)::L) where
 size:=by simp [Act.put,h.size]
 defers:=h.defers
 ent:=h.ent.trans e
 gl:=h.gl
 at_:=by
  intro t q' hl
  unfold lk at hl
  by_cases ht:d=t
  ·subst ht
   simp at hl
   subst hl
   rw [zdz h.size hd];exact hq
  ·have:Nat.beq d t=false:=beq_no ht
   rw [this] at hl
   rw [eval_put_ne ht]
   exact Pd.ex e (h.at_ t q' hl)
theorem Has.ex {M:Nat→Prop} {n:Nat} {s0:St} {a:Act} {s s':St} {L:Lst} (h:Has M n s0 a s L) (e:Ex s s'):Has M n s0 a s' L where
 size:=h.size
 defers:=h.defers
 ent:=h.ent.trans e
 gl:=h.gl
 at_:=fun t q hl=>Pd.ex e (h.at_ t q hl)
theorem Has.sub {M:Nat→Prop} {n:Nat} {s0:St} {a:Act} {s:St} {L L':Lst} (h:Has M n s0 a s L) (hs:∀t q,lk L' t=some q→q.p s (a.eval (.tmp t))):Has M n s0 a s L':=
 ⟨h.size,h.defers,h.ent,h.gl,hs⟩
theorem Has.cons {M:Nat→Prop} {n:Nat} {s0:St} {a:Act} {s:St} {L:Lst} (h:Has M n s0 a s L) (d:Nat) {q:Pd} (hq:q.p s (a.eval (.tmp d))):Has M n s0 a s ((d,q)::L):=by
 refine ⟨h.size,h.defers,h.ent,h.gl,fun t q' hl=>?_⟩
 unfold lk at hl
 by_cases ht:d=t
 ·subst ht;simp at hl;subst hl;exact hq
 ·have:Nat.beq d t=false:=beq_no ht
  rw [this] at hl;exact h.at_ t q' hl
def OpR (P:Program) (ops:Array Oper) (o:Oper) (a:Act) (s:St) (K:Value→St→Prop):Prop:=
 ∀(Q:Exit→Act→World→Prop) (k:Act→World→Prop),(∀v s',K v s'→k (a.put o.dst v) s'.w) →
  (if Region.wanted o (yielded ops a.tmps) then o.wp P a s.w k Q else k (a.put o.dst undef) s.w)
def T (P:Program) (ops:Array Oper) (o:Oper) (L:Lst) (q:Pd):Prop:=
 ∀M n s0 a s,Has M n s0 a s L→OpR P ops o a s (fun v s'=>Ex s s'∧q.p s' v)
theorem OpR.of_run {P:Program} {ops:Array Oper} {o:Oper} {a:Act} {s:St} {K:Value→St→Prop} (hg:o.guard=none) {v:Value} {s':St}
  (h:(execOp a.eval o).run P s.w = .ok (.value v) s'.w) (hK:K v s'):OpR P ops o a s K:=by
 intro Q k hk
 simp only [Region.wanted,hg,if_true]
 unfold Oper.wp
 rw [h]
 exact hk v s' hK
theorem st {P:Program} {ops:Array Oper} {Q:Exit→Act→World→Prop} {rest:List Oper} {o:Oper} {M:Nat→Prop} {n:Nat} {s0:St} {a:Act} {s:St} {L:Lst} {q:Pd} (d:Nat)
  (h:T P ops o L q) (hd:o.dst=some d) (hn:Nat.blt d n=true) (hL:Has M n s0 a s L)
  (k:∀a' s',Ex s s'→Has M n s0 a' s' ((d,q)::L)→wpList P ops Q rest a' s'.w):wpList P ops Q (o::rest) a s.w:=by
 refine wpList_step fun K hK=>?_
 refine h M n s0 a s hL Q K fun v s' ⟨e,hq⟩=>hK _ _ ?_
 rw [hd]
 exact k _ s' e (hL.put e hn hq)
theorem sx {P:Program} {ops:Array Oper} {Q:Exit→Act→World→Prop} {rest:List Oper} {o:Oper} {M:Nat→Prop} {n:Nat} {s0:St} {a:Act} {s:St} {L:Lst} {q:Pd} (d:Nat)
  (h:T P ops o L q) (hL:Has M n s0 a s L) (k:∀a' s',Ex s s'→Has M n s0 a' s' ((d,q)::L)→wpList P ops Q rest a' s'.w) (hd:o.dst=some d:=by rfl) (hn:Nat.blt d n=true:=by rfl):wpList P ops Q (o::rest) a s.w:=st d h hd hn hL k
theorem nE {p:Nat→Prop} (b:Nat) (h:False):p b:=h.elim
theorem en' {P:Program} {ops:Array Oper} {Q:Exit→Act→World→Prop} {a:Act} {w:World} (h:Q .normal a w):wpList P ops Q [] a w:=h
theorem rg {P:Program} {id:Nat} {l:List Oper} {Q:Exit→Act→World→Prop} {a:Act} {w:World} (h:wpList P l.toArray Q l a w):(Code.region id l.toArray false).wp P Q a w:=wp_region_lit h
def depL (ops:Array Oper) (qs:List Pd):List Edge→Lst→Lst
 | [],L=>L
 | e::r,L=>match Region.binds .any e,(ops[e.on]?).bind (·.dst),qs[e.on]? with
  | true,some d,some q=>(d,q)::depL ops qs r L
  | _,_,_=>depL ops qs r L
def reach (ops:Array Oper):Nat→Nat→Nat→Bool
 | 0,_,_=>false
 | f+1,i,k=>match ops[i]? with
  | none=>false
  | some o=>(o.after.toList.any fun e=>Region.binds .any e&&Nat.beq e.on k)||(o.after.toList.any fun e=>Region.binds .any e&&reach ops f e.on k)
theorem zdg {ops:Array Oper} {p:Nat→Prop} (hp:∀i o,p i→ops[i]?=some o→∀e∈o.after.toList,Region.binds .any e=true→p e.on):
  ∀(f i k:Nat),reach ops f i k=true→(∀o,ops[i]?=some o→∀e∈o.after.toList,Region.binds .any e=true→p e.on)→p k:=by
 intro f
 induction f with
 | zero=>intro i k h;cases h
 | succ f ih=>
  intro i k h hi
  unfold reach at h
  cases ho:ops[i]? with
  | none=>rw [ho] at h;cases h
  | some o=>
   simp only [ho,Bool.or_eq_true,List.any_eq_true,Bool.and_eq_true] at h
   rcases h with ⟨e,he,hb,hk⟩ | ⟨e,he,hb,hk⟩
   ·rw [← Nat.eq_of_beq_eq_true hk];exact hi o ho e he hb
   ·have:=hi o ho e he hb
    exact ih e.on k hk fun o' ho'=>hp e.on o' this ho'
def zdt (ops:Array Oper) (m n:Nat) (ks:List Nat) (F:List Nat):Bool:=
 (F.all fun k=>Nat.blt k m) &&
 (List.range ops.size).all fun i=>match ops[i]? with
  | none=>false
  | some o=>(o.after.toList.all fun e=>!Region.binds .any e||Nat.blt e.on i) &&
   (if i<m then F.contains i||(match o.dst with
    | none=>false
    | some d=>Nat.blt d n&&ks.all (fun t=>!Nat.beq t d)&&(List.range m).all fun j=>Nat.beq j i||!((ops[j]?).bind (·.dst)==some d))
   else (List.range i).all fun k=>F.contains k||reach ops ops.size i k)
theorem zcx {ops:Array Oper} {listed:Array Bool} {i:Nat}:i∈Region.ready .any ops listed ↔
  i<ops.size∧listed.getD i true=false∧∃o,ops[i]?=some o∧∀e∈o.after.toList,Region.binds .any e=true→listed.getD e.on false=true:=by
 unfold Region.ready
 simp only [List.mem_filter,List.mem_range,Bool.and_eq_true,Bool.not_eq_true']
 constructor
 ·rintro ⟨h1,h2,h3⟩
  refine ⟨h1,h2, ?_⟩
  cases ho:ops[i]? with
  | none=>simp [ho] at h3
  | some o=>
   refine ⟨o,rfl,fun e he hb=>?_⟩
   simp only [ho,Option.map_some,Option.getD_some] at h3
   rw [← Array.all_toList,List.all_eq_true] at h3
   have:=h3 e he
   simpa [hb] using this
 ·rintro ⟨h1,h2,o,ho,h3⟩
  refine ⟨h1,h2, ?_⟩
  simp only [ho,Option.map_some,Option.getD_some]
  rw [← Array.all_toList,List.all_eq_true]
  intro e he
  cases hb:Region.binds .any e
  ·simp
  ·simp [h3 e he hb]
theorem zcu {listed:Array Bool} {i k:Nat} {d:Bool} (h:i<listed.size):(listed.setIfInBounds i true).getD k d=if k=i then true else listed.getD k d:=by
 simp only [Array.getD_eq_getD_getElem?,Array.getElem?_setIfInBounds]
 by_cases hk:k=i
 ·subst hk;simp [h]
 ·simp [hk,Ne.symm hk]
theorem wpAny_tail {P:Program} {ops:Array Oper} {Q:Exit→Act→World→Prop} {m n:Nat} {ks F:List Nat} (hok:zdt ops m n ks F=true):
  ∀(f k:Nat) (listed:Array Bool) (a:Act) (w:World),k+f=ops.size→m≤k→listed.size=ops.size→(∀i,i<ops.size→listed.getD i true=decide (i<k)) →
   wpOps P ops Q (List.range' k f) a w→wpAny P .any ops Q f listed a w:=by
 unfold zdt at hok
 rw [Bool.and_eq_true] at hok
 obtain ⟨hF,hok⟩:=hok
 rw [List.all_eq_true] at hok hF
 intro f
 induction f with
 | zero=>
  intro k listed a w hk hm hs hl h
  refine ⟨?_,h⟩
  cases hr:Region.ready .any ops listed with
  | nil=>rfl
  | cons x xs=>
   have hx:x∈Region.ready .any ops listed:=by rw [hr];simp
   obtain ⟨h1,h2,_⟩:=zcx.1 hx
   rw [hl x h1] at h2
   simp at h2;omega
 | succ f ih=>
  intro k listed a w hk hm hs hl h
  rw [List.range'_succ,wpOps_cons] at h
  have hkr:k∈Region.ready .any ops listed:=by
   obtain ⟨o,ho⟩:∃o,ops[k]?=some o:=⟨ops[k]'(by omega),by simp⟩
   refine zcx.2 ⟨by omega,by rw [hl k (by omega)];simp,o,ho,fun e he hb=>?_⟩
   have:=hok k (by simp;omega)
   simp only [ho,Bool.and_eq_true] at this
   have h1:=List.all_eq_true.1 this.1 e he
   simp only [hb,Bool.not_true,Bool.false_or] at h1
   have h2:e.on<k:=Nat.le_of_ble_eq_true h1
   have h3:=hl e.on (by omega)
   have h4:listed.getD e.on false=listed.getD e.on true:=by simp [Array.getD,hs,show e.on<ops.size by omega]
   rw [h4,h3];simpa using h2
  refine ⟨fun he=>by rw [he] at hkr;simp at hkr,fun i hi=>?_⟩
  obtain ⟨h1,h2,o,ho,h3⟩:=zcx.1 hi
  have hik:¬ i<k:=by rw [hl i h1] at h2;simpa using h2
  have:i=k:=by
   rcases Nat.lt_or_ge k i with hlt | hge
   ·exfalso
    have h5:=hok i (by simpa using h1)
    simp only [ho,Bool.and_eq_true] at h5
    have h6:=h5.2
    rw [if_neg (by omega),List.all_eq_true] at h6
    have h7:=h6 k (by simpa using hlt)
    have hkF:F.contains k=false:=by
     cases hc:F.contains k
     ·rfl
     ·have:=hF k (by simpa using hc)
      have:k<m:=Nat.le_of_ble_eq_true this
      omega
    rw [hkF,Bool.false_or] at h7
    have h8:=zdg (ops:=ops) (p:=fun j=>listed.getD j false=true) (fun j o' hj ho' e he hb=>by
     have hjs:j<ops.size:=by
      rcases Nat.lt_or_ge j ops.size with h | h
      ·exact h
      ·simp [Array.getElem?_eq_none h] at ho'
     have hjk:j<k:=by
      have:listed.getD j false=listed.getD j true:=by simp [Array.getD,hs,hjs]
      rw [this,hl j hjs] at hj;simpa using hj
     have hok2:=hok j (by simpa using hjs)
     simp only [ho',Bool.and_eq_true] at hok2
     have h9:=List.all_eq_true.1 hok2.1 e he
     simp only [hb,Bool.not_true,Bool.false_or] at h9
     have h10:e.on<j:=Nat.le_of_ble_eq_true h9
     have:listed.getD e.on false=listed.getD e.on true:=by simp [Array.getD,hs,show e.on<ops.size by omega]
     rw [this,hl e.on (by omega)];simp;omega) _ i k h7 (fun o' ho'=>by rw [ho] at ho';cases ho';exact h3)
    have h10:listed.getD k false=listed.getD k true:=by simp [Array.getD,hs,show k<ops.size by omega]
    rw [h10,hl k (by omega)] at h8
    simp at h8
   ·omega
  subst this
  refine wpOp_mono (fun a w hw=>ih (i+1) _ a w (by omega) (by omega) (by simpa using hs) (fun j hj=>?_) hw) h
  rw [zcu (by omega),hl j hj]
  by_cases hj':j=i
  ·simp [hj']
  ·simp only [if_neg hj',decide_eq_decide];omega
theorem depL_has {ops:Array Oper} {qs:List Pd} {M:Nat→Prop} {n:Nat} {s0:St} {a:Act} {s:St} {L:Lst} (hL:Has M n s0 a s L):
  ∀(es:List Edge),(∀e∈es,Region.binds .any e=true→∀d q,(ops[e.on]?).bind (·.dst)=some d→qs[e.on]?=some q→q.p s (a.eval (.tmp d)))→Has M n s0 a s (depL ops qs es L)
 | [],_=>hL
 | e::r,h=>by
  have ih:=depL_has hL r (fun e' he'=>h e' (by simp [he']))
  unfold depL
  split
  ·rename_i d q hb hd hq
   exact ih.cons d (h e (by simp) hb d q hd hq)
  ·exact ih
theorem lk_none {L:Lst} {d:Nat} (h:(L.map (·.1)).all (fun t=>!Nat.beq t d)=true):lk L d=none:=by
 induction L with
 | nil=>rfl
 | cons x r ih=>
  simp only [List.map_cons,List.all_cons,Bool.and_eq_true,Bool.not_eq_true'] at h
  unfold lk
  rw [h.1];exact ih h.2
def newL (ops:Array Oper) (qs:List Pd):Nat→Lst→Lst
 | 0,L=>L
 | i+1,L=>match (ops[i]?).bind (·.dst),qs[i]? with
  | some d,some q=>(d,q)::newL ops qs i L
  | _,_=>newL ops qs i L
theorem newL_has {ops:Array Oper} {qs:List Pd} {M:Nat→Prop} {n:Nat} {s0:St} {a:Act} {s:St} {L:Lst} (hL:Has M n s0 a s L):
  ∀m,(∀i,i<m→∀d q,(ops[i]?).bind (·.dst)=some d→qs[i]?=some q→q.p s (a.eval (.tmp d)))→Has M n s0 a s (newL ops qs m L)
 | 0,_=>hL
 | m+1,h=>by
  have ih:=newL_has hL m (fun i hi=>h i (by omega))
  unfold newL
  split
  ·rename_i d q hd hq
   exact ih.cons d (h m (by omega) d q hd hq)
  ·exact ih
theorem rd_key {P:Program} {ops:Array Oper} {Q:Exit→Act→World→Prop} {M:Nat→Prop} {n:Nat} {s0:St} {s:St} {L:Lst} (m:Nat) (qs:List Pd) (F:List Nat)
  (hok:zdt ops m n (L.map (·.1)) F=true) (hq:qs.length=m) (hm:m≤ops.size)
  (hT:∀i o q,i<m→ops[i]?=some o→qs[i]?=some q→F.contains i=false→T P ops o (depL ops qs o.after.toList L) q)
  (hB:∀a' s',Ex s s'→Has M n s0 a' s' (newL ops qs m L)→wpOps P ops Q (List.range' m (ops.size-m)) a' s'.w):
  ∀(f:Nat) (listed:Array Bool) (a:Act) (s':St),listed.size=ops.size→((List.range ops.size).filter (fun i=>!listed.getD i true)).length=f→Ex s s'→Has M n s0 a s' L →
   (∀i o,listed.getD i false=true→ops[i]?=some o→∀e∈o.after.toList,Region.binds .any e=true→listed.getD e.on false=true)→(∀i,i<ops.size→m≤i→listed.getD i true=false) →
   (∀i,i<m→listed.getD i true=true→∀d q,(ops[i]?).bind (·.dst)=some d→qs[i]?=some q→q.p s' (a.eval (.tmp d)))→(∀i∈F,listed.getD i true=true)→wpAny P .any ops Q f listed a s'.w:=by
 have hok':=hok
 unfold zdt at hok'
 rw [Bool.and_eq_true] at hok'
 obtain ⟨hF,hok'⟩:=hok'
 rw [List.all_eq_true] at hok'
 intro f
 induction f with
 | zero=>
  intro listed a s' hs hc e hL' hcl hn hd hl0
  have hall:∀i,i<ops.size→listed.getD i true=true:=by
   intro i hi
   have:(List.range ops.size).filter (fun i=>!listed.getD i true)=[]:=List.length_eq_zero_iff.1 hc
   rw [List.filter_eq_nil_iff] at this
   have:=this i (by simpa using hi)
   simpa using this
  have hmm:m=ops.size:=by
   rcases Nat.lt_or_ge m ops.size with h | h
   ·have:=hn m h (Nat.le_refl _);rw [hall m h] at this;cases this
   ·omega
  refine wpAny_tail hok 0 ops.size listed a s'.w (by omega) (by omega) hs (fun i hi=>by rw [hall i hi];simp [hi]) ?_
  have:=hB a s' e (newL_has hL' m fun i hi=>hd i hi (hall i (by omega)))
  rw [hmm] at this;simpa using this
 | succ f ih=>
  intro listed a s' hs hc e hL' hcl hn hd hl0
  by_cases hdone:∀i,i<m→listed.getD i true=true
  ·-- the tail
   have hf:f+1=ops.size-m:=by
    rw [← hc]
    have h1:(List.range ops.size).filter (fun i=>!listed.getD i true)=List.range' m (ops.size-m):=by
     have e1:List.range ops.size=List.range' 0 m++List.range' m (ops.size-m):=by
      rw [List.range_eq_range',show ops.size=m+(ops.size-m) by omega,← List.range'_append_1]
      simp
     rw [e1,List.filter_append]
     have e2:(List.range' 0 m).filter (fun i=>!listed.getD i true)=[]:=by
      rw [List.filter_eq_nil_iff];intro i hi;simp at hi;simp [hdone i hi]
     have e3:(List.range' m (ops.size-m)).filter (fun i=>!listed.getD i true)=List.range' m (ops.size-m):=by
      rw [List.filter_eq_self];intro i hi;simp at hi;simp [hn i (by omega) (by omega)]
     rw [e2,e3,List.nil_append]
    rw [h1];simp
   refine wpAny_tail hok (f+1) m listed a s'.w (by omega) (Nat.le_refl _) hs (fun i hi=>?_) ?_
   ·by_cases h:i<m
    ·simp [h,hdone i h]
    ·simp [h,hn i hi (by omega)]
   ·rw [hf];exact hB a s' e (newL_has hL' m fun i hi=>hd i hi (hdone i hi))
  ·have hex:∃i,i<m∧listed.getD i true=false:=by
    have h1:=Classical.not_forall.1 hdone
    obtain ⟨i,hi⟩:=h1
    rw [Classical.not_imp] at hi
    exact ⟨i,hi.1,by simpa using hi.2⟩
   have hlow:∀i,i∈Region.ready .any ops listed→i<m:=by
    intro i hi
    obtain ⟨h1,h2,o,ho,h3⟩:=zcx.1 hi
    rcases Nat.lt_or_ge i m with h | h
    ·exact h
    ·exfalso
     obtain ⟨k,hk,hkl⟩:=hex
     have h5:=hok' i (by simpa using h1)
     simp only [ho,Bool.and_eq_true] at h5
     have h6:=h5.2
     rw [if_neg (by omega),List.all_eq_true] at h6
     have h7:=h6 k (by simp;omega)
     have hkF:F.contains k=false:=by
      cases hc':F.contains k
      ·rfl
      ·have:=hl0 k (by simpa using hc');rw [this] at hkl;cases hkl
     rw [hkF,Bool.false_or] at h7
     have h8:=zdg (ops:=ops) (p:=fun j=>listed.getD j false=true) hcl _ i k h7 (fun o' ho'=>by rw [ho] at ho';cases ho';exact h3)
     have h10:listed.getD k false=listed.getD k true:=by simp [Array.getD,hs,show k<ops.size by omega]
     rw [h10,hkl] at h8
     cases h8
   refine ⟨fun hnil=>?_,fun i hi=>?_⟩
   ·-- the least that isn't done is ready
    exfalso
    obtain ⟨k,hk,hmin⟩:=exists_least (p:=fun i=>i<m∧listed.getD i true=false) hex
    obtain ⟨o,ho⟩:∃o,ops[k]?=some o:=⟨ops[k]'(by omega),by simp⟩
    have:k∈Region.ready .any ops listed:=by
     refine zcx.2 ⟨by omega,hk.2,o,ho,fun e he hb=>?_⟩
     have h5:=hok' k (by simp;omega)
     simp only [ho,Bool.and_eq_true] at h5
     have h1:=List.all_eq_true.1 h5.1 e he
     simp only [hb,Bool.not_true,Bool.false_or] at h1
     have h2:e.on<k:=Nat.le_of_ble_eq_true h1
     have h4:listed.getD e.on false=listed.getD e.on true:=by simp [Array.getD,hs,show e.on<ops.size by omega]
     rw [h4]
     by_cases h6:listed.getD e.on true=true
     ·exact h6
     ·have:=hmin e.on ⟨by omega,by simpa using h6⟩;omega
    rw [hnil] at this;simp at this
   ·have him:=hlow i hi
    obtain ⟨h1,h2,o,ho,h3⟩:=zcx.1 hi
    obtain ⟨q,hqi⟩:∃q,qs[i]?=some q:=⟨qs[i]'(by omega),by simp⟩
    have h5:=hok' i (by simpa using h1)
    have hiF:F.contains i=false:=by
     cases hc':F.contains i
     ·rfl
     ·have:=hl0 i (by simpa using hc');rw [this] at h2;cases h2
    simp only [ho,Bool.and_eq_true,if_pos him,hiF,Bool.false_or] at h5
    obtain ⟨d,hdst⟩:∃d,o.dst=some d:=by
     cases hd':o.dst with
     | none=>rw [hd'] at h5;simp at h5
     | some d=>exact ⟨d,rfl⟩
    have h6:=h5.2
    rw [hdst] at h6
    simp only [Bool.and_eq_true] at h6
    have hdep:Has M n s0 a s' (depL ops qs o.after.toList L):=by
     refine depL_has hL' _ fun e' he' hb d' q' hd' hq'=>?_
     have h7:=h3 e' he' hb
     have h8:=List.all_eq_true.1 h5.1 e' he'
     simp only [hb,Bool.not_true,Bool.false_or] at h8
     have h9:e'.on<i:=Nat.le_of_ble_eq_true h8
     have h10:listed.getD e'.on false=listed.getD e'.on true:=by simp [Array.getD,hs,show e'.on<ops.size by omega]
     exact hd e'.on (by omega) (h10 ▸ h7) d' q' hd' hq'
    have hrun:=hT i o q him ho hqi hiF M n s0 a s' hdep Q (wpAny P .any ops Q f (listed.setIfInBounds i true)) ?_
    ·unfold wpOp
     simp only [ho]
     by_cases hw:Region.wanted o (yielded ops a.tmps)=true
     ·rw [if_pos hw] at hrun ⊢;exact .inl hrun
     ·rw [if_neg hw] at hrun ⊢;exact hrun
    ·rintro v s'' ⟨e',hq'⟩
     have hfresh:lk L d=none:=lk_none h6.1.2
     refine ih _ _ s'' (by simpa using hs) ?_ (e.trans e') ?_ ?_ ?_ ?_ ?_
     ·-- one fewer
      have hnd:((List.range ops.size).filter (fun j=>!listed.getD j true)).Nodup:=List.Nodup.sublist List.filter_sublist List.nodup_range
      have hmem:i∈(List.range ops.size).filter (fun j=>!listed.getD j true):=List.mem_filter.2 ⟨by simpa using h1,by rw [h2];rfl⟩
      have e1:(List.range ops.size).filter (fun j=>!(listed.setIfInBounds i true).getD j true)=((List.range ops.size).filter (fun j=>!listed.getD j true)).filter (fun j=>j != i):=by
       rw [List.filter_filter]
       refine List.filter_congr fun j hj=>?_
       rw [zcu (by omega)]
       by_cases hji:j=i <;> simp [hji]
      rw [e1,← List.Nodup.erase_eq_filter hnd,List.length_erase_of_mem hmem,hc];rfl
     ·have hp:=hL'.put e' (d:=d) h6.1.1 hq'
      rw [hdst]
      refine hp.sub fun t q'' hl=>hp.at_ t q'' ?_
      unfold lk
      have:d≠t:=fun he=>by rw [he] at hfresh;rw [hfresh] at hl;cases hl
      rw [beq_no this];exact hl
     ·intro j o' hj ho' e2 he2 hb2
      rw [zcu (by omega)] at hj ⊢
      split
      ·rfl
      ·by_cases hji:j=i
       ·subst hji;rw [ho] at ho';cases ho';exact h3 e2 he2 hb2
       ·rw [if_neg hji] at hj;exact hcl j o' hj ho' e2 he2 hb2
     ·intro j hj hmj
      rw [zcu (by omega),if_neg (by omega)];exact hn j hj hmj
     ·intro j hj hlj d' q'' hd' hq''
      rw [hdst]
      by_cases hji:j=i
      ·subst hji
       rw [ho,Option.bind_some,hdst] at hd'
       cases hd'
       rw [hqi] at hq'';cases hq''
       rw [zdz hL'.size h6.1.1];exact hq'
      ·rw [zcu (by omega),if_neg hji] at hlj
       have h7:=List.all_eq_true.1 h6.2 j (by simpa using hj)
       have h8:Nat.beq j i=false:=beq_no hji
       rw [h8,Bool.false_or,hd'] at h7
       have:d≠d':=fun he=>by simp [he] at h7
       rw [eval_put_ne this]
       exact Pd.ex e' (hd j hj hlj d' q'' hd' hq'')
     ·intro j hj
      rw [zcu (by omega)]
      split
      ·rfl
      ·exact hl0 j hj
theorem rd {P:Program} {id:Nat} {ops:Array Oper} {Q:Exit→Act→World→Prop} {M:Nat→Prop} {n:Nat} {s0:St} {a:Act} {s:St} {L:Lst} (hf:P.follows .mixedOrders=true) (m:Nat) (qs:List Pd)
  (hL:Has M n s0 a s L) (hok:zdt ops m n (L.map (·.1)) []=true) (hq:qs.length=m) (hm:m≤ops.size)
  (hT:∀i o q,i<m→ops[i]?=some o→qs[i]?=some q→T P ops o (depL ops qs o.after.toList L) q)
  (hB:∀a' s',Ex s s'→Has M n s0 a' s' (newL ops qs m L)→wpOps P ops Q (List.range' m (ops.size-m)) a' s'.w):(Code.region id ops true).wp P Q a s.w:=by
 refine wp_region_any hf ?_
 have:=rd_key m qs [] hok hq hm (fun i o q h1 h2 h3 _=>hT i o q h1 h2 h3) hB ops.size (Array.replicate ops.size false) a ⟨{ s.w with drawn:=s.w.drawn+1 },s.X,s.lt⟩ (by simp) ?_ ⟨⟨DR.succ rfl,rfl,rfl,rfl,Nat.le_refl _,fun _ _ _=>rfl,fun _ h=>h.elim,fun _ h=>.inl h⟩,fun _ h=>h⟩ ?_ ?_ ?_ ?_ (fun i h=>by cases h)
 ·exact this
 ·rw [List.filter_eq_self.2]
  ·simp
  ·intro i hi;simp at hi;simp [hi]
 ·exact hL.ex ⟨⟨DR.succ rfl,rfl,rfl,rfl,Nat.le_refl _,fun _ _ _=>rfl,fun _ h=>h.elim,fun _ h=>.inl h⟩,fun _ h=>h⟩
 ·intro i o h;simp [Array.getD] at h
 ·intro i hi _;simp [hi]
 ·intro i hi h;simp [show i<ops.size by omega] at h
def foot (s:St):Nat→Prop:=fun b=>b<s.w.heap.size∧¬ s.X b
def Same (S:Nat→Prop) (w w':World):Prop:=∀b,S b→w'.heap[b]?=w.heap[b]?
structure En (α:Type) where
 sz:Nat
 agg:Bool
 R:World→(Nat→Prop)→List Value→α→Prop
 sc:agg=false→sz=1
 pos:0<sz
 len:∀{w S cs x},R w S cs x→cs.length=sz
 one:∀{w S cs x},R w S cs x→∀u∈cs,u.oneCell'=true
 mono:∀{w S S' cs x},(∀b,S b→S' b)→R w S cs x→R w S' cs x
 move:∀{w w' S cs x},Same S w w'→R w S cs x→R w' S cs x
def En.val {α:Type} (E:En α) (cs:List Value):Value:=bif E.agg then .agg cs.toArray else cs.headD undef
theorem En.val_cells {α:Type} {E:En α} {w S cs x} (h:E.R w S cs x):(E.val cs).cells=cs.toArray:=by
 unfold En.val
 cases ha:E.agg
 ·have hl:=E.len h
  rw [E.sc ha] at hl
  match cs,hl with
  | [u],_=>
   have h1:=E.one h u (by simp)
   simp only [cond_false,List.headD_cons]
   cases u <;> first | rfl | simp [Value.oneCell'] at h1
 ·rfl
theorem En.go {α:Type} (E:En α) {T:Nat→Prop} {s s':St} {cs:List Value} {x:α} (h:Mv T s s') (hR:E.R s.w (foot s) cs x):E.R s'.w (foot s') cs x:=
 E.mono (fun b hb=>⟨Nat.lt_of_lt_of_le hb.1 h.size,fun hx=>(h.xx b hx).elim hb.2 (fun hk=>by have:=hb.1;omega)⟩)
  (E.move (fun b hb=>h.blk b hb.1 (fun ht=>hb.2 (h.tx b ht))) hR)
def Pd.rep {α:Type} (E:En α) (x:α):Pd:=
 ⟨fun s v=>∃cs,v=E.val cs∧E.R s.w (foot s) cs x,fun _=>False,fun h _ ⟨cs,hv,hR⟩=>⟨cs,hv,E.go h hR⟩⟩
def zcm (w:World) (b o:Nat) (cs:List Value):Prop:=∀j u,cs[j]?=some u→w.cell? ⟨b,o+j,none⟩=some u
theorem zcm.same {w w':World} {b o:Nat} {cs:List Value} (h:zcm w b o cs) (hb:w'.heap[b]?=w.heap[b]?):zcm w' b o cs:=
 fun j u hu=>by rw [World.cell?_of_block (w:=w) hb];exact h j u hu
theorem zdo (b o j:Nat):(⟨b,o,none⟩:Addr).add j=⟨b,o+j,none⟩:=by unfold Addr.add;split <;> simp_all
def Pd.ptr {α:Type} (E:En α) (x:α):Pd:=
 ⟨fun s v=>∃b o cs,v = .pointer (some ⟨b,o,none⟩)∧foot s b∧zcm s.w b o cs∧E.R s.w (foot s) cs x,fun _=>False,
  fun {T s s' v} h _ ⟨b,o,cs,hv,hb,hc,hR⟩=>⟨b,o,cs,hv,
   ⟨Nat.lt_of_lt_of_le hb.1 h.size,fun hx=>(h.xx b hx).elim hb.2 (fun hk=>by have:=hb.1;omega)⟩,
   hc.same (h.blk b hb.1 (fun ht=>hb.2 (h.tx b ht))),E.go h hR⟩⟩
def Pd.optr {α:Type} (E:En α) (N:Nat) (og:Option Nat) (o:Nat) (x:α):Pd:=
 ⟨fun s v=>∃g,og=some g∧v = .pointer (some ⟨g,o,none⟩)∧N≤g∧g<s.w.heap.size∧s.X g∧∃cs,zcm s.w g o cs∧E.R s.w (foot s) cs x,fun b=>og=some b,
  fun {T s s' v} h hb ⟨g,ho,hv,hN,hg,hx,cs,hc,hR⟩=>⟨g,ho,hv,hN,Nat.lt_of_lt_of_le hg h.size,(hb g ho).2 hx,cs,hc.same (h.blk g hg (hb g ho).1),E.go h hR⟩⟩
def Pd.box {α:Type} (E:En α) (N g:Nat) (x:α):Pd:=
 ⟨fun s v=>v = .pointer (some ⟨g,0,none⟩)∧N≤g∧s.X g∧∃cs t,s.w.heap[g]?=some (.cells cs.toArray t (0,0))∧E.R s.w (foot s) cs x,fun b=>b=g,
  fun {T s s' v} h hb ⟨hv,hN,hx,cs,t,hc,hR⟩=>⟨hv,hN,(hb g rfl).2 hx,cs,t,by
   rw [h.blk g (Array.getElem?_eq_some_iff.1 hc).1 (hb g rfl).1];exact hc,E.go h hR⟩⟩
def InR (k:IntKind) (x:Int):Prop:=k.min≤x∧x≤k.max
instance (k : IntKind) (x : Int) : Decidable (InR k x):=by unfold InR; infer_instance
def En.int (k:IntKind):En Int where
 sz:=1
 agg:=false
 R:=fun _ _ cs x=>cs=[.int k x]∧InR k x
 sc:=fun _=>rfl
 pos:=Nat.one_pos
 len:=by rintro _ _ _ _ ⟨rfl,_⟩;rfl
 one:=by rintro _ _ _ _ ⟨rfl,_⟩ u hu;simp at hu;subst hu;rfl
 mono:=fun _ h=>h
 move:=fun _ h=>h
def En.bool:En Bool where
 sz:=1
 agg:=false
 R:=fun _ _ cs x=>cs=[.bool x]
 sc:=fun _=>rfl
 pos:=Nat.one_pos
 len:=by rintro _ _ _ _ rfl;rfl
 one:=by rintro _ _ _ _ rfl u hu;simp at hu;subst hu;rfl
 mono:=fun _ h=>h
 move:=fun _ h=>h
theorem zx {k:IntKind} {x:Int} {s:St} {v:Value}:(Pd.rep (En.int k) x).p s v↔v = .int k x∧InR k x:=
 ⟨fun ⟨_,hv,hc,hr⟩=>by subst hc;exact ⟨hv,hr⟩,fun ⟨hv,hr⟩=>⟨[.int k x],hv,rfl,hr⟩⟩
theorem zb9 {x:Bool} {s:St} {v:Value}:(Pd.rep En.bool x).p s v↔v = .bool x:=
 ⟨fun ⟨_,hv,hc⟩=>by cases hc;exact hv,fun hv=>⟨[.bool x],hv,rfl⟩⟩
def Opn (L:Lst) (x:Operand) (q:Pd):Prop:=∀M n s0 a s,Has M n s0 a s L→q.p s (a.eval x)
theorem o_t {L:Lst} (t:Nat) {q:Pd} (h:lk L t=some q):Opn L (.tmp t) q:=fun _ _ _ _ _ hL=>hL.get t h
theorem o_c {L:Lst} {v:Value} {q:Pd} (h:∀s,q.p s v):Opn L (.const v) q:=fun _ _ _ _ s _=>h s
theorem o_i {L:Lst} {k:IntKind} {x:Int} (h:InR k x):Opn L (.const (.int k x)) (Pd.rep (En.int k) x):=o_c fun _=>zx.2 ⟨rfl,h⟩
theorem oI {L:Lst}{x:Int}(h:InR .i64 x:=by decide):Opn L (.const (.int .i64 x)) (Pd.rep (En.int .i64) x):=o_i h
abbrev Pi (x:Int):Pd:=Pd.rep (En.int .i64) x
theorem o_b {L:Lst} {x:Bool}:Opn L (.const (.bool x)) (Pd.rep En.bool x):=o_c fun _=>zb9.2 rfl
section
variable {P : Program} {ops : Array Oper} {o : Oper} {L : Lst}
theorem T.mk {q:Pd} (hg:o.guard=none) (h:∀M n s0 a s,Has M n s0 a s L→∃v s',(execOp a.eval o).run P s.w = .ok (.value v) s'.w∧Ex s s'∧q.p s' v):T P ops o L q:=
 fun M n s0 a s hL=>by
  obtain ⟨v,s',h1,h2,h3⟩:=h M n s0 a s hL
  exact OpR.of_run hg h1 ⟨h2,h3⟩
theorem T.pure {q:Pd} (hg:o.guard=none) (h:∀M n s0 a s,Has M n s0 a s L→∃v,(execOp a.eval o).run P s.w = .ok (.value v) s.w∧q.p s v):T P ops o L q:=
 T.mk hg fun M n s0 a s hL=>let ⟨v,h1,h2⟩:=h M n s0 a s hL;⟨v,s,h1,Ex.refl s,h2⟩
theorem zb {x:Operand} {q:Pd} (h:Opn L x q) (ho:o.op = .move x) (hg:o.guard=none):T P ops o L q:=
 T.pure hg fun M n s0 a s hL=>⟨a.eval x,by unfold execOp;rw [ho];rfl,h M n s0 a s hL⟩
theorem zd {x:Operand} {q:Pd} (h:Opn L x q) (ho:o.op = .assign x) (hg:o.guard=none):T P ops o L q:=
 T.pure hg fun M n s0 a s hL=>⟨a.eval x,by unfold execOp;rw [ho];rfl,h M n s0 a s hL⟩
theorem wrap_in {k:IntKind} {x:Int} (h:InR k x):k.wrap x=x:=by
 unfold InR at h
 cases k <;> simp [IntKind.min,IntKind.max,IntKind.signed,IntKind.bits] at h <;> simp [IntKind.wrap,IntKind.signed,IntKind.bits] <;> omega
theorem t_arith {k:IntKind} {x y:Operand} {a b:Int} (op:BinOp) (f:Int→Int→Int) (hf:∀a b,(Op.intArith op k a b:Sem Value)=Pure.pure (.int k (k.wrap (f a b)))) (hop:op = .add∨op = .sub∨op = .mul)
  (hx:Opn L x (Pd.rep (En.int k) a)) (hy:Opn L y (Pd.rep (En.int k) b)) (hr:InR k (f a b)) {t u:TypeId} (ho:o.op = .binOp op t x y u) (hg:o.guard=none):
  T P ops o L (Pd.rep (En.int k) (f a b)):=
 T.pure hg fun M n s0 ac s hL=>by
  have h1:=(zx.1 (hx M n s0 ac s hL)).1
  have h2:=(zx.1 (hy M n s0 ac s hL)).1
  refine ⟨.int k (f a b), ?_,zx.2 ⟨rfl,hr⟩⟩
  unfold execOp
  rw [ho]
  simp only [h1,h2]
  rcases hop with rfl | rfl | rfl <;> simp [eqGuard,binOp,hf,wrap_in hr]
theorem t_add {k:IntKind} {x y:Operand} {a b:Int} (hx:Opn L x (Pd.rep (En.int k) a)) (hy:Opn L y (Pd.rep (En.int k) b)) (hr:InR k (a+b)) {t u:TypeId} (ho:o.op = .binOp .add t x y u) (hg:o.guard=none):
  T P ops o L (Pd.rep (En.int k) (a+b)):=t_arith .add (· + ·) (fun _ _=>rfl) (.inl rfl) hx hy hr ho hg
theorem t_cmp {k:IntKind} {x y:Operand} {a b:Int} (op:BinOp) (f:Int→Int→Bool) (hf:(fun a b=>(Op.intCmp op a b:Sem Value))=fun a b=>Pure.pure (.bool (f a b)))
  (hop:op = .lss∨op = .leq∨op = .gtr∨op = .geq∨op = .eql∨op = .neq)
  (hx:Opn L x (Pd.rep (En.int k) a)) (hy:Opn L y (Pd.rep (En.int k) b)) {t u:TypeId} (ho:o.op = .binOp op t x y u) (hg:o.guard=none):
  T P ops o L (Pd.rep En.bool (f a b)):=
 T.pure hg fun M n s0 ac s hL=>by
  have h1:=(zx.1 (hx M n s0 ac s hL)).1
  have h2:=(zx.1 (hy M n s0 ac s hL)).1
  have hf':(Op.intCmp op a b:Sem Value)=Pure.pure (.bool (f a b)):=congrFun (congrFun hf a) b
  refine ⟨.bool (f a b), ?_,zb9.2 rfl⟩
  unfold execOp
  rw [ho]
  simp only [h1,h2]
  rcases hop with rfl | rfl | rfl | rfl | rfl | rfl <;> simp [eqGuard,binOp,hf']
theorem t_lss {k:IntKind} {x y:Operand} {a b:Int} (hx:Opn L x (Pd.rep (En.int k) a)) (hy:Opn L y (Pd.rep (En.int k) b)) {t u:TypeId} (ho:o.op = .binOp .lss t x y u) (hg:o.guard=none):
  T P ops o L (Pd.rep En.bool (decide (a<b))):=t_cmp .lss (fun a b=>decide (a<b)) rfl (.inl rfl) hx hy ho hg
theorem t_gtr {k:IntKind} {x y:Operand} {a b:Int} (hx:Opn L x (Pd.rep (En.int k) a)) (hy:Opn L y (Pd.rep (En.int k) b)) {t u:TypeId} (ho:o.op = .binOp .gtr t x y u) (hg:o.guard=none):
  T P ops o L (Pd.rep En.bool (decide (b<a))):=t_cmp .gtr (fun a b=>decide (b<a)) rfl (.inr (.inr (.inl rfl))) hx hy ho hg
theorem t_geq {k:IntKind} {x y:Operand} {a b:Int} (hx:Opn L x (Pd.rep (En.int k) a)) (hy:Opn L y (Pd.rep (En.int k) b)) {t u:TypeId} (ho:o.op = .binOp .geq t x y u) (hg:o.guard=none):
  T P ops o L (Pd.rep En.bool (decide (b≤a))):=t_cmp .geq (fun a b=>decide (b≤a)) rfl (.inr (.inr (.inr (.inl rfl)))) hx hy ho hg
theorem t_nei {k:IntKind} {x y:Operand} {a b:Int} (hx:Opn L x (Pd.rep (En.int k) a)) (hy:Opn L y (Pd.rep (En.int k) b)) {t u:TypeId} (ho:o.op = .binOp .neq t x y u) (hg:o.guard=none):
  T P ops o L (Pd.rep En.bool (a != b)):=t_cmp .neq (fun a b=>a != b) rfl (.inr (.inr (.inr (.inr (.inr rfl))))) hx hy ho hg
structure Ty {α:Type} (P:Program) (t:TypeId) (E:En α):Prop where
 info:∃i z,P.info? t=some i∧i.size=E.sz∧i.zero=some z∧z.cells.size=E.sz∧i.bytes≤65536
 agg:∃d,P.underlying t=some d∧(match d with | .struct _ | .array _ _=>true | _=>false)=E.agg
theorem run_isAgg {α:Type} {t:TypeId} {E:En α} (h:Ty P t E) (w:World):(isAgg t).run P w = .ok E.agg w:=by
 obtain ⟨d,hd,he⟩:=h.agg
 unfold isAgg
 simp only [Sem.run_bind,run_underlying hd,Result.andThen_ok]
 rw [← he]
 cases d <;> rfl
theorem zbd {α:Type} {t:TypeId} {E:En α} (h:Ty P t E) (w:World):(sizeOf t).run P w = .ok E.sz w:=by
 obtain ⟨i,z,hi,he,_⟩:=h.info
 simp [sizeOf,typeInfo,hi,he]
theorem zds {α:Type} {t:TypeId} {E:En α} (h:Ty P t E) {w w':World} {S:Nat→Prop} {cs:List Value} {x:α} (hR:E.R w' S cs x) {b o:Nat} (hc:zcm w b o cs):
  (loadVar t ⟨b,o,none⟩).run P w = .ok (E.val cs) w:=by
 unfold loadVar
 simp only [Sem.run_bind,run_isAgg h,Result.andThen_ok]
 have hl:=E.len hR
 cases ha:E.agg
 ·have h1:=E.sc ha
  rw [h1] at hl
  match cs,hl with
  | [u],_=>
   have:=hc 0 u rfl
   simp [En.val,ha,show w.cell? ⟨b,o,none⟩=some u from this]
 ·simp only [if_true,Sem.run_bind,zbd h,Result.andThen_ok]
  have:(loadCells ⟨b,o,none⟩ E.sz).run P w = .ok cs.toArray w:=by
   rw [← hl]
   exact run_loadCells_list w ⟨b,o,none⟩ cs (fun j v hv=>by rw [zdo];exact hc j v hv)
  simp [this,En.val,ha]
theorem zo {α:Type} {E:En α} {x:α} {y:Operand} {t:TypeId} (ht:Ty P t E) (hy:Opn L y (Pd.ptr E x)) (ho:o.op = .load t y) (hg:o.guard=none):T P ops o L (Pd.rep E x):=
 T.pure hg fun M n s0 ac s hL=>by
  obtain ⟨b,off,cs,hv,hb,hc,hR⟩:=hy M n s0 ac s hL
  refine ⟨E.val cs, ?_,cs,rfl,hR⟩
  unfold execOp;rw [ho];simp [hv,Instr.loadAt,Instr.sureAddr,zds ht hR hc]
theorem zcd {w:World} {g:Nat} {cs:List Value} {t:TypeId} {fr:Nat × Nat} (h:w.heap[g]?=some (.cells cs.toArray t fr)):zcm w g 0 cs:=
 fun j u hu=>by rw [Nat.zero_add,cell_of_row w g j cs.toArray t fr h];simpa using hu
theorem zbh {α:Type} {E:En α} {x:α} {y:Operand} {t:TypeId} {N g:Nat} (ht:Ty P t E) (hy:Opn L y (Pd.box E N g x)) (ho:o.op = .load t y) (hg:o.guard=none):T P ops o L (Pd.rep E x):=
 T.pure hg fun M n s0 ac s hL=>by
  obtain ⟨hv,_,_,cs,t',hc,hR⟩:=hy M n s0 ac s hL
  refine ⟨E.val cs, ?_,cs,rfl,hR⟩
  unfold execOp;rw [ho];simp [hv,Instr.loadAt,Instr.sureAddr,zds ht hR (zcd hc)]
def St.push (s:St) (ob:Obj):St:=⟨s.w.alloc ob,s.X,fun b hb=>Nat.lt_of_lt_of_le (s.lt b hb) (by simp)⟩
theorem Ex.push (s:St) (ob:Obj):Ex s (s.push ob):=
 ⟨⟨DR.eq rfl,rfl,rfl,rfl,by simp [St.push],fun b hb _=>Go.RowKit.Below.heap_alloc s.w ob b hb,fun _ h=>h.elim,fun _ h=>.inl h⟩,fun _ h=>h⟩
end
end Go.Proofs.YtahgmdbioafmbaaGreatDoor.VD
namespace Go.Proofs.YtahgmdbioafmbaaGreatDoor.VD
open Go
set_option linter.unusedVariables false
def at? {α:Type} (xs:List α) (i:Int):Option α:=if 0≤i then xs[i.toNat]? else none
def Els {α:Type} (E:En α) (w:World) (S:Nat→Prop) (css:List (List Value)) (xs:List α):Prop:=
 css.length=xs.length∧∀(i:Nat) (cs:List Value) (x:α),css[i]?=some cs→xs[i]?=some x→E.R w S cs x
theorem Els.lens {α:Type} {E:En α} {w S css} {xs:List α} (h:Els E w S css xs):∀cs∈css,cs.length=E.sz:=by
 intro cs hcs
 obtain ⟨i,hi⟩:=List.getElem?_of_mem hcs
 have hlt:i<css.length:=(List.getElem?_eq_some_iff.1 hi).1
 have hx:xs[i]?=some (xs[i]'(h.1 ▸ hlt)):=by simp
 exact E.len (h.2 i cs _ hi hx)
theorem flat_get {css:List (List Value)} {n:Nat} (h:∀cs∈css,cs.length=n):∀{i:Nat} {cs:List Value} {j:Nat} {u:Value},css[i]?=some cs→cs[j]?=some u→css.flatten[i*n+j]?=some u:=by
 induction css with
 | nil=>intro i cs j u hi;simp at hi
 | cons c r ih=>
  intro i cs j u hi hj
  have hc:c.length=n:=h c (by simp)
  cases i with
  | zero=>
   simp at hi;subst hi
   rw [List.flatten_cons,Nat.zero_mul,Nat.zero_add,List.getElem?_append_left (List.getElem?_eq_some_iff.1 hj).1];exact hj
  | succ i=>
   simp at hi
   rw [List.flatten_cons,List.getElem?_append_right (by rw [hc,Nat.succ_mul];omega)]
   rw [show (i+1)*n+j-c.length=i*n+j by rw [hc,Nat.succ_mul];omega]
   exact ih (fun x hx=>h x (by simp [hx])) hi hj
def lim:Nat:=9223372036854775807
def SlV {α:Type} (E:En α) (w:World) (S:Nat→Prop) (v:Value) (xs:List α):Prop:=
 ∃ad cap,v = .slice ad xs.length cap∧xs.length≤cap∧(ad=none→cap=0)∧xs.length≤lim ∧
  (xs≠[]→∃b off css,ad=some ⟨b,off,none⟩∧S b∧Els E w S css xs∧zcm w b off css.flatten)
def En.slice {α:Type} (E:En α):En (List α) where
 sz:=1
 agg:=false
 R:=fun w S cs xs=>∃v,cs=[v]∧SlV E w S v xs
 sc:=fun _=>rfl
 pos:=Nat.one_pos
 len:=by rintro _ _ _ _ ⟨v,rfl,_⟩;rfl
 one:=by rintro _ _ _ _ ⟨v,rfl,ad,cap,rfl,_⟩ u hu;simp at hu;subst hu;rfl
 mono:=by
  rintro w S S' cs xs h ⟨v,rfl,ad,cap,hv,h1,h2,h3,h4⟩
  refine ⟨v,rfl,ad,cap,hv,h1,h2,h3,fun hne=>?_⟩
  obtain ⟨b,off,css,e,hb,hE,hc⟩:=h4 hne
  exact ⟨b,off,css,e,h b hb,⟨hE.1,fun i cs x a b=>E.mono h (hE.2 i cs x a b)⟩,hc⟩
 move:=by
  rintro w w' S cs xs h ⟨v,rfl,ad,cap,hv,h1,h2,h3,h4⟩
  refine ⟨v,rfl,ad,cap,hv,h1,h2,h3,fun hne=>?_⟩
  obtain ⟨b,off,css,e,hb,hE,hc⟩:=h4 hne
  exact ⟨b,off,css,e,hb,⟨hE.1,fun i cs x a b=>E.move h (hE.2 i cs x a b)⟩,hc.same (h b hb)⟩
theorem zbp {α:Type} {E:En α} {xs:List α} {s:St} {v:Value}:(Pd.rep (En.slice E) xs).p s v↔SlV E s.w (foot s) v xs:=
 ⟨fun ⟨_,hv,u,hc,h⟩=>by subst hc;subst hv;exact h,fun h=>⟨[v],rfl,v,rfl,h⟩⟩
section
variable {P : Program} {ops : Array Oper} {o : Oper} {L : Lst}
theorem t_len {α:Type} {E:En α} {xs:List α} {y:Operand} {t te:TypeId} (hy:Opn L y (Pd.rep (En.slice E) xs)) (ht:P.underlying t=some (.slice te)) (ho:o.op = .call { callee:=.builtin .len,args:=#[y],argTypes:=#[t] }) (hg:o.guard=none):
  T P ops o L (Pd.rep (En.int .i64) xs.length):=
 T.pure hg fun M n s0 ac s hL=>by
  obtain ⟨ad,cap,hv,h1,h2,h3,h4⟩:=zbp.1 (hy M n s0 ac s hL)
  refine ⟨.int .i64 xs.length, ?_,zx.2 ⟨rfl, ?_⟩⟩
  ·unfold execOp;rw [ho];simp [resolve,invoke,builtin,hv,Builtin.len_,run_underlying ht,goInt]
  ·simp only [lim] at h3;simp [InR,IntKind.min,IntKind.max,IntKind.signed,IntKind.bits];omega
theorem t_idx {α:Type} {E:En α} {xs:List α} {e:α} {k:IntKind} {i:Int} {x y:Operand} {t te:TypeId} (hx:Opn L x (Pd.rep (En.slice E) xs)) (hy:Opn L y (Pd.rep (En.int k) i)) (he:at? xs i=some e)
  (ht:P.underlying t=some (.slice te)) (hE:Ty P te E) (ho:o.op = .indexAddr t x y) (hg:o.guard=none):T P ops o L (Pd.ptr E e):=
 T.pure hg fun M n s0 ac s hL=>by
  obtain ⟨ad,cap,hv,h1,h2,h3,h4⟩:=zbp.1 (hx M n s0 ac s hL)
  have hi:=(zx.1 (hy M n s0 ac s hL)).1
  unfold at? at he
  split at he
  case isFalse=>cases he
  rename_i h0
  have hlt:i.toNat<xs.length:=(List.getElem?_eq_some_iff.1 he).1
  obtain ⟨b,off,css,e1,hb,hEl,hc⟩:=h4 (by intro h;simp [h] at hlt)
  obtain ⟨cs,hcs⟩:∃cs,css[i.toNat]?=some cs:=⟨css[i.toNat]'(by rw [hEl.1];exact hlt),by simp⟩
  refine ⟨.pointer (some ⟨b,off+i.toNat*E.sz,none⟩), ?_,b,off+i.toNat*E.sz,cs,rfl,hb, ?_,hEl.2 _ _ _ hcs he⟩
  ·unfold execOp;rw [ho]
   simp only [hv,hi,Instr.indexAt,asIntOf,Sem.run_bind,Sem.run_pure,Result.andThen_ok,run_underlying ht,e1]
   rw [if_pos (by omega)]
   simp [zbd hE,zdo]
  ·intro j u hu
   rw [Nat.add_assoc];exact hc _ u (flat_get hEl.lens hcs hu)
theorem En.psh {α:Type} (E:En α) {s:St} {ob:Obj} {cs:List Value} {x:α} (h:E.R s.w (foot s) cs x):E.R (s.push ob).w (foot (s.push ob)) cs x:=E.go (Ex.push s ob).mv h
theorem cellsAt_new (s:St) (cs:List Value) (t:TypeId):zcm (s.push (.cells cs.toArray t)).w s.w.heap.size 0 cs:=
 zcd (w:=(s.push (.cells cs.toArray t)).w) (t:=t) (fr:=(0,0)) (heap_alloc_new s.w _)
theorem t_box {α:Type} {E:En α} {x:α} {y:Operand} {t:TypeId} (hy:Opn L y (Pd.rep E x)) (ho:o.op = .box t y) (hg:o.guard=none):T P ops o L (Pd.ptr E x):=
 T.mk hg fun M n s0 ac s hL=>by
  obtain ⟨cs,hv,hR⟩:=hy M n s0 ac s hL
  refine ⟨.pointer (some ⟨s.w.heap.size,0,none⟩),s.push (.cells cs.toArray t), ?_,Ex.push s _,s.w.heap.size,0,cs,rfl,⟨by simp [St.push],fun h=>by have:=s.lt _ h;omega⟩,cellsAt_new s cs t,E.psh hR⟩
  unfold execOp;rw [ho]
  simp only [hv,Instr.box,newVar,newRow,En.val_cells hR,Sem.run_bind,run_newObj,Result.andThen_ok,Sem.run_pure]
  rfl
end
end Go.Proofs.YtahgmdbioafmbaaGreatDoor.VD
namespace Go.Proofs.YtahgmdbioafmbaaGreatDoor.VD
open Go
set_option linter.unusedVariables false
structure Ef (T:Nat→Prop) (s s':St):Prop where
 mv:Mv T s s'
 keep:∀b,s.X b→¬ T b→s'.X b
theorem Ef.ex {M T:Nat→Prop} {s0 s s':St} (h:Fr M s0 s) (e:Ef T s s') (hT:∀b,T b→s0.w.heap.size≤b):Fr M s0 s':=
 ⟨⟨h.mv.dr.trans e.mv.dr,e.mv.os.trans h.mv.os,e.mv.tape.trans h.mv.tape,e.mv.output.trans h.mv.output,Nat.le_trans h.mv.size e.mv.size,
  fun b hb hn=>(e.mv.blk b (Nat.lt_of_lt_of_le hb h.mv.size) (fun ht=>by have:=hT b ht;omega)).trans (h.mv.blk b hb hn),h.mv.tx,
  fun b hb=>(e.mv.xx b hb).elim (fun j=>h.mv.xx b j) (fun j=>.inr (Nat.le_trans h.mv.size j))⟩,
  fun b hb=>e.keep b (h.keep b hb) (fun ht=>by have:=hT b ht;have:=s0.lt b hb;omega)⟩
inductive Kp (T:Nat→Prop) (L:Lst):Lst→Prop
 | nil:Kp T L []
 | cons {t:Nat} {q:Pd} {r:Lst} (hl:lk L t=some q) (hq:∀b,q.own b→¬ T b) (hr:Kp T L r):Kp T L ((t,q)::r)
theorem Kp.k {T:Nat→Prop}{L:Lst}(t:Nat){q:Pd}{r:Lst}(hr:Kp T L r)(hl:lk L t=some q:=by exact rfl)(hq:∀b,q.own b→¬T b:=by exact nE):Kp T L ((t,q)::r):=.cons hl hq hr
theorem Kp.get {T:Nat→Prop} {L L':Lst} (h:Kp T L L'):∀t q,lk L' t=some q→lk L t=some q∧∀b,q.own b→¬ T b:=by
 induction h with
 | nil=>intro t q h;cases h
 | cons hl hq _ ih=>
  rename_i d q' r _
  intro t q h
  unfold lk at h
  by_cases ht:d=t
  ·subst ht;simp at h;subst h;exact ⟨hl,hq⟩
  ·rw [beq_no ht] at h;exact ih t q h
theorem Has.ef {M:Nat→Prop} {n:Nat} {s0:St} {a:Act} {s s':St} {L L':Lst} {T:Nat→Prop} (h:Has M n s0 a s L) (e:Ef T s s') (hT:∀b,T b→s0.w.heap.size≤b) (hk:Kp T L L'):Has M n s0 a s' L' where
 size:=h.size
 defers:=h.defers
 ent:=e.ex h.ent hT
 gl:=h.gl
 at_:=fun t q hl=>let ⟨h1,h2⟩:=hk.get t q hl;q.mv e.mv (fun b hb=>⟨h2 b hb,fun hx=>e.keep b hx (h2 b hb)⟩) (h.at_ t q h1)
theorem Has.keep {M:Nat→Prop} {n:Nat} {s0:St} {a:Act} {s:St} {L L':Lst} (h:Has M n s0 a s L) (hk:Kp (fun _=>False) L L'):Has M n s0 a s L':=h.sub fun t q hl=>h.at_ t q (hk.get t q hl).1
section
variable {P : Program} {ops : Array Oper} {o : Oper} {L : Lst}
def spl (cells:List Value) (off:Nat) (cs:List Value):List Value:=cells.take off++cs++cells.drop (off+cs.length)
theorem spl_len {cells cs:List Value} {off:Nat} (h:off+cs.length≤cells.length):(spl cells off cs).length=cells.length:=by simp [spl];omega
theorem fill_step {place:Nat→Option (Nat × Nat)} {cells cs:List Value} {v:Value} {i off size:Nat} {rest:List (Nat × Value)} (hp:place i=some (off,size)) (hv:v.cells=cs.toArray) (hs:cs.length=size)
  (hl:off+size≤cells.length):Instr.fill place cells.toArray ((i,v)::rest)=Instr.fill place (spl cells off cs).toArray rest:=by
 conv=>lhs;unfold Instr.fill
 simp only [hp,hv]
 rw [if_neg (by simp [hs];omega)]
 congr 1
 apply Array.ext_getElem?
 intro j
 rw [← Array.foldl_toList,Array.toList_zipIdx]
 have key:∀(l:List Value) (k:Nat) (acc:Array Value),off+k+l.length≤acc.size→(List.foldl (fun cs (x:Value × Nat)=>match x with | (c,j)=>cs.setIfInBounds (off+j) c) acc (l.zipIdx k))[j]?=if off+k≤j∧j<off+k+l.length then l[j-(off+k)]? else acc[j]?:=by
  intro l
  induction l with
  | nil=>intro k acc _;simp;omega
  | cons u r ih=>
   intro k acc hk
   simp only [List.zipIdx_cons,List.foldl_cons]
   rw [ih (k+1) _ (by simp at hk ⊢;omega)]
   by_cases h1:off+(k+1)≤j∧j<off+(k+1)+r.length
   ·rw [if_pos h1,if_pos (by simp;omega),show j-(off+k)=(j-(off+(k+1)))+1 by omega];simp
   ·rw [if_neg h1]
    by_cases h2:j=off+k
    ·subst h2;rw [if_pos (by simp)];simp at hk;simp [show off+k<acc.size by omega]
    ·rw [if_neg (by simp;omega),Array.getElem?_setIfInBounds_ne (Ne.symm h2)]
 rw [key cs 0 cells.toArray (by simp;omega)]
 simp only [Nat.add_zero,spl,List.getElem?_toArray]
 by_cases h1:j<off
 ·rw [if_neg (by omega),List.append_assoc,List.getElem?_append_left (by simp;omega),List.getElem?_take,if_pos h1]
 ·by_cases h2:j<off+cs.length
  ·rw [if_pos (by omega),List.append_assoc,List.getElem?_append_right (by simp;omega),List.getElem?_append_left (by simp;omega)]
   congr 1;simp;omega
  ·rw [if_neg (by omega),List.getElem?_append_right (by simp;omega),List.getElem?_drop]
   congr 1;simp;omega
inductive OpL {α:Type} (E:En α) (L:Lst):List Operand→List α→Prop
 | nil:OpL E L [] []
 | cons {x:Operand} {e:α} {xs:List Operand} {es:List α}:Opn L x (Pd.rep E e)→OpL E L xs es→OpL E L (x::xs) (e::es)
theorem fill_row {α:Type} {E:En α} {M:Nat→Prop} {n:Nat} {s0:St} {ac:Act} {s:St} {L:Lst} (hL:Has M n s0 ac s L):∀{xs:List Operand} {es:List α},OpL E L xs es→∀(k:Nat) (pre:List Value) (cells:List Value),pre.length=k*E.sz→cells.length=(k+xs.length)*E.sz→cells.take (k*E.sz)=pre →
  ∃css,Els E s.w (foot s) css es∧Instr.fill (fun i=>some (i*E.sz,E.sz)) cells.toArray ((xs.zipIdx k).map fun (x,i)=>(i,ac.eval x))=some (pre++css.flatten).toArray:=by
 intro xs es h
 induction h with
 | nil=>
  intro k pre cells hp hc ht
  refine ⟨[],⟨rfl,by simp⟩, ?_⟩
  simp only [List.zipIdx_nil,List.map_nil,Instr.fill,List.flatten_nil,List.append_nil]
  rw [← ht,List.take_of_length_le (by simp at hc;omega)]
 | cons hx _ ih=>
  rename_i x e xs es _
  intro k pre cells hp hc ht
  obtain ⟨cs,hv,hR⟩:=hx M n s0 ac s hL
  have hlen:=E.len hR
  have hsz:k*E.sz+E.sz≤cells.length:=by rw [hc,← Nat.succ_mul];exact Nat.mul_le_mul_right _ (by simp)
  obtain ⟨css,hE,hf⟩:=ih (k+1) (pre++cs) (spl cells (k*E.sz) cs) (by simp [hp,hlen,Nat.succ_mul]) (by rw [spl_len (by omega),hc];congr 1;simp;omega) (by
   rw [spl,ht]
   rw [List.take_append_of_le_length (by simp [hp,hlen,Nat.succ_mul])]
   rw [List.take_of_length_le (by simp [hp,hlen,Nat.succ_mul])])
  refine ⟨cs::css,⟨by simp [hE.1], ?_⟩, ?_⟩
  ·intro i c y hi hy
   cases i with
   | zero=>simp at hi hy;subst hi;subst hy;exact hR
   | succ i=>simp at hi hy;exact hE.2 i c y hi hy
  ·simp only [List.zipIdx_cons,List.map_cons]
   rw [fill_step (cs:=cs) (off:=k*E.sz) (size:=E.sz) rfl (by rw [hv];exact En.val_cells hR) hlen hsz,hf]
   simp
theorem run_lit {α:Type} {E:En α} {t te:TypeId} {xs:List Operand} {es:List α} (hx:OpL E L xs es) (ht:P.underlying t=some (.slice te)) (hE:Ty P te E) {k:Nat} {parts:Array (Nat × Operand)} (hk:k=xs.length) (hp:parts=(xs.zipIdx.map fun (x,i)=>(i,x)).toArray)
  (hs:k*E.sz≤16777216) (ho:o.op = .buildSlice t k parts) {M:Nat→Prop} {n:Nat} {s0:St} {ac:Act} {s:St} (hL:Has M n s0 ac s L):es.length=xs.length∧∃css,Els E s.w (foot s) css es∧(execOp ac.eval o).run P s.w = .ok (.value (.slice (some ⟨s.w.heap.size,0,none⟩) es.length es.length)) (s.push (.cells css.flatten.toArray te)).w:=by
 obtain ⟨i,z,hi,he,hz,hzs,_⟩:=hE.info
 have hlen:es.length=xs.length:=by clear hp hk hs ho;induction hx with | nil=>rfl | cons _ _ ih=>simp [ih]
 have hall:∀zero:Array Value,∃css,Els E s.w (foot s) css es∧Instr.fill (fun i=>some (i*E.sz,E.sz)) ((Array.range (k*E.sz)).map (zero[· % zero.size]!)) (parts.map fun (i,x)=>(i,ac.eval x)).toList=some css.flatten.toArray:=by
  intro zero
  obtain ⟨css,hEl,hf⟩:=fill_row hL hx 0 [] ((Array.range (k*E.sz)).map (zero[· % zero.size]!)).toList (by simp) (by simp [hk]) (by simp)
  refine ⟨css,hEl, ?_⟩
  have e1:(parts.map fun (i,x)=>(i,ac.eval x)).toList=(xs.zipIdx 0).map fun (x,i)=>(i,ac.eval x):=by rw [hp];simp
  rw [e1]
  rw [Array.toArray_toList,List.nil_append] at hf;exact hf
 have hfin:∃css,Els E s.w (foot s) css es∧(execOp ac.eval o).run P s.w = .ok (.value (.slice (some ⟨s.w.heap.size,0,none⟩) es.length es.length)) (s.push (.cells css.flatten.toArray te)).w:=by
  by_cases h:k*E.sz=0
  ·obtain ⟨css,hEl,hf⟩:=hall #[]
   refine ⟨css,hEl, ?_⟩
   unfold execOp;rw [ho]
   simp only [Instr.buildSlice,Sem.run_bind,run_underlying ht,Result.andThen_ok,zbd hE]
   rw [if_neg (by omega),if_pos h]
   simp only [Sem.run_bind,Sem.run_pure,Result.andThen_ok]
   rw [hf]
   simp [newRow,St.push,hlen,hk]
  ·obtain ⟨css,hEl,hf⟩:=hall z.cells
   refine ⟨css,hEl, ?_⟩
   unfold execOp;rw [ho]
   simp only [Instr.buildSlice,Sem.run_bind,run_underlying ht,Result.andThen_ok,zbd hE]
   rw [if_neg (by omega),if_neg h]
   have hzr:(zeroValue te).run P s.w = .ok z s.w:=by simp [zeroValue,typeInfo,hi,hz]
   simp only [Sem.run_bind,hzr,Sem.run_pure,Result.andThen_ok]
   rw [hf]
   simp [newRow,St.push,hlen,hk]
 exact ⟨hlen,hfin⟩
theorem t_lit {α:Type} {E:En α} {t te:TypeId} {xs:List Operand} {es:List α} (hx:OpL E L xs es) (ht:P.underlying t=some (.slice te)) (hE:Ty P te E) {k:Nat} {parts:Array (Nat × Operand)} (hk:k=xs.length) (hp:parts=(xs.zipIdx.map fun (x,i)=>(i,x)).toArray)
  (hs:k*E.sz≤16777216) (ho:o.op = .buildSlice t k parts) (hg:o.guard=none):T P ops o L (Pd.rep (En.slice E) es):=
 T.mk hg fun M n s0 ac s hL=>by
  obtain ⟨hlen,css,hEl,hr⟩:=run_lit hx ht hE hk hp hs ho hL
  refine ⟨_,_,hr,Ex.push s _,zbp.2 ⟨some ⟨s.w.heap.size,0,none⟩,es.length,rfl,Nat.le_refl _,(fun h=>by cases h), ?_,fun _=>⟨s.w.heap.size,0,css,rfl,⟨by simp [St.push],fun h=>by have:=s.lt _ h;omega⟩,⟨hEl.1,fun i cs x a b=>E.psh (hEl.2 i cs x a b)⟩,cellsAt_new s _ te⟩⟩⟩
  rw [hlen,← hk]
  have:k≤k*E.sz:=Nat.le_mul_of_pos_right k E.pos
  simp only [lim];omega
end
end Go.Proofs.YtahgmdbioafmbaaGreatDoor.VD
namespace Go.Proofs.YtahgmdbioafmbaaGreatDoor.VD
open Go
set_option linter.unusedVariables false
def Vals (s:St):List Pd→List Value→Prop
 | [],[]=>True
 | q::qs,v::vs=>q.p s v∧Vals s qs vs
 | _,_=>False
structure Fn (P:Program) (f:FuncId) (qs:List Pd) (R:St→St→Value→Prop):Prop where
 call:∀(args:Array Value) (w:World),(callFunc f args).run P w = .ok (.enter f args) w
 run:∀s vs,Gl s→Vals s qs vs→Calls P f vs.toArray s.w fun e w'=>∃v s',e = .returned v∧s'.w=w'∧Ex s s'∧R s s' v
def Rq (q:Pd):St→St→Value→Prop:=fun _ s' v=>q.p s' v
inductive Opns (L:Lst):List Operand→List Pd→Prop
 | nil:Opns L [] []
 | cons {x:Operand} {q:Pd} {xs:List Operand} {qs:List Pd}:Opn L x q→Opns L xs qs→Opns L (x::xs) (q::qs)
theorem Opns.vals {L:Lst} {xs:List Operand} {qs:List Pd} (h:Opns L xs qs) {M:Nat→Prop} {n:Nat} {s0:St} {a:Act} {s:St} (hL:Has M n s0 a s L):Vals s qs (xs.map a.eval):=by
 induction h with
 | nil=>trivial
 | cons hx _ ih=>exact ⟨hx M n s0 a s hL,ih⟩
section
variable {P : Program} {ops : Array Oper} {o : Oper} {L : Lst}
theorem run_callop {f:FuncId} {xs:List Operand} {ats:Array TypeId} {qs R} (hf:Fn P f qs R) (a:Act) (w:World) (ho:o.op = .call { callee:=.value (.func f),args:=xs.toArray,argTypes:=ats }):
  (execOp a.eval o).run P w = .ok (.enter f (xs.map a.eval).toArray) w:=by
 have h:=hf.call (xs.map a.eval).toArray w
 have e:execOp a.eval o=callFunc f (#[]++(xs.toArray).map a.eval ++ #[]):=by unfold execOp;rw [ho];rfl
 rw [e]
 simpa using h
theorem zu {f:FuncId} {xs:List Operand} {qs:List Pd} {q:Pd} {ats:Array TypeId} (hf:Fn P f qs (Rq q)) (hx:Opns L xs qs) (ho:o.op = .call { callee:=.value (.func f),args:=xs.toArray,argTypes:=ats }) (hg:o.guard=none):
  T P ops o L q:=fun M n s0 a s hL Q k hk=>by
 simp only [Region.wanted,hg,if_true]
 unfold Oper.wp
 rw [run_callop hf a s.w ho,Oper.upon_enter]
 refine (hf.run s _ hL.gls (hx.vals hL)).mono fun e w' ⟨v,s',he,hw,hx,hq⟩=>?_
 subst he;subst hw
 exact hk v s' ⟨hx,hq⟩
end
def num:Nat→List Pd→Lst
 | _,[]=>[]
 | k,q::qs=>(k,q)::num (k+1) qs
def Pst (M:Nat→Prop) (R:St→St→Value→Prop) (s0:St):Ending→World→Prop:=fun e w'=>∃v s',e = .returned v∧s'.w=w'∧Fr M s0 s'∧R s0 s' v
theorem num_vals {s:St}:∀{qs:List Pd} {vs:List Value} (h:Vals s qs vs) (k t:Nat) (q:Pd),lk (num k qs) t=some q→∃v,k≤t∧vs[t-k]?=some v∧q.p s v
 | [],_,_,k,t,q,hl=>by cases hl
 | q'::qs,[],h,_,_,_,_=>h.elim
 | q'::qs,v::vs,h,k,t,q,hl=>by
  unfold num lk at hl
  by_cases ht:k=t
  ·subst ht;simp at hl;subst hl;exact ⟨v,Nat.le_refl _,by simp,h.1⟩
  ·rw [beq_no ht] at hl
   obtain ⟨u,h1,h2,h3⟩:=num_vals h.2 (k+1) t q hl
   refine ⟨u,by omega, ?_,h3⟩
   rw [show t-k=(t-(k+1))+1 by omega];simpa using h2
theorem vals_len {s:St}:∀{qs:List Pd} {vs:List Value},Vals s qs vs→vs.length=qs.length
 | [],[],_=>rfl
 | [],_::_,h=>h.elim
 | _::_,[],h=>h.elim
 | _::_,_::_,h=>by simp [vals_len h.2]
structure Fm (P:Program) (f:FuncId) (M:Nat→Prop) (qs:List Pd) (R:St→St→Value→Prop):Prop where
 call:∀(args:Array Value) (w:World),(callFunc f args).run P w = .ok (.enter f args) w
 run:∀s vs,Gl s→(∀b,M b→s.X b)→Vals s qs vs→Calls P f vs.toArray s.w fun e w'=>∃v s',e = .returned v∧s'.w=w'∧Fr M s s'∧R s s' v
theorem fm_of {P:Program} {f:FuncId} {fn:Func} {c:Code} {n:Nat} {M:Nat→Prop} {qs:List Pd} {R:St→St→Value→Prop} (hf:P.funcs[f]?=some fn) (hb:fn.body=some c) (hn:fn.ntmps=n) (hm:(fn.name == "runtime.NumGoroutine")=false) (hq:qs.length≤n)
  (h:∀s0 a,Has M n s0 a s0 (num 0 qs)→c.wp P (bodyPost P fn (Pst M R s0)) a s0.w):Fm P f M qs R where
 call:=fun args w=>by
  have hm':¬ fn.name = "runtime.NumGoroutine":=by simpa using hm
  simp [callFunc,hf,hm',hb]
 run:=fun s vs hg hM hv=>by
  refine calls_of_wp hf hb ?_
  have hl:=vals_len hv
  refine h s _ ⟨?_,rfl,Fr.refl hM,hg,fun t q ht=>?_⟩
  ·simp [hn,hl];omega
  ·obtain ⟨v,_,h2,h3⟩:=num_vals hv 0 t q ht
   have:(({ tmps:=vs.toArray++Array.replicate (fn.ntmps-vs.toArray.size) undef,defers:=[] }:Act).eval (.tmp t))=v:=by
    simp only [Nat.sub_zero] at h2
    have hlt:t<vs.length:=(List.getElem?_eq_some_iff.1 h2).1
    simp only [Act.eval]
    rw [Array.getD_eq_getD_getElem?,Array.getElem?_append_left (by simpa using hlt)]
    simp [h2]
   rw [this];exact h3
theorem Fm.fn {P:Program} {f:FuncId} {qs:List Pd} {R:St→St→Value→Prop} (h:Fm P f N0 qs R):Fn P f qs R:=
 ⟨h.call,fun s vs hg hv=>(h.run s vs hg (fun _ h=>h.elim) hv).mono fun e w' ⟨v,s',he,hw,hx,hr⟩=>⟨v,s',he,hw,hx.ex,hr⟩⟩
theorem fn_of {P:Program} {f:FuncId} {fn:Func} {c:Code} {n:Nat} {qs:List Pd} {R:St→St→Value→Prop} (hf:P.funcs[f]?=some fn) (hb:fn.body=some c) (hn:fn.ntmps=n) (hm:(fn.name == "runtime.NumGoroutine")=false) (hq:qs.length≤n)
  (h:∀s0 a,Has N0 n s0 a s0 (num 0 qs)→c.wp P (bodyPost P fn (Pst N0 R s0)) a s0.w):Fn P f qs R:=(fm_of hf hb hn hm hq h).fn
section
variable {P : Program} {fn : Func} {M : Nat → Prop} {n : Nat} {s0 : St} {a : Act} {s : St} {L : Lst} {R : St → St → Value → Prop}
theorem ret1 {t:Nat} (hr:fn.results = #[.tmp t]) (hL:Has M n s0 a s L) (hR:R s0 s (a.eval (.tmp t))):bodyPost P fn (Pst M R s0) .ret a s.w:=
 ⟨hL.defers,_,results_tmp hr a.tmps P s.w,_,s,rfl,rfl,hL.ent,hR⟩
theorem retq {t:Nat} {q:Pd} (hr:fn.results = #[.tmp t]) (hL:Has M n s0 a s L) (hl:lk L t=some q):bodyPost P fn (Pst M (Rq q) s0) .ret a s.w:=ret1 hr hL (hL.get t hl)
end
section
variable {P : Program} {Q : Exit → Act → World → Prop} {M : Nat → Prop} {n : Nat} {s0 : St} {a : Act} {s : St} {L : Lst}
theorem cnd {t:Nat} {b:Bool} {x y:Code} (hL:Has M n s0 a s L) (hl:lk L t=some (Pd.rep En.bool b)) (h1:b=true→x.wp P Q a s.w) (h2:b=false→y.wp P Q a s.w):(Code.cond (.tmp t) x y).wp P Q a s.w:=
 wp_cond_split (zb9.1 (hL.get t hl)) h1 h2
theorem lpg {c:Code} (I:Nat→Act→St→Prop) (k0:Nat) (h0:I k0 a s)
  (round:∀k a s,I k a s→∀K:Act→World→Prop,(∀k' a' s',k' < k→I k' a' s'→K a' s'.w)→c.wp P (Exit.then K Q) a s.w):(Code.loop c).wp P Q a s.w:=by
 refine wp_loop_ghost (fun k a w=>∃s,s.w=w∧I k a s) k0 ⟨s,rfl,h0⟩ ?_
 rintro k a w ⟨s,rfl,hI⟩
 exact round k a s hI _ fun k' a' s' hk hI'=>⟨k',hk,s',rfl,hI'⟩
end
end Go.Proofs.YtahgmdbioafmbaaGreatDoor.VD
namespace Go.Proofs.YtahgmdbioafmbaaGreatDoor.VD
open Go
set_option linter.unusedVariables false
structure TyZ {α:Type} (P:Program) (t:TypeId) (E:En α) (z:α):Prop where
 zero:∃i v cs,P.info? t=some i∧i.zero=some v∧v.cells=cs.toArray∧∀w S,E.R w S cs z
def Sub {α β:Type} (E:En α) (off:Nat) (E':En β) (x x':α) (y:β):Prop:=
 off+E'.sz≤E.sz∧∀w S cs cs',E.R w S cs x→E'.R w S cs' y→E.R w S (spl cs off cs') x'
theorem zy {α:Type} (E:En α) (x y:α):Sub E 0 E x y y:=
 ⟨by simp,fun w S cs cs' h h'=>by
  have:spl cs 0 cs'=cs':=by
   have h1:=E.len h
   have h2:=E.len h'
   simp [spl,List.drop_of_length_le (show cs.length≤cs'.length by omega)]
  rw [this];exact h'⟩
def St.pushX (s:St) (ob:Obj):St:=⟨s.w.alloc ob,fun b=>s.X b∨b=s.w.heap.size,fun b hb=>hb.elim (fun h=>Nat.lt_of_lt_of_le (s.lt b h) (by simp)) (fun h=>by subst h;simp)⟩
theorem Ex.pushX (s:St) (ob:Obj):Ex s (s.pushX ob):=
 ⟨⟨DR.eq rfl,rfl,rfl,rfl,by simp [St.pushX],fun b hb _=>Go.RowKit.Below.heap_alloc s.w _ b hb,fun _ h=>h.elim,fun b hb=>hb.imp id (fun h=>Nat.le_of_eq h.symm)⟩,fun b hb=>.inl hb⟩
section
variable {P : Program} {ops : Array Oper} {o : Oper} {L L' : Lst} {Q : Exit → Act → World → Prop} {rest : List Oper} {M : Nat → Prop} {n : Nat} {s0 : St} {a : Act} {s : St}
theorem zbb {α:Type} (E:En α) {z:α} {t:TypeId} (d:Nat) (hL:Has M n s0 a s L) (hz:TyZ P t E z) (ho:o.op = .alloc t) (hg:o.guard=none) (hd:o.dst=some d) (hn:Nat.blt d n=true)
  (k:∀a' s' g,s.w.heap.size≤g→Has M n s0 a' s' ((d,Pd.box E s0.w.heap.size g z)::L)→wpList P ops Q rest a' s'.w):wpList P ops Q (o::rest) a s.w:=by
 obtain ⟨i,v,cs,h1,h2,h3,h4⟩:=hz.zero
 have hr:(execOp a.eval o).run P s.w = .ok (.value (.pointer (some ⟨s.w.heap.size,0,none⟩))) (s.pushX (.cells cs.toArray t)).w:=by
  unfold execOp;rw [ho]
  simp [Instr.alloc,zeroValue,typeInfo,h1,h2,newVar,newRow,h3,St.pushX]
 refine wpList_plain hg fun K hK=>?_
 unfold Oper.wp
 rw [hr]
 refine hK _ _ ?_
 simp only [hd]
 exact k _ _ s.w.heap.size (Nat.le_refl _) (hL.put (Ex.pushX s _) hn ⟨rfl,hL.ent.mv.size,.inr rfl,cs,t,heap_alloc_new s.w _,h4 _ _⟩)
theorem run_storeE {α:Type} {E:En α} {x:α} {t:TypeId} (ht:Ty P t E) {w w':World} {S:Nat→Prop} {cs:List Value} (hR:E.R w' S cs x) {g off:Nat} {cur:List Value} {te:TypeId} (hg:w.heap[g]?=some (.cells cur.toArray te (0,0))) (hl:off+E.sz≤cur.length):
  (Instr.storeAt t (.pointer (some ⟨g,off,none⟩)) (E.val cs)).run P w = .ok () (w.setRow g (spl cur off cs).toArray):=by
 have hlen:=E.len hR
 have:=run_storeCells_at P g off te cs 0 cur.toArray w hg (by simp;omega) (E.one hR)
 simp only [Instr.storeAt,Instr.sureAddr,Sem.run_bind,Sem.run_pure,Result.andThen_ok,storeVar,zbd ht,En.val_cells hR]
 rw [if_neg (by simp [hlen])]
 simpa [spl] using this
def St.set (s:St) (g:Nat) (cs:List Value):St:=⟨s.w.setRow g cs.toArray,s.X,fun b hb=>by simpa [World.setRow] using s.lt b hb⟩
theorem Ef.set (s:St) {g:Nat} (cs:List Value) {T:Nat→Prop} (hT:∀b,T b↔b=g) (hx:s.X g):Ef T s (s.set g cs):=
 ⟨⟨DR.eq rfl,rfl,rfl,rfl,by simp [St.set,World.setRow],fun b _ hn=>setRow_other s.w g b _ (fun e=>hn ((hT b).2 e)),fun b hb=>by rw [(hT b).1 hb];exact hx,fun b hb=>.inl hb⟩,fun b hb _=>hb⟩
theorem wp_store {t:TypeId} {x y:Operand} {w':World} (hr:(Instr.storeAt t (a.eval x) (a.eval y)).run P s.w = .ok () w') (ho:o.op = .store t x y) (hg:o.guard=none) (hd:o.dst=none) (k:wpList P ops Q rest a w'):wpList P ops Q (o::rest) a s.w:=by
 refine wpList_plain hg fun K hK=>?_
 unfold Oper.wp execOp
 simp only [ho,Sem.run_bind,hr,Result.andThen_ok,Sem.run_pure]
 refine hK _ _ ?_
 simp only [hd]
 exact k
theorem zdp {α β:Type} {E:En α} {E':En β} {x0 x1:α} {y0 y1:β} {g off:Nat} {x y:Operand} {t:TypeId} (c:Nat) (hL:Has M n s0 a s L) (hc:lk L c=some (Pd.box E s0.w.heap.size g x0)) (hx:Opn L x (Pd.optr E' s0.w.heap.size (some g) off y0)) (hy:Opn L y (Pd.rep E' y1))
  (hs:Sub E off E' x0 x1 y1) (ht:Ty P t E') (ho:o.op = .store t x y) (hg:o.guard=none) (hd:o.dst=none) (hk:Kp (fun b=>some g=some b) L L')
  (k:∀s',Has M n s0 a s' ((c,Pd.box E s0.w.heap.size g x1)::L')→wpList P ops Q rest a s'.w):wpList P ops Q (o::rest) a s.w:=by
 obtain ⟨hv,hN,hX,cur,te,hgb,hR⟩:=hL.get c hc
 obtain ⟨g',hgg,hxv,_⟩:=hx M n s0 a s hL
 cases hgg
 obtain ⟨cs,hyv,hR'⟩:=hy M n s0 a s hL
 have hlen:=E.len hR
 have hr:=run_storeE (P:=P) ht hR' (g:=g) (off:=off) hgb (by rw [hlen];exact hs.1)
 refine wp_store (s:=s) (by rw [hxv,hyv];exact hr) ho hg hd ?_
 have e:Ef (fun b=>some g=some b) s (s.set g (spl cur off cs)):=Ef.set s _ (fun b=>by simp [eq_comm]) hX
 refine k (s.set g (spl cur off cs)) ((hL.ef e (fun b hb=>by cases hb;exact hN) hk).cons c ⟨hv,hN,hX,_,te,setRow_heap s.w g _ _ te (0,0) hgb, ?_⟩)
 exact E.go e.mv (hs.2 _ _ _ _ hR hR')
theorem zca {α:Type} {E:En α} {x0 x1:α} {g:Nat} {y:Operand} {t:TypeId} (c:Nat) (hL:Has M n s0 a s L) (hc:lk L c=some (Pd.box E s0.w.heap.size g x0)) (hy:Opn L y (Pd.rep E x1))
  (ht:Ty P t E) (ho:o.op = .store t (.tmp c) y) (hg:o.guard=none) (hd:o.dst=none) (hk:Kp (fun b=>some g=some b) L L')
  (k:∀s',Has M n s0 a s' ((c,Pd.box E s0.w.heap.size g x1)::L')→wpList P ops Q rest a s'.w):wpList P ops Q (o::rest) a s.w:=by
 refine zdp (off:=0) (y0:=x0) (E':=E) c hL hc ?_ hy (zy E x0 x1) ht ho hg hd hk k
 intro M' n' s0' a' s' hL'
 obtain ⟨hv,hN,hX,cur,te,hgb,hR⟩:=hL'.get c hc
 exact ⟨g,rfl,hv,hN,(Array.getElem?_eq_some_iff.1 hgb).1,hX,cur,zcd hgb,hR⟩
end
def Dis (a b:Option Nat):Prop:=∀k,a=some k→b=some k→False
theorem Dis.symm {a b:Option Nat} (h:Dis a b):Dis b a:=fun k h1 h2=>h k h2 h1
theorem Dis.bx {g:Nat} {b:Option Nat} (h:Dis (some g) b):∀k,k=g→¬ b=some k:=fun k h1 h2=>h k (by rw [h1]) h2
theorem Dis.newg {g:Nat} {b:Option Nat} {N:Nat} (h:N≤g) (hb:∀k,b=some k→k<N):Dis (some g) b:=fun k h1 h2=>by cases h1;have:=hb g h2;omega
theorem Has.blt {α:Type} {E:En α} {N g:Nat} {x:α} {M:Nat→Prop} {n:Nat} {s0:St} {a:Act} {s:St} {L:Lst} (h:Has M n s0 a s L) (t:Nat) (hl:lk L t=some (Pd.box E N g x)):∀k,some g=some k→k<s.w.heap.size:=fun k hk=>by
 cases hk
 obtain ⟨_,_,_,_,_,hc,_⟩:=h.get t hl
 exact (Array.getElem?_eq_some_iff.1 hc).1
theorem rdl {P:Program} {id:Nat} {l:List Oper} {Q:Exit→Act→World→Prop} {M:Nat→Prop} {n:Nat} {s0:St} {a:Act} {s:St} {L:Lst} (hf:P.follows .mixedOrders=true) (m:Nat) (qs:List Pd)
  (hL:Has M n s0 a s L) (hok:zdt l.toArray m n (L.map (·.1)) []=true) (hq:qs.length=m) (hm:m≤l.length)
  (hT:∀i o q,i<m→l[i]?=some o→qs[i]?=some q→T P l.toArray o (depL l.toArray qs o.after.toList L) q)
  (hB:∀a' s',Ex s s'→Has M n s0 a' s' (newL l.toArray qs m L)→wpList P l.toArray Q (l.drop m) a' s'.w):(Code.region id l.toArray true).wp P Q a s.w:=by
 refine rd hf m qs hL hok hq (by simpa using hm) (fun i o q hi ho=>hT i o q hi (by simpa using ho)) fun a' s' e h=>?_
 have:=hB a' s' e h
 rw [← wpOps_eq_wpList (l.drop m) m (fun j=>by simp)] at this
 simpa using this
def AllT (P:Program) (ops:Array Oper) (qs0:List Pd) (L:Lst):List Oper→List Pd→Prop
 | _,[]=>True
 | [],_::_=>False
 | o::l,q::qs=>T P ops o (depL ops qs0 o.after.toList L) q∧AllT P ops qs0 L l qs
theorem AllT.at {P:Program} {ops:Array Oper} {qs0:List Pd} {L:Lst}:∀(l:List Oper) (qs:List Pd),AllT P ops qs0 L l qs→∀(i:Nat) (o:Oper) (q:Pd),l[i]?=some o→qs[i]?=some q→T P ops o (depL ops qs0 o.after.toList L) q
 | _,[],_,i,o,q,_,hq=>by simp at hq
 | [],_::_,h,_,_,_,_,_=>h.elim
 | o'::l,q'::qs,h,i,o,q,ho,hq=>by
  cases i with
  | zero=>simp only [List.getElem?_cons_zero,Option.some.injEq] at ho hq;subst ho;subst hq;exact h.1
  | succ i=>simp only [List.getElem?_cons_succ] at ho hq;exact AllT.at l qs h.2 i o q ho hq
theorem AllT.cons {P:Program} {ops:Array Oper} {qs0:List Pd} {L:Lst} {o:Oper} {l:List Oper} {q:Pd} {qs:List Pd} (h:T P ops o (depL ops qs0 o.after.toList L) q) (h2:AllT P ops qs0 L l qs):AllT P ops qs0 L (o::l) (q::qs):=⟨h,h2⟩
theorem AllT.nil {P:Program} {ops:Array Oper} {qs0:List Pd} {L:Lst} {l:List Oper}:AllT P ops qs0 L l []:=by cases l <;> trivial
theorem rda {P:Program} {id:Nat} {l:List Oper} {Q:Exit→Act→World→Prop} {M:Nat→Prop} {n:Nat} {s0:St} {a:Act} {s:St} {L:Lst} (hf:P.follows .mixedOrders=true) (m:Nat) (qs:List Pd)
  (hL:Has M n s0 a s L) (hok:zdt l.toArray m n (L.map (·.1)) []=true) (hq:Nat.beq qs.length m=true) (hm:Nat.ble m l.length=true)
  (hT:AllT P l.toArray qs L l qs)
  (hB:∀a' s',Ex s s'→Has M n s0 a' s' (newL l.toArray qs m L)→wpList P l.toArray Q (l.drop m) a' s'.w):(Code.region id l.toArray true).wp P Q a s.w:=
 rdl hf m qs hL hok (Nat.eq_of_beq_eq_true hq) (Nat.le_of_ble_eq_true hm) (fun i o q _ ho hq=>AllT.at l qs hT i o q ho hq) hB
section
variable {P : Program} {ops : Array Oper} {o : Oper} {L : Lst}
end
end Go.Proofs.YtahgmdbioafmbaaGreatDoor.VD
namespace Go.Proofs.YtahgmdbioafmbaaGreatDoor.VD
open Go
set_option linter.unusedVariables false
section
variable {P : Program} {ops : Array Oper} {o : Oper} {L L' : Lst} {Q : Exit → Act → World → Prop} {rest : List Oper} {M : Nat → Prop} {n : Nat} {s0 : St} {a : Act} {s : St}
end
def En.fun (P:Program) {β:Type} (qs:β→List Pd) (R:β→St→St→Value→Prop):En (β→Prop) where
 sz:=1
 agg:=false
 R:=fun w S cs F=>(cs=[.nilFunc]∧∀q,¬ F q)∨∃(f:FuncId) (first cap:Array Value),cs=[.func (.func f) first cap]∧(∀(args:Array Value) (w:World),(callFunc f args).run P w = .ok (.enter f args) w) ∧
  ∀s:St,Gl s→(∀b,S b→foot s b)→Same S w s.w→∀q,F q→∀vs,Vals s (qs q) vs→Calls P f (first++vs.toArray++cap) s.w fun e w'=>∃(v:Value) (s':St),e = .returned v∧s'.w=w'∧Ex s s'∧R q s s' v
 sc:=fun _=>rfl
 pos:=Nat.one_pos
 len:=by rintro _ _ _ _ (⟨rfl,_⟩ | ⟨_,_,_,rfl,_⟩) <;> rfl
 one:=by rintro _ _ _ _ (⟨rfl,_⟩ | ⟨_,_,_,rfl,_⟩) u hu <;> (simp at hu;subst hu;rfl)
 mono:=by
  rintro w S S' cs F h (h0 | ⟨f,first,cap,hc,h1,h2⟩)
  ·exact .inl h0
  ·exact .inr ⟨f,first,cap,hc,h1,fun s hg ha hb=>h2 s hg (fun b hS=>ha b (h b hS)) fun b hS=>hb b (h b hS)⟩
 move:=by
  rintro w w' S cs F h (h0 | ⟨f,first,cap,hc,h1,h2⟩)
  ·exact .inl h0
  ·exact .inr ⟨f,first,cap,hc,h1,fun s hg ha hb=>h2 s hg ha fun b hS=>(hb b hS).trans (h b hS)⟩
section
variable {P : Program} {ops : Array Oper} {o : Oper} {L : Lst} {β : Type} {qs : β → List Pd} {R : β → St → St → Value → Prop} {F : β → Prop}
theorem o_fun {f:FuncId} (hc:∀(args:Array Value) (w:World),(callFunc f args).run P w = .ok (.enter f args) w) (h:∀q,F q→Fn P f (qs q) (R q)):Opn L (.func f) (Pd.rep (En.fun P qs R) F):=
 fun M n s0 a s hL=>⟨[.func (.func f) #[] #[]],rfl,.inr ⟨f,#[],#[],rfl,hc,fun s1 hgl _ _ q hq vs hv=>by simpa using (h q hq).run s1 vs hgl hv⟩⟩
theorem t_callf {t:Nat} {xs:List Operand} {q:β} {q':Pd} {ats:Array TypeId} (hf:Opn L (.tmp t) (Pd.rep (En.fun P qs R) F)) (hq:F q) (hx:Opns L xs (qs q)) (hR:∀s s' v,R q s s' v→q'.p s' v)
  (ho:o.op = .call { callee:=.value (.tmp t),args:=xs.toArray,argTypes:=ats }) (hg:o.guard=none):T P ops o L q':=fun M n s0 a s hL Q k hk=>by
 simp only [Region.wanted,hg,if_true]
 obtain ⟨cs,hv,h⟩:=hf M n s0 a s hL
 rcases h with ⟨_,h0⟩ | ⟨f,first,cap,hcs,hc,hr⟩
 ·exact (h0 q hq).elim
 subst hcs
 have hv:a.eval (.tmp t) = .func (.func f) first cap:=hv
 have e:(execOp a.eval o).run P s.w = .ok (.enter f (first++(xs.map a.eval).toArray++cap)) s.w:=by
  have e1:execOp a.eval o=(do let d ← Deferred.ofValue (a.eval (.tmp t)) (xs.toArray.map a.eval);invoke d.target d.args):=by
   unfold execOp;rw [ho];rfl
  rw [e1,hv]
  have:=hc (first++(xs.map a.eval).toArray++cap) s.w
  simpa [Deferred.ofValue,invoke] using this
 unfold Oper.wp
 rw [e,Oper.upon_enter]
 refine (hr s hL.gls (fun _ h=>h) (fun _ _=>rfl) q hq _ (hx.vals hL)).mono fun e w' ⟨v,s',he,hw,hx,hq⟩=>?_
 subst he;subst hw
 exact hk v s' ⟨hx,hR _ _ _ hq⟩
end
theorem call_of {P:Program} {f:FuncId} {fn:Func} {c:Code} (hf:P.funcs[f]?=some fn) (hb:fn.body=some c) (hm:(fn.name == "runtime.NumGoroutine")=false):∀(args:Array Value) (w:World),(callFunc f args).run P w = .ok (.enter f args) w:=fun args w=>by
 have hm':¬ fn.name = "runtime.NumGoroutine":=by simpa using hm
 simp [callFunc,hf,hm',hb]
theorem o_q {L:Lst} {x:Operand} (q:Pd) (h:Opn L x q):Opn L x q:=h
end Go.Proofs.YtahgmdbioafmbaaGreatDoor.VD
