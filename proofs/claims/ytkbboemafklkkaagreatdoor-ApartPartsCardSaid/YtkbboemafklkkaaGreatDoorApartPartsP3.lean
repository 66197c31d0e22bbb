/-
  The texts that the law's proof needs, part 3.
-/
import Derived.Lib.ItoaNum
import Derived.Shelf.SlLaysF
import Derived.Shelf.SlSortCmp.NoneTotal
import Derived.Shelf.SlSortCmp.Whole1
import Derived.Shelf.SlSortCmp.WholeK
import Derived.Test.YtkbboemafklkkaaGreatDoorApartPartsP2

namespace Go.Proofs.YtkbboemafklkkaaGreatDoor.V
open Go
set_option linter.unusedVariables false
set_option maxRecDepth 100000
set_option maxHeartbeats 2000000
set_option synthInstance.maxSize 100000
set_option synthInstance.maxHeartbeats 200000
theorem zen {s_:Str} {i_:Int} {from_:Int} {to_:Int} {r_:Bool} (h:zfm s_ i_ from_ to_ r_):Fn Tryz.prog 191 [(Pd.rep En.str s_),(Pi i_),(Pi from_),(Pi to_)] (Rq (Pd.rep En.bool r_)):=by
 unfold zfm at h;refine zbp Tryz.func191 J Tryz.ntmps191 (by rfl) (by simp) fun s0 a L=>?_;refine rA 1 L fun a s L=>?_;obtain ⟨c1,h2,b3,h4,c5,h6,h⟩:=h;refine ra 21 (pp h2 (pp h4 (p1 h6))) L fun a s L=>?_;subst h;exact wp_ret (zdw J L J)
theorem zqn {s_:Str} {r_:Bool} (h:zbk s_ r_):Fn Tryz.prog 145 [(Pd.rep En.str s_)] (Rq (Pd.rep En.bool r_)):=by
 unfold zbk at h;refine zbp Tryz.func145 J Tryz.ntmps145 (by rfl) (by simp) fun s0 a L=>?_;refine rA 1 L fun a s L=>?_;refine rA 1 L fun a s L=>?_;refine wp_seq_k fun K1 H1=>wp_block ?_;have J2:∀(a:Act) (s:St),Has N0 148 s0 a s []→((zbk.j1 r_))→K1 a s.w:=by
  intro a s L h;unfold zbk.j1 at h;show K1 a s.w;refine H1 _ _ (rA 1 L fun a s L=>?_);subst h;exact wp_ret (zdw J L J)
 obtain ⟨k4,h⟩:=h;refine lpn (fun k5 a s=>∃(i3:Int),Has N0 148 s0 a s [(0,(Pd.rep En.str s_)),(3,(Pi i3))]∧zbk.l1 s_ r_ (zbk.j1 r_) k5 i3) k4 ⟨0,L.kk,h⟩ ?_;rintro k5 a s ⟨i3,L,h⟩ KL6 hKL6;unfold zbk.l1 at h;refine wp_seq_k fun K7 H7=>rA 4 L fun a s L=>?_;refine cn L h (fun h=>?_) fun h=>?_
 ·refine wp_skip (H7 _ _ ?_);refine wp_block ?_;obtain ⟨c8,h9,h⟩:=h;refine ra 5 (p1 h9) L fun a s L=>?_;obtain ⟨h10,r11,h12,h⟩:=h;refine ra 5 (p1 (zen h12)) L fun a s L=>?_;obtain ⟨h13,r14,h15,h⟩:=h;refine ra 5 (p1 (zen h15)) L fun a s L=>?_;obtain ⟨h16,r17,h18,h⟩:=h;refine ra 5 (p1 (zen h18)) L fun a s L=>?_;refine wp_block (rA 3 L fun a s L=>?_);refine cn L h (fun h=>?_) fun h=>?_
  ·obtain ⟨h19,h⟩:=h;refine rg (sA 3 L fun a s L=>?_);refine en' ?_;exact hKL6 a s ⟨(i3+1),L.kk,h⟩
  ·obtain ⟨b20,h21,h⟩:=h;refine ra 10 (p1 h21) L fun a s L=>?_;refine cn L h (fun h=>?_) fun h=>?_
   ·obtain ⟨h22,h⟩:=h;refine rg (sA 3 L fun a s L=>?_);refine en' ?_;exact hKL6 a s ⟨(i3+2),L.kk,h⟩
   ·obtain ⟨h23,r24,h25,h⟩:=h;refine ra 12 (pp (fun hc_=>(zen (h25 hc_))) trivial) L fun a s L=>?_;refine cn L h (fun h=>?_) fun h=>?_
    ·obtain ⟨h26,h⟩:=h;refine rg (sA 3 L fun a s L=>?_);refine en' ?_;exact hKL6 a s ⟨(i3+3),L.kk,h⟩
    ·obtain ⟨b27,h28,h⟩:=h;refine ra 21 (p1 h28) L fun a s L=>?_;refine cn L h (fun h=>?_) fun h=>?_
     ·obtain ⟨h29,h⟩:=h;refine rg (sA 3 L fun a s L=>?_);refine en' ?_;exact hKL6 a s ⟨(i3+3),L.kk,h⟩
     ·obtain ⟨h30,r31,h32,h⟩:=h;refine ra 12 (pp (fun hc_=>(zen (h32 hc_))) trivial) L fun a s L=>?_;refine cn L h (fun h=>?_) fun h=>?_
      ·obtain ⟨h33,h⟩:=h;refine rg (sA 3 L fun a s L=>?_);refine en' ?_;exact hKL6 a s ⟨(i3+3),L.kk,h⟩
      ·obtain ⟨h34,r35,h36,h⟩:=h;refine ra 15 (pp (fun hc_=>(zen (h36 hc_))) trivial) L fun a s L=>?_;refine cn L h (fun h=>?_) fun h=>?_
       ·obtain ⟨h37,h⟩:=h;refine rg (sA 3 L fun a s L=>?_);refine en' ?_;exact hKL6 a s ⟨(i3+4),L.kk,h⟩
       ·obtain ⟨b38,h39,h⟩:=h;refine ra 16 (p1 h39) L fun a s L=>?_;refine cn L h (fun h=>?_) fun h=>?_
        ·obtain ⟨h40,h⟩:=h;refine rg (sA 3 L fun a s L=>?_);refine en' ?_;exact hKL6 a s ⟨(i3+4),L.kk,h⟩
        ·obtain ⟨h41,r42,h43,h⟩:=h;refine ra 15 (pp (fun hc_=>(zen (h43 hc_))) trivial) L fun a s L=>?_;refine cn L h (fun h=>?_) fun h=>?_
         ·obtain ⟨h44,h⟩:=h;refine rg (sA 3 L fun a s L=>?_);refine en' ?_;exact hKL6 a s ⟨(i3+4),L.kk,h⟩
         ·refine rA 1 L fun a s L=>?_;subst h;exact wp_ret (zdw J L J)
 ·refine wp_exit ?_;exact J2 a s (L.kk) h
set_option maxRecDepth 100000
set_option maxHeartbeats 2000000
set_option synthInstance.maxSize 100000
set_option synthInstance.maxHeartbeats 200000
theorem zjv {l_:(List SNode)} {by_:Int} {r_:(List SNode)} (h:z6 l_ by_ r_):Fn Tryz.prog 44 [(Pd.rep (En.slice En.SNode) l_),(Pi by_)] (Ro En.SNode 40 r_):=by
 unfold z6 at h;refine zbp Tryz.func44 J Tryz.ntmps44 (by rfl) (by simp) fun s0 a L=>?_;refine rs (sno En.SNode 40 L fun a s L=>?_);refine es (rs ?_);refine sno En.SNode 40 L fun a s L=>?_;refine es (wp_seq_k fun K1 H1=>?_);refine rA 1 L fun a s L=>?_;refine wp_block ?_;have J4:∀(out2:(List SNode)) (og3:Option Nat) (a:Act) (s:St),Has N0 44 s0 a s [(5,(Pd.row En.SNode s0.w.heap.size 40 og3 out2))]→((z6.j1 r_) out2)→K1 a s.w:=by
  intro out2 og3 a s L h;unfold z6.j1 at h;show K1 a s.w;refine H1 _ _ (rA 2 L fun a s L=>?_);subst h;exact wp_ret (zif J L J)
 obtain ⟨k8,h⟩:=h;refine lpn (fun k9 a s=>∃(out5:(List SNode)) (i7:Int) (og6:Option Nat),Has N0 44 s0 a s [(0,(Pd.rep (En.slice En.SNode) l_)),(1,(Pi by_)),(5,(Pd.row En.SNode s0.w.heap.size 40 og6 out5)),(6,(Pi i7))]∧z6.l1 l_ by_ (z6.j1 r_) k9 out5 i7) k8 ⟨([]:(List SNode)),0,none,L.kk,h⟩ ?_;rintro k9 a s ⟨out5,i7,og6,L,h⟩ KL10 hKL10;unfold z6.l1 at h;refine wp_seq_k fun K11 H11=>rA 4 L fun a s L=>?_;refine cn L h (fun h=>?_) fun h=>?_
 ·refine wp_skip (H11 _ _ ?_);refine wp_seq_k fun K12 H12=>wp_block ?_;obtain ⟨e13,h14,h⟩:=h;refine rs (sl 4 (p1 h14) L fun a s L=>?_);have lt_d16:=L.rlt 5 rfl;refine zba En.SNode (z:=(0,0,0,0,0,(0#256),([]:Str))) 7 L zme J J J J fun a s g15 hg_ L=>?_;have d16:=Dis.newg hg_ lt_d16;refine sB 7 L fun s L=>?_;refine es (wp_seq_k fun K17 H17=>?_);refine rA 3 L fun a s L=>?_;have J19:∀(n18:SNode) (a:Act) (s:St),Has N0 44 s0 a s [(0,(Pd.rep (En.slice En.SNode) l_)),(1,(Pi by_)),(5,(Pd.row En.SNode s0.w.heap.size 40 og6 out5)),(6,(Pi i7)),(7,(Pd.box En.SNode s0.w.heap.size g15 n18))]→Dis og6 (some g15)→((z6.j3 (z6.l1 l_ by_ (z6.j1 r_) k9) by_ out5 i7) n18)→K17 a s.w:=by
   intro n18 a s L d20 h;unfold z6.j3 at h;show K17 a s.w;refine H17 _ _ (wp_seq_k fun K21 H21=>?_);refine rA 8 L fun a s L=>?_;have J23:∀(n22:SNode) (a:Act) (s:St),Has N0 44 s0 a s [(0,(Pd.rep (En.slice En.SNode) l_)),(1,(Pi by_)),(5,(Pd.row En.SNode s0.w.heap.size 40 og6 out5)),(6,(Pi i7)),(7,(Pd.box En.SNode s0.w.heap.size g15 n22))]→Dis og6 (some g15)→((z6.j2 (z6.l1 l_ by_ (z6.j1 r_) k9) out5 i7) n22)→K21 a s.w:=by
    intro n22 a s L d24 h;unfold z6.j2 at h;show K21 a s.w;refine H21 _ _ ?_;obtain ⟨h25,h⟩:=h;refine rg (sA 3 L fun a s L=>?_);refine zdo 42 L op op Ud.h Tq.h h25 J J J J ka fun a s og26 hg_ L=>?_;refine sA 1 L fun a s L=>?_;refine en' (H12 _ _ ?_);obtain ⟨h27,h⟩:=h;refine rg (sA 3 L fun a s L=>?_);refine en' ?_;exact hKL10 a s ⟨(out5++[n22]),(i7+1),og26,L.kk,h⟩
   refine cn L h (fun h=>?_) fun h=>?_
   ·obtain ⟨h28,h⟩:=h;refine rg (sA 5 L fun a s L=>?_);refine zc6 7 L J op op (zj (zj (zv (zn _ _ _)) J) J) Tq.h J J J ka fun s L=>?_;refine en' ?_;exact J23 (n18.1,n18.2.1,n18.2.2.1+by_,n18.2.2.2.1,n18.2.2.2.2.1,n18.2.2.2.2.2.1,n18.2.2.2.2.2.2) a s (L.kk) d20 h
   ·refine wp_skip ?_;exact J23 n18 a s (L.kk) d20 h
  refine cn L h (fun h=>?_) fun h=>?_
  ·obtain ⟨h29,h⟩:=h;refine rg (sA 5 L fun a s L=>?_);refine zc6 7 L J op op (zj (zv (zn _ _ _)) J) Tq.h J J J ka fun s L=>?_;refine en' ?_;exact J19 (e13.1,e13.2.1+by_,e13.2.2.1,e13.2.2.2.1,e13.2.2.2.2.1,e13.2.2.2.2.2.1,e13.2.2.2.2.2.2) a s (L.kk) (Dis.symm d16) h
  ·refine wp_skip ?_;exact J19 e13 a s (L.kk) (Dis.symm d16) h
 ·refine wp_exit ?_;exact J4 out5 og6 a s (L.kk) h
theorem zkf {kind_:Int} {a_:SDesc} {b_:SDesc} {r_:SDesc} (h:zhf kind_ a_ b_ r_):Fn Tryz.prog 16 [(Pi kind_),(Pd.rep En.SDesc a_),(Pd.rep En.SDesc b_)] (Rq (Pd.rep En.SDesc r_)):=by
 unfold zhf at h;refine zbp Tryz.func16 J Tryz.ntmps16 (by rfl) (by simp) fun s0 a L=>?_;refine rs (sA 2 L fun a s L=>?_);refine zba En.SDesc (z:=[]) 6 L zp3 J J J J fun a s g1 hg_ L=>?_;refine es ?_;obtain ⟨r4,h5,r6,h7,h10,h⟩:=h;refine wp_seq ?_;obtain ⟨K2,H2,nK2,L⟩:=L.mark 999983;have lt3:∀k,(some g1)=some k→k<K2:=by rw [H2];exact L.blt 6 rfl
 refine rda zc1 9 [(Pd.ptr (En.slice En.SNode) a_),(Pd.rep (En.slice En.SNode) a_),(Pd.erow En.SNode s0.w.heap.size K2 40 r4),(Pd.ptr (En.slice En.SNode) b_),(Pd.rep (En.slice En.SNode) b_),(Pd.ptr (En.slice En.SNode) a_),(Pd.rep (En.slice En.SNode) a_),(Pi (a_.length:Int)),(Pd.rep (En.slice En.SNode) r6)] L (by kernel_rfl) J J ?_ ?_
 ·refine zbf.cons (zlw (off:=0) (O 4 J) U24 J (zki (zy _ _)) J ty22 J J) ?_;refine zbf.cons (zci ty22 (O 8 J) J J) ?_;refine zbf.cons (t_callox (K:=K2) (m:=999983) J nK2 (zjv h5) (xs:=[.tmp 9,.const (.int .i64 0)]) (.cons (O 9 J) (.cons oI .nil)) J J) ?_;refine zbf.cons (zlw (off:=0) (O 5 J) U24 J (zki (zy _ _)) J ty22 J J) ?_;refine zbf.cons (zci ty22 (O 11 J) J J) ?_;refine zbf.cons (zlw (off:=0) (O 4 J) U24 J (zki (zy _ _)) J ty22 J J) ?_;refine zbf.cons (zci ty22 (O 13 J) J J) ?_;refine zbf.cons (t_len (O 14 J) U22 J J) ?_;refine zbf.cons (ze8 ((zjv h7).frz) (xs:=[.tmp 12,.tmp 15]) (.cons (O 12 J) (.cons (O 15 J) .nil)) J J) ?_;exact zbf.nil
 intro a s _ L;obtain ⟨og8,hg_,L⟩:=L.openr 10 rfl;have d9:=Dis.new hg_ lt3;replace L:=L.kk (L':=[(0,(Pi kind_)),(4,(Pd.ptr En.SDesc a_)),(5,(Pd.ptr En.SDesc b_)),(6,(Pd.box En.SDesc s0.w.heap.size g1 [])),(10,(Pd.row En.SNode s0.w.heap.size 40 og8 r4)),(16,(Pd.rep (En.slice En.SNode) r6))]);refine dp ?_;have lt_og11_0:=L.blt 6 rfl;refine zdo 17 L op op Ud.h Tq.h h10 J J J J ka fun a s og11 hg_ L=>?_;have d12:=Dis.app hg_ d9 lt_og11_0;refine sA 1 L fun a s L=>?_;refine es ?_;obtain ⟨h13,h14,h15,h16,h⟩:=h;refine rs (sA 14 L fun a s L=>?_);refine sv (zbm (x:=(kind_,(a_.length:Int)-1,((a_.length:Int)+(b_.length:Int))-1,0,0,(0#256),([]:Str))) (ps:=[(0,.tmp 19),(1,.tmp 23),(2,.tmp 31)]) zme J stt40 (.cons (i:=0) op J (zv (zn _ _ _)) (.cons (i:=1) op J (zj (zv (zn _ _ _)) J) (.cons (i:=2) op J (zj (zj (zv (zn _ _ _)) J) J) .nil))) J J) L fun a s L=>?_;refine sA 1 L fun a s L=>?_;have lt_og17_0:=L.blt 6 rfl;refine zdo 34 L op op Ud.h Tq.h h16 J J J J ka fun a s og17 hg_ L=>?_;have d18:=Dis.app hg_ d12 lt_og17_0;refine fzl 34 L fun s L=>?_;refine sv (zbm (x:=(r4++r6)++[(kind_,(a_.length:Int)-1,((a_.length:Int)+(b_.length:Int))-1,0,0,(0#256),([]:Str))]) (ps:=[(0,.tmp 34)]) zp3 J stt24 (.cons (i:=0) op J (zmm (zn _ _ _)) .nil) J J) L fun a s L=>?_;refine sB 6 L fun s L=>?_;refine es ?_;subst h;exact wp_ret (retb J ty24 L J)
theorem ref04_Few_ok {d_:SDesc} {r_:Bool} (h:zcx d_ r_):Fn Tryz.prog 35 [(Pd.rep En.SDesc d_)] (Rq (Pd.rep En.bool r_)):=by
 unfold zcx at h;refine zbp Tryz.func35 J Tryz.ntmps35 (by rfl) (by simp) fun s0 a L=>?_;refine rA 2 L fun a s L=>?_;refine rA 1 L fun a s L=>?_;refine wp_seq_k fun K1 H1=>rA 1 L fun a s L=>?_;refine wp_block ?_;have J3:∀(n2:Int) (a:Act) (s:St),Has N0 33 s0 a s [(1,(Pd.ptr En.SDesc d_)),(3,(Pi n2))]→((zcx.j1 d_ r_) n2)→K1 a s.w:=by
  intro n2 a s L h;unfold zcx.j1 at h;show K1 a s.w;refine H1 _ _ ?_;obtain ⟨b4,h5,h⟩:=h;refine ra 9 (p1 h5) L fun a s L=>?_;subst h;exact wp_ret (zdw J L J)
 obtain ⟨k8,h⟩:=h;refine lpn (fun k9 a s=>∃(n6:Int) (i7:Int),Has N0 33 s0 a s [(1,(Pd.ptr En.SDesc d_)),(3,(Pi n6)),(4,(Pi i7))]∧zcx.l1 d_ (zcx.j1 d_ r_) k9 n6 i7) k8 ⟨0,0,L.kk,h⟩ ?_;rintro k9 a s ⟨n6,i7,L,h⟩ KL10 hKL10;unfold zcx.l1 at h;refine wp_seq_k fun K11 H11=>?_;obtain ⟨b12,h13,h⟩:=h;refine ra 9 (p1 h13) L fun a s L=>?_;refine cn L h (fun h=>?_) fun h=>?_
 ·refine wp_skip (H11 _ _ ?_);refine wp_seq_k fun K14 H14=>wp_block ?_;obtain ⟨e15,h16,h17,h⟩:=h;refine rg (sl 10 (p1 h16) L fun a s L=>?_);refine en' (H14 _ _ ?_);obtain ⟨h18,h⟩:=h;refine rg (sA 3 L fun a s L=>?_);refine en' ?_;exact hKL10 a s ⟨(n6+(e15.2.2.2.2.2.2.length:Int)),(i7+1),L.kk,h⟩
 ·refine wp_exit ?_;exact J3 n6 a s (L.kk) h
theorem zni {d_:SDesc} {r_:Int} (h:zl d_ r_):Fn Tryz.prog 36 [(Pd.rep En.SDesc d_)] (Rq (Pi r_)):=by
 unfold zl at h;refine zbp Tryz.func36 J Tryz.ntmps36 (by rfl) (by simp) fun s0 a L=>?_;refine rA 2 L fun a s L=>?_;refine rs (sno (En.int .i64) 3 L fun a s L=>?_);refine es (wp_seq_k fun K1 H1=>?_);refine rA 1 L fun a s L=>?_;refine wp_block ?_;have J4:∀(l2:(List Int)) (og3:Option Nat) (a:Act) (s:St),Has N0 113 s0 a s [(3,(Pd.row (En.int .i64) s0.w.heap.size 3 og3 l2))]→((zl.j1 r_) l2)→K1 a s.w:=by
  intro l2 og3 a s L h;unfold zl.j1 at h;show K1 a s.w;refine H1 _ _ (wp_seq_k fun K5 H5=>?_);refine rA 3 L fun a s L=>?_;refine cn L h (fun h=>?_) fun h=>?_
  ·refine rA 1 L fun a s L=>?_;subst h;exact wp_ret (zdw J L J)
  ·refine wp_skip (H5 _ _ ?_);obtain ⟨h6,e7,h8,h⟩:=h;refine ra 7 (p1 h8) L fun a s L=>?_;subst h;exact wp_ret (zdw J L J)
 obtain ⟨k12,h⟩:=h;refine lpn (fun k13 a s=>∃(l9:(List Int)) (i11:Int) (og10:Option Nat),Has N0 113 s0 a s [(1,(Pd.ptr En.SDesc d_)),(3,(Pd.row (En.int .i64) s0.w.heap.size 3 og10 l9)),(4,(Pi i11))]∧zl.l1 d_ (zl.j1 r_) k13 l9 i11) k12 ⟨([]:(List Int)),0,none,L.kk,h⟩ ?_;rintro k13 a s ⟨l9,i11,og10,L,h⟩ KL14 hKL14;unfold zl.l1 at h;refine wp_seq_k fun K15 H15=>?_;obtain ⟨b16,h17,h⟩:=h;refine ra 9 (p1 h17) L fun a s L=>?_;refine cn L h (fun h=>?_) fun h=>?_
 ·refine wp_skip (H15 _ _ ?_);refine wp_seq_k fun K18 H18=>wp_block ?_;obtain ⟨e19,h20,h⟩:=h;refine rs (sl 5 (p1 h20) L fun a s L=>?_);have lt_d22:=L.rlt 3 rfl;refine zba En.SNode (z:=(0,0,0,0,0,(0#256),([]:Str))) 5 L zme J J J J fun a s g21 hg_ L=>?_;have d22:=Dis.newg hg_ lt_d22;refine sB 5 L fun s L=>?_;refine es (rA 1 L fun a s L=>?_);refine rA 1 L fun a s L=>?_;refine wp_seq_k fun K23 H23=>?_;obtain ⟨b24,h25,h⟩:=h;refine ra 10 (p1 h25) L fun a s L=>?_;have J27:∀(a26:Int) (a:Act) (s:St),Has N0 113 s0 a s [(1,(Pd.ptr En.SDesc d_)),(3,(Pd.row (En.int .i64) s0.w.heap.size 3 og10 l9)),(4,(Pi i11)),(5,(Pd.box En.SNode s0.w.heap.size g21 e19)),(6,(Pi a26)),(7,(Pi 0))]→Dis og10 (some g21)→((zl.j7 (zl.l1 d_ (zl.j1 r_) k13) l9 i11 e19) a26)→K23 a s.w:=by
   intro a26 a s L d28 h;unfold zl.j7 at h;show K23 a s.w;refine H23 _ _ (wp_seq_k fun K29 H29=>?_);obtain ⟨b30,h31,h⟩:=h;refine ra 10 (p1 h31) L fun a s L=>?_;have J33:∀(b32:Int) (a:Act) (s:St),Has N0 113 s0 a s [(1,(Pd.ptr En.SDesc d_)),(3,(Pd.row (En.int .i64) s0.w.heap.size 3 og10 l9)),(4,(Pi i11)),(5,(Pd.box En.SNode s0.w.heap.size g21 e19)),(6,(Pi a26)),(7,(Pi b32))]→Dis og10 (some g21)→((zl.j6 (zl.l1 d_ (zl.j1 r_) k13) l9 i11 e19 a26) b32)→K29 a s.w:=by
    intro b32 a s L d34 h;unfold zl.j6 at h;show K29 a s.w;refine H29 _ _ (rA 1 L fun a s L=>?_);refine wp_seq_k fun K35 H35=>rA 3 L fun a s L=>?_;have J37:∀(w36:Int) (a:Act) (s:St),Has N0 113 s0 a s [(1,(Pd.ptr En.SDesc d_)),(3,(Pd.row (En.int .i64) s0.w.heap.size 3 og10 l9)),(4,(Pi i11)),(5,(Pd.box En.SNode s0.w.heap.size g21 e19)),(6,(Pi a26)),(7,(Pi b32)),(8,(Pi w36))]→Dis og10 (some g21)→((zl.j5 (zl.l1 d_ (zl.j1 r_) k13) l9 i11 e19 a26 b32) w36)→K35 a s.w:=by
     intro w36 a s L d38 h;unfold zl.j5 at h;show K35 a s.w;refine H35 _ _ (wp_seq_k fun K39 H39=>?_);refine rA 8 L fun a s L=>?_;have J41:∀(w40:Int) (a:Act) (s:St),Has N0 113 s0 a s [(1,(Pd.ptr En.SDesc d_)),(3,(Pd.row (En.int .i64) s0.w.heap.size 3 og10 l9)),(4,(Pi i11)),(5,(Pd.box En.SNode s0.w.heap.size g21 e19)),(6,(Pi a26)),(8,(Pi w40))]→Dis og10 (some g21)→((zl.j4 (zl.l1 d_ (zl.j1 r_) k13) l9 i11 e19 a26) w40)→K39 a s.w:=by
      intro w40 a s L d42 h;unfold zl.j4 at h;show K39 a s.w;refine H39 _ _ (wp_seq_k fun K43 H43=>?_);refine rA 13 L fun a s L=>?_;have J45:∀(w44:Int) (a:Act) (s:St),Has N0 113 s0 a s [(1,(Pd.ptr En.SDesc d_)),(3,(Pd.row (En.int .i64) s0.w.heap.size 3 og10 l9)),(4,(Pi i11)),(5,(Pd.box En.SNode s0.w.heap.size g21 e19)),(6,(Pi a26)),(8,(Pi w44))]→Dis og10 (some g21)→((zl.j3 (zl.l1 d_ (zl.j1 r_) k13) l9 i11 e19 a26) w44)→K43 a s.w:=by
       intro w44 a s L d46 h;unfold zl.j3 at h;show K43 a s.w;refine H43 _ _ (wp_seq_k fun K47 H47=>?_);refine rA 3 L fun a s L=>?_;have J49:∀(w48:Int) (a:Act) (s:St),Has N0 113 s0 a s [(1,(Pd.ptr En.SDesc d_)),(3,(Pd.row (En.int .i64) s0.w.heap.size 3 og10 l9)),(4,(Pi i11)),(8,(Pi w48))]→((zl.j2 (zl.l1 d_ (zl.j1 r_) k13) l9 i11) w48)→K47 a s.w:=by
        intro w48 a s L h;unfold zl.j2 at h;show K47 a s.w;refine H47 _ _ ?_;obtain ⟨h50,h⟩:=h;refine rg (sA 4 L fun a s L=>?_);refine zdo 103 L op op Ud.h Tq.h h50 J J J J ka fun a s og51 hg_ L=>?_;refine sA 1 L fun a s L=>?_;refine en' (H18 _ _ ?_);obtain ⟨h52,h⟩:=h;refine rg (sA 3 L fun a s L=>?_);refine en' ?_;exact hKL14 a s ⟨(l9++[(min w48 1000)]),(i11+1),og51,L.kk,h⟩
       refine cn L h (fun h=>?_) fun h=>?_
       ·obtain ⟨h53,h54,h⟩:=h;refine rg (sA 8 L fun a s L=>?_);refine en' ?_;exact J49 ((1+(max 0 (min e19.2.2.2.2.1 1000)))*a26) a s (L.kk) h
       ·refine wp_skip ?_;exact J49 w44 a s (L.kk) h
      refine cn L h (fun h=>?_) fun h=>?_
      ·obtain ⟨h55,h⟩:=h;refine rg (sA 3 L fun a s L=>?_);refine en' ?_;exact J45 (a26+1) a s (L.kk) d42 h
      ·refine wp_skip ?_;exact J45 w40 a s (L.kk) d42 h
     refine cn L h (fun h=>?_) fun h=>?_
     ·obtain ⟨h56,h⟩:=h;refine rg (sA 4 L fun a s L=>?_);refine en' ?_;exact J41 (a26+b32) a s (L.kk) d38 h
     ·refine wp_skip ?_;exact J41 w36 a s (L.kk) d38 h
    refine cn L h (fun h=>?_) fun h=>?_
    ·obtain ⟨h57,h⟩:=h;refine rg (sA 6 L fun a s L=>?_);refine en' ?_;exact J37 (1+(min (e19.2.2.2.2.2.2.length:Int) 1000)) a s (L.kk) d34 h
    ·refine wp_skip ?_;exact J37 1 a s (L.kk) d34 h
   refine cn L h (fun h=>?_) fun h=>?_
   ·obtain ⟨e58,h59,h⟩:=h;refine rg (sl 6 (p1 h59) L fun a s L=>?_);refine en' ?_;exact J33 e58 a s (L.kk) d28 h
   ·refine wp_skip ?_;exact J33 0 a s (L.kk) d28 h
  refine cn L h (fun h=>?_) fun h=>?_
  ·obtain ⟨e60,h61,h⟩:=h;refine rg (sl 6 (p1 h61) L fun a s L=>?_);refine en' ?_;exact J27 e60 a s (L.kk) (Dis.symm d22) h
  ·refine wp_skip ?_;exact J27 0 a s (L.kk) (Dis.symm d22) h
 ·refine wp_exit ?_;exact J4 l9 og10 a s (L.kk) h
theorem zql {s_:Str} {r_:Bool} (h:zcd s_ r_):Fn Tryz.prog 117 [(Pd.rep En.str s_)] (Rq (Pd.rep En.bool r_)):=by
 unfold zcd at h;refine zbp Tryz.func117 J Tryz.ntmps117 (by rfl) (by simp) fun s0 a L=>?_;refine rA 1 L fun a s L=>?_;refine wp_seq_k fun K1 H1=>rA 1 L fun a s L=>?_;refine wp_block ?_;have J2:∀(a:Act) (s:St),Has N0 21 s0 a s [(0,(Pd.rep En.str s_))]→((zcd.j1 s_ r_))→K1 a s.w:=by
  intro a s L h;unfold zcd.j1 at h;show K1 a s.w;refine H1 _ _ ?_;obtain ⟨r3,h4,h⟩:=h;refine ra 8 (pp (fun hc_=>(zqn (h4 hc_))) trivial) L fun a s L=>?_;subst h;exact wp_ret (zdw J L J)
 obtain ⟨k6,h⟩:=h;refine lpn (fun k7 a s=>∃(i5:Int),Has N0 21 s0 a s [(0,(Pd.rep En.str s_)),(3,(Pi i5))]∧zcd.l1 s_ r_ (zcd.j1 s_ r_) k7 i5) k6 ⟨0,L.kk,h⟩ ?_;rintro k7 a s ⟨i5,L,h⟩ KL8 hKL8;unfold zcd.l1 at h;refine wp_seq_k fun K9 H9=>rA 4 L fun a s L=>?_;refine cn L h (fun h=>?_) fun h=>?_
 ·refine wp_skip (H9 _ _ ?_);refine wp_seq_k fun K10 H10=>wp_block ?_;obtain ⟨c11,h12,h⟩:=h;refine ra 4 (p1 h12) L fun a s L=>?_;refine cn L h (fun h=>?_) fun h=>?_
  ·refine rA 1 L fun a s L=>?_;subst h;exact wp_ret (zdw J L J)
  ·refine wp_skip (H10 _ _ ?_);obtain ⟨h13,h⟩:=h;refine rg (sA 3 L fun a s L=>?_);refine en' ?_;exact hKL8 a s ⟨(i5+1),L.kk,h⟩
 ·refine wp_exit ?_;exact J2 a s (L.kk) h
theorem zx.n_ok (k_:Nat):∀{l_:(List SNode)} {i_:Int} {r_:Int} (h:zx.n k_ l_ i_ r_),Fn Tryz.prog 91 [(Pd.rep (En.slice En.SNode) l_),(Pi i_)] (Rq (Pi r_)):=by
 induction k_ with
 | zero=>intro l_ i_ r_ h;exact h.elim
 | succ k_ ih_=>
 intro l_ i_ r_ h;unfold zx.n at h;refine zbp Tryz.func91 J Tryz.ntmps91 (by rfl) (by simp) fun s0 a L=>?_;refine rA 1 L fun a s L=>?_;refine wp_seq_k fun K1 H1=>rA 2 L fun a s L=>?_;refine cn L h (fun h=>?_) fun h=>?_
 ·refine rA 1 L fun a s L=>?_;subst h;exact wp_ret (zdw J L J)
 ·refine wp_skip (H1 _ _ ?_);obtain ⟨e2,h3,h⟩:=h;refine rs (sl 4 (p1 h3) L fun a s L=>?_);refine zba En.SNode (z:=(0,0,0,0,0,(0#256),([]:Str))) 5 L zme J J J J fun a s g4 hg_ L=>?_;refine sB 5 L fun s L=>?_;refine es (rs ?_);refine sA 2 L fun a s L=>?_;refine sv (zbm (x:=(e2.1,0,0,0,0,(0#256),([]:Str))) (ps:=[(0,.tmp 16)]) zme J stt40 (.cons (i:=0) op J (zv (zn _ _ _)) .nil) J J) L fun a s L=>?_;have lt_d6:=L.blt 5 rfl;refine zba En.SNode (z:=(0,0,0,0,0,(0#256),([]:Str))) 6 L zme J J J J fun a s g5 hg_ L=>?_;have d6:=Dis.newg hg_ lt_d6;refine sB 6 L fun s L=>?_;refine es (rA 2 L fun a s L=>?_);refine wp_seq_k fun K7 H7=>rA 2 L fun a s L=>?_;refine wp_block (rA 2 L fun a s L=>?_);refine cn L h (fun h=>?_) fun h=>?_
  ·refine wp_skip (H7 _ _ ?_);refine wp_seq_k fun K8 H8=>rs (sA 2 L fun a s L=>?_);refine sv (t_nev eq40 op op J J) L fun a s L=>?_;refine es (cn L h (fun h=>?_) fun h=>?_)
   ·refine rA 1 L fun a s L=>?_;subst h;exact wp_ret (zdw J L J)
   ·refine wp_skip (H8 _ _ ?_);refine rA 2 L fun a s L=>?_;subst h;exact wp_ret (zdw J L J)
  ·refine rA 2 L fun a s L=>?_;refine cn L h (fun h=>?_) fun h=>?_
   ·refine rg ?_;refine sA 3 L fun a s L=>?_;refine zc6 6 L J op op (zj (zj (zj (zj (zj (zv (zn _ _ _)) J) J) J) J) J) Tq.h J J J ka fun s L=>?_;refine en' (H7 _ _ ?_);refine wp_seq_k fun K9 H9=>?_;obtain ⟨b10,h11,h⟩:=h;refine rs (sA 2 L fun a s L=>?_);refine sv (h11 ▸ (t_nev eq40 op op J J)) L fun a s L=>?_;refine es (cn L h (fun h=>?_) fun h=>?_)
    ·refine rA 1 L fun a s L=>?_;subst h;exact wp_ret (zdw J L J)
    ·refine wp_skip (H9 _ _ ?_);refine rA 2 L fun a s L=>?_;subst h;exact wp_ret (zdw J L J)
   ·refine rA 2 L fun a s L=>?_;refine cn L h (fun h=>?_) fun h=>?_
    ·refine rs ?_;refine sA 3 L fun a s L=>?_;refine zc6 6 L J op op (zj (zj (zj (zj (zj (zj (zn _ _ _) J) J) J) J) J) J) Tq.h J J J ka fun s L=>?_;refine es ?_;obtain ⟨r12,h13,h⟩:=h;refine ra 4 (p1 (zql h13)) L fun a s L=>?_;refine cn L h (fun h=>?_) fun h=>?_
     ·refine rA 1 L fun a s L=>?_;subst h;exact wp_ret (zdw J L J)
     ·refine wp_skip (H7 _ _ ?_);refine wp_seq_k fun K14 H14=>?_;obtain ⟨b15,h16,h⟩:=h;refine rs (sA 2 L fun a s L=>?_);refine sv (h16 ▸ (t_nev eq40 op op J J)) L fun a s L=>?_;refine es (cn L h (fun h=>?_) fun h=>?_)
      ·refine rA 1 L fun a s L=>?_;subst h;exact wp_ret (zdw J L J)
      ·refine wp_skip (H14 _ _ ?_);refine rA 2 L fun a s L=>?_;subst h;exact wp_ret (zdw J L J)
    ·refine wp_seq_k fun K17 H17=>?_;refine rA 2 L fun a s L=>?_;have J19:∀(v18:Bool) (a:Act) (s:St),Has N0 96 s0 a s [(0,(Pd.rep (En.slice En.SNode) l_)),(1,(Pi i_)),(5,(Pd.box En.SNode s0.w.heap.size g4 e2)),(6,(Pd.box En.SNode s0.w.heap.size g5 (e2.1,0,0,0,0,(0#256),([]:Str)))),(20,(Pi e2.1)),(37,(Pd.rep En.bool v18))]→Dis (some g4) (some g5)→((zx.j3 (zx.n k_) l_ i_ r_ e2) v18)→K17 a s.w:=by
      intro v18 a s L d20 h;unfold zx.j3 at h;show K17 a s.w;refine H17 _ _ (cn L h (fun h=>?_) fun h=>?_)
      ·obtain ⟨h21,h⟩:=h;refine rs (sA 3 L fun a s L=>?_);refine zc6 6 L J op op (zj (zv (zn _ _ _)) J) Tq.h J J J ka fun s L=>?_;refine es (wp_seq_k fun K22 H22=>?_);refine rA 3 L fun a s L=>?_;have J24:∀(want23:SNode) (a:Act) (s:St),Has N0 96 s0 a s [(0,(Pd.rep (En.slice En.SNode) l_)),(1,(Pi i_)),(5,(Pd.box En.SNode s0.w.heap.size g4 e2)),(6,(Pd.box En.SNode s0.w.heap.size g5 want23))]→Dis (some g4) (some g5)→((zx.j1 (zx.n k_) l_ i_ r_ e2) want23)→K22 a s.w:=by
        intro want23 a s L d25 h;unfold zx.j1 at h;show K22 a s.w;refine H22 _ _ ?_;obtain ⟨h26,r27,h28,h⟩:=h;refine rg (sl 5 (p1 (ih_ h28)) L fun a s L=>?_);refine en' (H7 _ _ ?_);refine wp_seq_k fun K29 H29=>rs (sA 2 L fun a s L=>?_);refine sv (t_nev eq40 op op J J) L fun a s L=>?_;refine es (cn L h (fun h=>?_) fun h=>?_)
        ·refine rA 1 L fun a s L=>?_;subst h;exact wp_ret (zdw J L J)
        ·refine wp_skip (H29 _ _ ?_);refine rA 2 L fun a s L=>?_;subst h;exact wp_ret (zdw J L J)
       refine cn L h (fun h=>?_) fun h=>?_
       ·refine rs ?_;refine sA 3 L fun a s L=>?_;refine zc6 6 L J op op (zj (zj (zj (zv (zn _ _ _)) J) J) J) Tq.h J J J ka fun s L=>?_;refine es (rs ?_);refine sA 3 L fun a s L=>?_;refine zc6 6 L J op op (zj (zj (zj (zj (zv (zn _ _ _)) J) J) J) J) Tq.h J J J ka fun s L=>?_;refine es ?_;obtain ⟨b30,h31,h⟩:=h;refine ra 15 (p1 h31) L fun a s L=>?_;refine cn L h (fun h=>?_) fun h=>?_
        ·refine rA 1 L fun a s L=>?_;subst h;exact wp_ret (zdw J L J)
        ·refine wp_skip ?_;exact J24 (e2.1,i_-1,0,e2.2.2.2.1,e2.2.2.2.2.1,(0#256),([]:Str)) a s (L.kk) d20 h
       ·refine wp_skip ?_;exact J24 (e2.1,i_-1,0,0,0,(0#256),([]:Str)) a s (L.kk) d20 h
      ·refine wp_seq_k fun K32 H32=>?_;refine rA 2 L fun a s L=>?_;have J34:∀(v33:Bool) (a:Act) (s:St),Has N0 96 s0 a s [(0,(Pd.rep (En.slice En.SNode) l_)),(1,(Pi i_)),(5,(Pd.box En.SNode s0.w.heap.size g4 e2)),(6,(Pd.box En.SNode s0.w.heap.size g5 (e2.1,0,0,0,0,(0#256),([]:Str)))),(73,(Pd.rep En.bool v33))]→Dis (some g4) (some g5)→((zx.j2 (zx.n k_) l_ i_ r_ e2) v33)→K32 a s.w:=by
        intro v33 a s L d35 h;unfold zx.j2 at h;show K32 a s.w;refine H32 _ _ (cn L h (fun h=>?_) fun h=>?_)
        ·obtain ⟨h36,h⟩:=h;refine rs (sA 3 L fun a s L=>?_);refine zc6 6 L J op op (zj (zj (zv (zn _ _ _)) J) J) Tq.h J J J ka fun s L=>?_;refine es ?_;obtain ⟨h37,r38,h39,h⟩:=h;refine ra 5 (p1 (ih_ h39)) L fun a s L=>?_;refine wp_seq_k fun K40 H40=>rA 2 L fun a s L=>?_;refine cn L h (fun h=>?_) fun h=>?_
         ·refine rA 1 L fun a s L=>?_;subst h;exact wp_ret (zdw J L J)
         ·refine wp_skip (H40 _ _ ?_);obtain ⟨h41,h⟩:=h;refine rs (sA 3 L fun a s L=>?_);refine zc6 6 L J op op (zj (zv (zn _ _ _)) J) Tq.h J J J ka fun s L=>?_;refine es ?_;obtain ⟨h42,r43,h44,h⟩:=h;refine rg (sl 5 (p1 (ih_ h44)) L fun a s L=>?_);refine en' (H7 _ _ ?_);refine wp_seq_k fun K45 H45=>?_;obtain ⟨b46,h47,h⟩:=h;refine rs (sA 2 L fun a s L=>?_);refine sv (h47 ▸ (t_nev eq40 op op J J)) L fun a s L=>?_;refine es (cn L h (fun h=>?_) fun h=>?_)
          ·refine rA 1 L fun a s L=>?_;subst h;exact wp_ret (zdw J L J)
          ·refine wp_skip (H45 _ _ ?_);refine rA 2 L fun a s L=>?_;subst h;exact wp_ret (zdw J L J)
        ·refine rA 1 L fun a s L=>?_;subst h;exact wp_ret (zdw J L J)
       refine cn L h (fun h=>?_) fun h=>?_
       ·refine wp_skip ?_;exact J34 (e2.1==4) a s (L.kk) d20 h
       ·refine rg ?_;refine sA 2 L fun a s L=>?_;refine en' ?_;exact J34 (e2.1==5) a s (L.kk) d20 h
     refine cn L h (fun h=>?_) fun h=>?_
     ·refine wp_skip ?_;exact J19 (e2.1==6) a s (L.kk) (Dis.symm d6) h
     ·refine rA 2 L fun a s L=>?_;refine cn L h (fun h=>?_) fun h=>?_
      ·refine wp_skip ?_;exact J19 (e2.1==7) a s (L.kk) (Dis.symm d6) h
      ·refine rA 2 L fun a s L=>?_;refine cn L h (fun h=>?_) fun h=>?_
       ·refine wp_skip ?_;exact J19 (e2.1==8) a s (L.kk) (Dis.symm d6) h
       ·refine rg ?_;refine sA 2 L fun a s L=>?_;refine en' ?_;exact J19 (e2.1==9) a s (L.kk) (Dis.symm d6) h
theorem zoy {l_:(List SNode)} {i_:Int} {r_:Int} (h:zx l_ i_ r_):Fn Tryz.prog 91 [(Pd.rep (En.slice En.SNode) l_),(Pi i_)] (Rq (Pi r_)):=by
 obtain ⟨k_,h⟩:=h;exact zx.n_ok k_ h
theorem zqm {d_:SDesc} {r_:Bool} (h:zi5 d_ r_):Fn Tryz.prog 63 [(Pd.rep En.SDesc d_)] (Rq (Pd.rep En.bool r_)):=by
 unfold zi5 at h;refine zbp Tryz.func63 J Tryz.ntmps63 (by rfl) (by simp) fun s0 a L=>?_;refine rA 2 L fun a s L=>?_;obtain ⟨h1,r2,h3,h⟩:=h;refine ra 15 (pp (fun hc_=>(zoy (h3 hc_))) trivial) L fun a s L=>?_;subst h;exact wp_ret (zdw J L J)
theorem zjw {d_:SDesc} {r_:Bool} (h:zbz d_ r_):Fn Tryz.prog 38 [(Pd.rep En.SDesc d_)] (Rq (Pd.rep En.bool r_)):=by
 unfold zbz at h;refine zbp Tryz.func38 J Tryz.ntmps38 (by rfl) (by simp) fun s0 a L=>?_;refine rA 2 L fun a s L=>?_;refine wp_seq_k fun K1 H1=>rA 1 L fun a s L=>?_;refine wp_block ?_;have J2:∀(a:Act) (s:St),Has N0 27 s0 a s []→((zbz.j1 r_))→K1 a s.w:=by
  intro a s L h;unfold zbz.j1 at h;show K1 a s.w;refine H1 _ _ (rA 1 L fun a s L=>?_);subst h;exact wp_ret (zdw J L J)
 obtain ⟨k4,h⟩:=h;refine lpn (fun k5 a s=>∃(i3:Int),Has N0 27 s0 a s [(1,(Pd.ptr En.SDesc d_)),(3,(Pi i3))]∧zbz.l1 d_ r_ (zbz.j1 r_) k5 i3) k4 ⟨0,L.kk,h⟩ ?_;rintro k5 a s ⟨i3,L,h⟩ KL6 hKL6;unfold zbz.l1 at h;refine wp_seq_k fun K7 H7=>rA 5 L fun a s L=>?_;refine cn L h (fun h=>?_) fun h=>?_
 ·refine wp_skip (H7 _ _ ?_);refine wp_seq_k fun K8 H8=>wp_block ?_;obtain ⟨e9,h10,e11,h12,h⟩:=h;refine ra 16 (pp h10 (p1 h12)) L fun a s L=>?_;refine cn L h (fun h=>?_) fun h=>?_
  ·refine rA 1 L fun a s L=>?_;subst h;exact wp_ret (zdw J L J)
  ·refine wp_skip (H8 _ _ ?_);obtain ⟨h13,h⟩:=h;refine rg (sA 3 L fun a s L=>?_);refine en' ?_;exact hKL6 a s ⟨(i3+1),L.kk,h⟩
 ·refine wp_exit ?_;exact J2 a s (L.kk) h
theorem znk {d_:SDesc} {ev_:SDesc} {nv_:Int} {r_:Int} (h:zgw d_ ev_ nv_ r_):Fn Tryz.prog 14 [(Pd.rep En.SDesc d_),(Pd.rep En.SDesc ev_),(Pi nv_)] (Rq (Pi r_)):=by
 unfold zgw at h;refine zbp Tryz.func14 J Tryz.ntmps14 (by rfl) (by simp) fun s0 a L=>?_;refine rA 3 L fun a s L=>?_;refine wp_seq_k fun K1 H1=>?_;obtain ⟨r2,h3,r4,h5,h⟩:=h;refine ra 6 (pp (zjw h3) (pp (fun hc_=>(zjw (h5 hc_))) trivial)) L fun a s L=>?_;refine cn L h (fun h=>?_) fun h=>?_
 ·refine rA 3 L fun a s L=>?_;subst h;exact wp_ret (zdw J L J)
 ·refine wp_skip (H1 _ _ ?_);refine rA 2 L fun a s L=>?_;subst h;exact wp_ret (zdw J L J)
set_option maxRecDepth 100000
set_option maxHeartbeats 2000000
set_option synthInstance.maxSize 100000
set_option synthInstance.maxHeartbeats 200000
theorem zqj {d_:SDesc} {i_:Int} {r_:Int} (h:zo d_ i_ r_):Fn Tryz.prog 27 [(Pd.rep En.SDesc d_),(Pi i_)] (Rq (Pi r_)):=by
 unfold zo at h;refine zbp Tryz.func27 J Tryz.ntmps27 (by rfl) (by simp) fun s0 a L=>?_;refine rA 2 L fun a s L=>?_;refine rs (sno (En.int .i64) 3 L fun a s L=>?_);refine es (wp_seq_k fun K1 H1=>?_);refine rA 1 L fun a s L=>?_;refine wp_block ?_;have J4:∀(l2:(List Int)) (og3:Option Nat) (a:Act) (s:St),Has N0 96 s0 a s [(1,(Pi i_)),(5,(Pd.row (En.int .i64) s0.w.heap.size 3 og3 l2))]→((zo.j1 i_ r_) l2)→K1 a s.w:=by
  intro l2 og3 a s L h;unfold zo.j1 at h;show K1 a s.w;refine H1 _ _ ?_;obtain ⟨e5,h6,h⟩:=h;refine ra 5 (p1 h6) L fun a s L=>?_;subst h;exact wp_ret (zdw J L J)
 obtain ⟨k10,h⟩:=h;refine lpn (fun k11 a s=>∃(l7:(List Int)) (k9:Int) (og8:Option Nat),Has N0 96 s0 a s [(1,(Pi i_)),(2,(Pd.ptr En.SDesc d_)),(5,(Pd.row (En.int .i64) s0.w.heap.size 3 og8 l7)),(6,(Pi k9))]∧zo.l1 d_ i_ (zo.j1 i_ r_) k11 l7 k9) k10 ⟨([]:(List Int)),0,none,L.kk,h⟩ ?_;rintro k11 a s ⟨l7,k9,og8,L,h⟩ KL12 hKL12;unfold zo.l1 at h;refine wp_seq_k fun K13 H13=>rA 3 L fun a s L=>?_;refine cn L h (fun h=>?_) fun h=>?_
 ·refine wp_skip (H13 _ _ ?_);refine wp_seq_k fun K14 H14=>wp_block ?_;obtain ⟨e15,h16,h⟩:=h;refine rs (sl 5 (p1 h16) L fun a s L=>?_);have lt_d18:=L.rlt 5 rfl;refine zba En.SNode (z:=(0,0,0,0,0,(0#256),([]:Str))) 7 L zme J J J J fun a s g17 hg_ L=>?_;have d18:=Dis.newg hg_ lt_d18;refine sB 7 L fun s L=>?_;refine es (rA 1 L fun a s L=>?_);refine wp_seq_k fun K19 H19=>rA 2 L fun a s L=>?_;refine wp_block (rA 2 L fun a s L=>?_);have J21:∀(w20:Int) (a:Act) (s:St),Has N0 96 s0 a s [(1,(Pi i_)),(2,(Pd.ptr En.SDesc d_)),(5,(Pd.row (En.int .i64) s0.w.heap.size 3 og8 l7)),(6,(Pi k9)),(8,(Pi w20))]→((zo.j2 (zo.l1 d_ i_ (zo.j1 i_ r_) k11) l7 k9) w20)→K19 a s.w:=by
   intro w20 a s L h;unfold zo.j2 at h;show K19 a s.w;refine H19 _ _ ?_;obtain ⟨h22,h⟩:=h;refine rg (sA 4 L fun a s L=>?_);refine zdo 91 L op op Ud.h Tq.h h22 J J J J ka fun a s og23 hg_ L=>?_;refine sA 1 L fun a s L=>?_;refine en' (H14 _ _ ?_);obtain ⟨h24,h⟩:=h;refine rg (sA 3 L fun a s L=>?_);refine en' ?_;exact hKL12 a s ⟨(l7++[(min 2 w20)]),(k9+1),og23,L.kk,h⟩
  refine cn L h (fun h=>?_) fun h=>?_
  ·refine rg ?_;refine sA 1 L fun a s L=>?_;refine en' ?_;exact J21 1 a s (L.kk) h
  ·refine rA 2 L fun a s L=>?_;refine cn L h (fun h=>?_) fun h=>?_
   ·obtain ⟨e25,h26,e27,h28,h29,h⟩:=h;refine rdx 11 (pp h26 (p1 h28)) L fun a s L=>?_;refine sA 1 L fun a s L=>?_;refine en' ?_;exact J21 (e25*e27) a s (L.kk) h
   ·refine rA 2 L fun a s L=>?_;refine cn L h (fun h=>?_) fun h=>?_
    ·obtain ⟨e30,h31,e32,h33,h34,h⟩:=h;refine rdx 11 (pp h31 (p1 h33)) L fun a s L=>?_;refine sA 1 L fun a s L=>?_;refine en' ?_;exact J21 (e30+e32) a s (L.kk) h
    ·refine rA 2 L fun a s L=>?_;refine cn L h (fun h=>?_) fun h=>?_
     ·refine rA 1 L fun a s L=>?_;obtain ⟨e35,h36,h⟩:=h;refine ra 6 (p1 h36) L fun a s L=>?_;refine cn L h (fun h=>?_) fun h=>?_
      ·refine rg ?_;refine sA 1 L fun a s L=>?_;refine en' ?_;exact J21 2 a s (L.kk) h
      ·refine wp_skip ?_;exact J21 1 a s (L.kk) h
     ·refine rA 2 L fun a s L=>?_;refine cn L h (fun h=>?_) fun h=>?_
      ·refine rA 3 L fun a s L=>?_;refine wp_block ?_;obtain ⟨k39,h⟩:=h;refine lpn (fun k40 a s=>∃(w37:Int) (t38:Int),Has N0 96 s0 a s [(1,(Pi i_)),(2,(Pd.ptr En.SDesc d_)),(5,(Pd.row (En.int .i64) s0.w.heap.size 3 og8 l7)),(6,(Pi k9)),(7,(Pd.box En.SNode s0.w.heap.size g17 e15)),(8,(Pi w37)),(9,(Pi t38))]∧Dis og8 (some g17)∧zo.l2 l7 e15 (zo.j2 (zo.l1 d_ i_ (zo.j1 i_ r_) k11) l7 k9) k40 w37 t38) k39 ⟨0,e15.2.2.2.1,L.kk,(Dis.symm d18),h⟩ ?_;rintro k40 a s ⟨w37,t38,L,d42,h⟩ KL41 hKL41;unfold zo.l2 at h;refine wp_seq_k fun K43 H43=>rA 4 L fun a s L=>?_;refine cn L h (fun h=>?_) fun h=>?_
       ·refine wp_skip (H43 _ _ ?_);refine wp_seq_k fun K44 H44=>wp_block (rA 1 L fun a s L=>?_);refine wp_seq_k fun K45 H45=>rA 1 L fun a s L=>?_;refine wp_block ?_;have J47:∀(p46:Int) (a:Act) (s:St),Has N0 96 s0 a s [(1,(Pi i_)),(2,(Pd.ptr En.SDesc d_)),(5,(Pd.row (En.int .i64) s0.w.heap.size 3 og8 l7)),(6,(Pi k9)),(7,(Pd.box En.SNode s0.w.heap.size g17 e15)),(8,(Pi w37)),(9,(Pi t38)),(10,(Pi p46))]→Dis og8 (some g17)→((zo.j3 (zo.l2 l7 e15 (zo.j2 (zo.l1 d_ i_ (zo.j1 i_ r_) k11) l7 k9) k40) w37 t38) p46)→K45 a s.w:=by
         intro p46 a s L d48 h;unfold zo.j3 at h;show K45 a s.w;refine H45 _ _ ?_;obtain ⟨h49,h⟩:=h;refine rg (sA 5 L fun a s L=>?_);refine en' (H44 _ _ ?_);obtain ⟨h50,h⟩:=h;refine rg (sA 3 L fun a s L=>?_);refine en' ?_;exact hKL41 a s ⟨(min 2 (w37+p46)),(t38+1),L.kk,d48,h⟩
        obtain ⟨k53,h⟩:=h;refine lpn (fun k54 a s=>∃(p51:Int) (m52:Int),Has N0 96 s0 a s [(1,(Pi i_)),(2,(Pd.ptr En.SDesc d_)),(5,(Pd.row (En.int .i64) s0.w.heap.size 3 og8 l7)),(6,(Pi k9)),(7,(Pd.box En.SNode s0.w.heap.size g17 e15)),(8,(Pi w37)),(9,(Pi t38)),(10,(Pi p51)),(11,(Pi m52))]∧Dis og8 (some g17)∧zo.l3 l7 e15 t38 (zo.j3 (zo.l2 l7 e15 (zo.j2 (zo.l1 d_ i_ (zo.j1 i_ r_) k11) l7 k9) k40) w37 t38) k54 p51 m52) k53 ⟨1,0,L.kk,d42,h⟩ ?_;rintro k54 a s ⟨p51,m52,L,d56,h⟩ KL55 hKL55;unfold zo.l3 at h;refine wp_seq_k fun K57 H57=>rA 3 L fun a s L=>?_;refine cn L h (fun h=>?_) fun h=>?_
        ·refine wp_skip (H57 _ _ ?_);refine wp_seq_k fun K58 H58=>wp_block ?_;obtain ⟨e59,h60,h61,h⟩:=h;refine rg (sl 9 (p1 h60) L fun a s L=>?_);refine en' (H58 _ _ ?_);obtain ⟨h62,h⟩:=h;refine rg (sA 3 L fun a s L=>?_);refine en' ?_;exact hKL55 a s ⟨(min 2 (p51*e59)),(m52+1),L.kk,d56,h⟩
        ·refine wp_exit ?_;exact J47 p51 a s (L.kk) d56 h
       ·refine wp_exit ?_;exact J21 w37 a s (L.kk) h
      ·refine wp_skip ?_;exact J21 0 a s (L.kk) h
 ·refine wp_exit ?_;exact J4 l7 og8 a s (L.kk) h
theorem zox {d_:SDesc} {r_:(Int × Bool)} (h:zb5 d_ r_):Fn Tryz.prog 64 [(Pd.rep En.SDesc d_)] (Rq2 (Pi r_.1) (Pd.rep En.bool r_.2)):=by
 unfold zb5 at h;refine zbp Tryz.func64 J Tryz.ntmps64 (by rfl) (by simp) fun s0 a L=>?_;refine rA 3 L fun a s L=>?_;refine wp_seq_k fun K1 H1=>rA 1 L fun a s L=>?_;refine wp_block ?_;have J2:∀(a:Act) (s:St),Has N0 37 s0 a s []→((zb5.j1 r_))→K1 a s.w:=by
  intro a s L h;unfold zb5.j1 at h;show K1 a s.w;refine H1 _ _ (rA 2 L fun a s L=>?_);subst h;exact wp_ret (ret2 J L J J)
 obtain ⟨k4,h⟩:=h;refine lpn (fun k5 a s=>∃(i3:Int),Has N0 37 s0 a s [(1,(Pd.ptr En.SDesc d_)),(4,(Pi i3))]∧zb5.l1 d_ r_ (zb5.j1 r_) k5 i3) k4 ⟨0,L.kk,h⟩ ?_;rintro k5 a s ⟨i3,L,h⟩ KL6 hKL6;unfold zb5.l1 at h;refine wp_seq_k fun K7 H7=>rA 5 L fun a s L=>?_;refine cn L h (fun h=>?_) fun h=>?_
 ·refine wp_skip (H7 _ _ ?_);refine wp_seq_k fun K8 H8=>wp_block ?_;obtain ⟨e9,h10,h⟩:=h;refine ra 7 (p1 h10) L fun a s L=>?_;obtain ⟨e11,h12,r13,h14,h⟩:=h;refine wp_seq (rdx 17 (pp h12 (pp (fun hc_=>(zqj (h14 hc_))) trivial)) L fun a s L=>?_);refine es (cn L h (fun h=>?_) fun h=>?_)
  ·refine rA 3 L fun a s L=>?_;subst h;exact wp_ret (ret2 J L J J)
  ·refine wp_skip (H8 _ _ ?_);obtain ⟨h15,h⟩:=h;refine rg (sA 3 L fun a s L=>?_);refine en' ?_;exact hKL6 a s ⟨(i3+1),L.kk,h⟩
 ·refine wp_exit ?_;exact J2 a s (L.kk) h
theorem zow {d_:SDesc} {r_:Bool} (h:zgi d_ r_):Fn Tryz.prog 37 [(Pd.rep En.SDesc d_)] (Rq (Pd.rep En.bool r_)):=by
 unfold zgi at h;refine zbp Tryz.func37 J Tryz.ntmps37 (by rfl) (by simp) fun s0 a L=>?_;refine rA 2 L fun a s L=>?_;refine wp_seq_k fun K1 H1=>?_;obtain ⟨r2,h3,h⟩:=h;refine ra 3 (p1 (zqm h3)) L fun a s L=>?_;refine cn L h (fun h=>?_) fun h=>?_
 ·refine rA 1 L fun a s L=>?_;subst h;exact wp_ret (zdw J L J)
 ·refine wp_skip (H1 _ _ ?_);obtain ⟨r4,h5,h⟩:=h;refine ra 7 (p1 ((zox h5).tup)) L fun a s L=>?_;refine rA 3 L fun a s L=>?_;subst h;exact wp_ret (zdw J L J)
set_option maxRecDepth 100000
set_option maxHeartbeats 2000000
set_option synthInstance.maxSize 100000
set_option synthInstance.maxHeartbeats 200000
theorem zre {s_:(List SItem)} {r_:((List SItem) × Bool)} (h:zce s_ r_):Fn Tryz.prog 129 [(Pd.rep (En.slice En.SItem) s_)] (Ro2 En.SItem 114 r_.1 (Pd.rep En.bool r_.2)):=by
 unfold zce at h;refine zbp Tryz.func129 J Tryz.ntmps129 (by rfl) (by simp) fun s0 a L=>?_;refine rs (sno En.SItem 114 L fun a s L=>?_);refine sA 1 L fun a s L=>?_;refine es ?_;obtain ⟨r1,h2,h⟩:=h;refine rs (sA 1 L fun a s L=>?_);refine zet 8 L (zdb h2) opz J J J J fun a s og3 hg_ L=>?_;refine sA 1 L fun a s L=>?_;refine es (wp_seq_k fun K4 H4=>?_);refine rA 3 L fun a s L=>?_;refine wp_block ?_;have J7:∀(out5:(List SItem)) (og6:Option Nat) (a:Act) (s:St),Has N0 32 s0 a s [(4,(Pd.row En.SItem s0.w.heap.size 114 og6 out5))]→((zce.j1 r_) out5)→K4 a s.w:=by
  intro out5 og6 a s L h;unfold zce.j1 at h;show K4 a s.w;refine H4 _ _ (rA 3 L fun a s L=>?_);subst h;exact wp_ret (zmg J L J J)
 obtain ⟨k11,h⟩:=h;refine lpn (fun k12 a s=>∃(out8:(List SItem)) (v10:Int) (og9:Option Nat),Has N0 32 s0 a s [(4,(Pd.row En.SItem s0.w.heap.size 114 og9 out8)),(9,(Pd.row En.SItem s0.w.heap.size 114 og9 out8)),(10,(Pi (r1.length:Int))),(11,(Pi v10))]∧zce.l1 r1 r_ (zce.j1 r_) k12 out8 v10) k11 ⟨r1,0,og3,L.kk,h⟩ ?_;rintro k12 a s ⟨out8,v10,og9,L,h⟩ KL13 hKL13;unfold zce.l1 at h;refine rA 1 L fun a s L=>?_;refine wp_seq_k fun K14 H14=>cn L h (fun h=>?_) fun h=>?_
 ·refine wp_skip (H14 _ _ ?_);refine wp_seq_k fun K15 H15=>wp_block ?_;obtain ⟨e16,h17,h⟩:=h;refine rs (sl 3 (p1 h17) L fun a s L=>?_);have lt_d19:=L.rlt 4 rfl;refine zba En.SItem (z:=(0,0,0,0)) 6 L zf2 J J J J fun a s g18 hg_ L=>?_;have d19:=Dis.newg hg_ lt_d19;refine sA 1 L fun a s L=>?_;refine sB 6 L fun s L=>?_;refine es (wp_seq_k fun K20 H20=>?_);refine rA 3 L fun a s L=>?_;refine cn L h (fun h=>?_) fun h=>?_
  ·refine wp_exit ?_;show K15 a s.w;refine H15 _ _ ?_;obtain ⟨h21,h⟩:=h;refine rg (sA 2 L fun a s L=>?_);refine en' ?_;exact hKL13 a s ⟨out8,(v10+1),og9,L.kk,h⟩
  ·refine wp_skip (H20 _ _ ?_);refine wp_seq_k fun K22 H22=>rA 3 L fun a s L=>?_;refine cn L h (fun h=>?_) fun h=>?_
   ·refine rs ?_;refine sno En.SItem 114 L fun a s L=>?_;refine sA 1 L fun a s L=>?_;refine es ?_;subst h;exact wp_ret (zmg J L J J)
   ·refine wp_skip (H22 _ _ ?_);obtain ⟨e23,h24,h25,e26,h27,h⟩:=h;refine rg (sl 8 (pp h24 (p1 h27)) L fun a s L=>?_);refine st_stor (off:=2) 4 L J h27 op op (zj (zj (zv (zn _ _ _)) J) J) Tq.h J J J kw fun s L=>?_;refine en' (H15 _ _ ?_);obtain ⟨h28,h⟩:=h;refine rg (sA 2 L fun a s L=>?_);refine en' ?_;exact hKL13 a s ⟨(out8.set (v10:Int).toNat (e26.1,e26.2.1,e23.2.2.1-1,e26.2.2.2)),(v10+1),og9,L.kk,h⟩
 ·refine wp_exit ?_;exact J7 out8 og9 a s (L.kk) h
theorem zrd {d_:SDesc} {r_:(List SItem)} (h:zje d_ r_):Fn Tryz.prog 39 [(Pd.rep En.SDesc d_)] (Ro En.SItem 114 r_):=by
 unfold zje at h;refine zbp Tryz.func39 J Tryz.ntmps39 (by rfl) (by simp) fun s0 a L=>?_;refine rs (sA 1 L fun a s L=>?_);refine sno En.SItem 114 L fun a s L=>?_;refine es ?_;obtain ⟨h1,h⟩:=h;refine rs (sA 4 L fun a s L=>?_);refine sv (zbm (x:=(1,(d_.length:Int)-1,0,0)) (ps:=[(0,.const (.int .i64 1)),(1,.tmp 6)]) zf2 J zly (.cons (i:=0) op J (zv (zn _ _ _)) (.cons (i:=1) op J (zj (zv (zn _ _ _)) J) .nil)) J J) L fun a s L=>?_;refine zfd (xs:=[.tmp 7]) 8 L (.cons op .nil) Ud.h Tq.h J J (by decide) J J J J fun a s g2 hg_ L=>?_;refine sA 1 L fun a s L=>?_;refine es ?_;subst h;exact wp_ret (zif J L J)
set_option maxRecDepth 100000
set_option maxHeartbeats 2000000
set_option synthInstance.maxSize 100000
set_option synthInstance.maxHeartbeats 200000
theorem zo0 {d_:SDesc} {s_:(List SItem)} {r_:Bool} (h:zj4 d_ s_ r_):Fn Tryz.prog 155 [(Pd.rep En.SDesc d_),(Pd.rep (En.slice En.SItem) s_)] (Rq (Pd.rep En.bool r_)):=by
 unfold zj4 at h;refine zbp Tryz.func155 J Tryz.ntmps155 (by rfl) (by simp) fun s0 a L=>?_;refine rA 2 L fun a s L=>?_;refine wp_seq_k fun K1 H1=>rA 3 L fun a s L=>?_;refine cn L h (fun h=>?_) fun h=>?_
 ·refine rA 1 L fun a s L=>?_;subst h;exact wp_ret (zdw J L J)
 ·refine wp_skip (H1 _ _ ?_);refine wp_seq_k fun K2 H2=>?_;obtain ⟨e3,h4,h⟩:=h;refine rs (sl 3 (p1 h4) L fun a s L=>?_);refine zba En.SItem (z:=(0,0,0,0)) 5 L zf2 J J J J fun a s g5 hg_ L=>?_;refine sB 5 L fun s L=>?_;refine es (rA 2 L fun a s L=>?_);refine wp_block (rA 2 L fun a s L=>?_);refine cn L h (fun h=>?_) fun h=>?_
  ·obtain ⟨e6,h7,h⟩:=h;refine ra 8 (p1 h7) L fun a s L=>?_;obtain ⟨e8,h9,h⟩:=h;refine rs (sA 4 L fun a s L=>?_);refine sv (t_g1 J J J (fun hc_=>t_gidxb (g:=1) (xs:=gdat1) (by simp [gtab]) J (opc hc_) (h9 hc_) Ud.h (by rfl) J J)) L fun a s L=>?_;refine sA 3 L fun a s L=>?_;refine es ?_;subst h;exact wp_ret (zdw J L J)
  ·refine wp_seq_k fun K10 H10=>?_;refine rA 2 L fun a s L=>?_;refine cn L h (fun h=>?_) fun h=>?_
   ·refine wp_skip (H10 _ _ ?_);refine cn L h (fun h=>?_) fun h=>?_
    ·refine rA 1 L fun a s L=>?_;subst h;exact wp_ret (zdw J L J)
    ·refine wp_skip (H2 _ _ ?_);refine rA 1 L fun a s L=>?_;subst h;exact wp_ret (zdw J L J)
   ·refine rg ?_;refine sA 2 L fun a s L=>?_;refine en' (H10 _ _ ?_);refine cn L h (fun h=>?_) fun h=>?_
    ·refine rA 1 L fun a s L=>?_;subst h;exact wp_ret (zdw J L J)
    ·refine wp_skip (H2 _ _ ?_);refine rA 1 L fun a s L=>?_;subst h;exact wp_ret (zdw J L J)
theorem zcc {rest_:(List SItem)} {list_:(List SItem)} {r_:(List SItem)} (h:zcf rest_ list_ r_):Fn Tryz.prog 195 [(Pd.rep (En.slice En.SItem) rest_),(Pd.rep (En.slice En.SItem) list_)] (Ro En.SItem 114 r_):=by
 unfold zcf at h;refine zbp Tryz.func195 J Tryz.ntmps195 (by rfl) (by simp) fun s0 a L=>?_;refine rs (sno En.SItem 114 L fun a s L=>?_);refine es ?_;obtain ⟨r1,h2,h⟩:=h;refine rs (sA 3 L fun a s L=>?_);refine zet 8 L (zc8 h2) opz J J J J fun a s og3 hg_ L=>?_;refine sA 1 L fun a s L=>?_;refine es ?_;subst h;exact wp_ret (zif J L J)
theorem zea {i_:Int} {r_:SItem} (h:zeq i_ r_):Fn Tryz.prog 196 [(Pi i_)] (Rq (Pd.rep En.SItem r_)):=by
 unfold zeq at h;refine zbp Tryz.func196 J Tryz.ntmps196 (by rfl) (by simp) fun s0 a L=>?_;refine rs (zba En.SItem (z:=(0,0,0,0)) 2 L zf2 J J J J fun a s g1 hg_ L=>?_);refine es (rs ?_);refine sA 1 L fun a s L=>?_;refine sv (zbm (x:=(1,i_,0,0)) (ps:=[(0,.const (.int .i64 1)),(1,.tmp 3)]) zf2 J zly (.cons (i:=0) op J (zv (zn _ _ _)) (.cons (i:=1) op J (zj (zv (zn _ _ _)) J) .nil)) J J) L fun a s L=>?_;refine sB 2 L fun s L=>?_;refine es ?_;subst h;exact wp_ret (retb J zie L J)
theorem zrh {d_:SDesc} {s_:(List SItem)} {r_:(List (List SItem))} (h:zcw d_ s_ r_):Fn Tryz.prog 157 [(Pd.rep En.SDesc d_),(Pd.rep (En.slice En.SItem) s_)] (Ro (En.slice En.SItem) 62 r_):=by
 unfold zcw at h;refine zbp Tryz.func157 J Tryz.ntmps157 (by rfl) (by simp) fun s0 a L=>?_;refine rs (sA 1 L fun a s L=>?_);refine sno (En.slice En.SItem) 62 L fun a s L=>?_;refine es ?_;obtain ⟨e2,h3,h4,h⟩:=h;refine wp_seq ?_;replace L:=L.kk (L':=[(1,(Pd.rep (En.slice En.SItem) s_)),(2,(Pd.ptr En.SDesc d_))]);obtain ⟨K1,H1,nK1,L⟩:=L.mark 999983;refine rdf 8 zc1 L (by kernel_rfl) fun s _ L=>?_;refine zch 3 12 L (by rfl) (by kernel_rfl) (by kernel_rfl) (by kernel_rfl) (fun _ _ _ _ h=>h) (q:=(Pd.rep (En.slice En.SItem) s_)) (zh7 (O 1 J) J J) J J fun a L=>?_;refine zch 4 13 L (by rfl) (by kernel_rfl) (by kernel_rfl) (by kernel_rfl) (fun _ _ _ _ h=>h) (q:=(Pd.rep (En.slice En.SItem) (s_.drop (1:Int).toNat))) (y_from (O 12 J) oI h4 U62 zie J J) J J fun a L=>?_;refine rc_go 6 [(Pd.rep (En.slice En.SItem) s_),(Pd.ptr En.SItem e2),(Pd.rep En.SItem e2),(Pd.rep (En.slice En.SItem) s_),(Pd.rep (En.slice En.SItem) (s_.drop (1:Int).toNat)),(Pd.ebox En.SItem s0.w.heap.size K1 (0,0,0,0))] [3,4] K1 [5] nK1 L (.k 13 (.k 12 (.k 999983 (.k 1 (.k 2 .nil))))) (by kernel_rfl) (by kernel_rfl) (by kernel_rfl) (by kernel_rfl) (.cons (i:=3) J J J J (.cons (i:=4) J J J J .nil)) J J ?_ ?_
 ·refine zmj.t (zt (O 1 J) J J) nE ?_;refine zmj.t (t_idx (O 9 J) oI h3 U62 zie J J) nE ?_;refine zmj.t (zci zie (O 10 J) J J) nE ?_;refine zmj.skip J nE ?_;refine zmj.skip J nE ?_;refine zmj.c (zp7 En.SItem (z:=(0,0,0,0)) (K:=K1) (m:=999983) J nK1 zf2 J J) J ?_;exact zmj.nil
 intro a s _ L;obtain ⟨g5,hg_,L⟩:=L.openb 5 rfl;replace L:=L.kk (L':=[(2,(Pd.ptr En.SDesc d_)),(5,(Pd.box En.SItem s0.w.heap.size g5 (0,0,0,0))),(11,(Pd.rep En.SItem e2)),(13,(Pd.rep (En.slice En.SItem) (s_.drop (1:Int).toNat)))]);refine dp ?_;refine sB 5 L fun s L=>?_;refine sA 1 L fun a s L=>?_;refine es ?_;obtain ⟨e6,h7,h⟩:=h;refine rs (sl 6 (p1 h7) L fun a s L=>?_);have lt_d9:=L.blt 5 rfl;refine zba En.SNode (z:=(0,0,0,0,0,(0#256),([]:Str))) 7 L zme J J J J fun a s g8 hg_ L=>?_;have d9:=Dis.newg hg_ lt_d9;refine sB 7 L fun s L=>?_;refine es (wp_seq_k fun K10 H10=>?_);refine wp_block (rA 9 L fun a s L=>?_);refine cn L h (fun h=>?_) fun h=>?_
 ·obtain ⟨r11,h12,h⟩:=h;refine rs (sl 2 (p1 ((zcc h12).frz)) L fun a s L=>?_);have lt_d15:=L.blt 7 rfl;have lt_d14:=L.blt 5 rfl;refine zfd (xs:=[.tmp 30]) 31 L (.cons op .nil) Ud.h Tq.h J J (by decide) J J J J fun a s g13 hg_ L=>?_;have d14:=Dis.newg hg_ lt_d14;have d15:=Dis.newg hg_ lt_d15;refine sA 1 L fun a s L=>?_;refine es ?_;subst h;exact wp_ret (zif J L J)
 ·refine rA 4 L fun a s L=>?_;refine cn L h (fun h=>?_) fun h=>?_
  ·refine rs ?_;refine sno (En.slice En.SItem) 62 L fun a s L=>?_;refine es ?_;subst h;exact wp_ret (zif J L J)
  ·refine rA 4 L fun a s L=>?_;refine cn L h (fun h=>?_) fun h=>?_
   ·refine rs ?_;refine sno (En.slice En.SItem) 62 L fun a s L=>?_;refine es (wp_seq_k fun K16 H16=>?_);refine rA 3 L fun a s L=>?_;have J19:∀(out17:(List (List SItem))) (og18:Option Nat) (a:Act) (s:St),Has N0 139 s0 a s [(5,(Pd.box En.SItem s0.w.heap.size g5 e2)),(6,(Pd.rep (En.slice En.SItem) (s_.drop (1:Int).toNat))),(7,(Pd.box En.SNode s0.w.heap.size g8 e6)),(8,(Pd.row (En.slice En.SItem) s0.w.heap.size 62 og18 out17))]→Dis (some g5) (some g8)→Dis (some g5) og18→Dis (some g8) og18→((zcw.j2 s_ r_ e2 e6) out17)→K16 a s.w:=by
     intro out17 og18 a s L d20 d21 d22 h;unfold zcw.j2 at h;show K16 a s.w;refine H16 _ _ (wp_seq_k fun K23 H23=>?_);refine rA 3 L fun a s L=>?_;have J26:∀(out24:(List (List SItem))) (og25:Option Nat) (a:Act) (s:St),Has N0 139 s0 a s [(8,(Pd.row (En.slice En.SItem) s0.w.heap.size 62 og25 out24))]→((zcw.j1 r_) out24)→K23 a s.w:=by
      intro out24 og25 a s L h;unfold zcw.j1 at h;show K23 a s.w;refine H23 _ _ (rA 2 L fun a s L=>?_);subst h;exact wp_ret (zif J L J)
     refine cn L h (fun h=>?_) fun h=>?_
     ·obtain ⟨r27,h28,h29,h30,r31,h32,h33,h⟩:=h;refine rda zc1 20 [(Pd.row (En.slice En.SItem) s0.w.heap.size 62 og18 out17),(Pd.rep (En.slice En.SItem) (s_.drop (1:Int).toNat)),(Pd.optr (En.int .i64) s0.w.heap.size (some g8) (1) e6.2.1),(Pi e6.2.1),(Pd.rep En.SItem r27),(Pd.optr (En.int .i64) s0.w.heap.size (some g5) (0) e2.1),(Pi e2.1),(Pd.optr (En.int .i64) s0.w.heap.size (some g5) (1) e2.2.1),(Pi e2.2.1),(Pd.optr (En.int .i64) s0.w.heap.size (some g5) (2) e2.2.2.1),(Pi e2.2.2.1),(Pi (e2.2.2.1-1)),(Pi (max (e2.2.2.1-1) 0)),(Pd.optr (En.int .i64) s0.w.heap.size (some g5) (3) e2.2.2.2),(Pi e2.2.2.2),(Pi (e2.2.2.2-1)),(Pd.rep En.SItem (e2.1,e2.2.1,(max (e2.2.2.1-1) 0),e2.2.2.2-1)),(Pd.rep (En.slice En.SItem) [r27,(e2.1,e2.2.1,(max (e2.2.2.1-1) 0),e2.2.2.2-1)]),(Pd.rep (En.slice En.SItem) r31),(Pd.rep (En.slice (En.slice En.SItem)) [r31])] L (by kernel_rfl) J J ?_ ?_
      ·refine zbf.cons (zt (O 8 J) J J) ?_;refine zbf.cons (zt (O 6 J) J J) ?_;refine zbf.cons (zp6 (off:=1) (O 7 J) U40 J (zp (zbg (zy _ _)) J) J ty3 J J) ?_;refine zbf.cons (zb3 ty3 (O 53 J) J J) ?_;refine zbf.cons (ze8 (zea h28) (xs:=[.tmp 54]) (.cons (O 54 J) .nil) J J) ?_;refine zbf.cons (zp6 (off:=0) (O 5 J) U114 J (zbg (zy _ _)) J ty3 J J) ?_;refine zbf.cons (zb3 ty3 (O 56 J) J J) ?_;refine zbf.cons (zp6 (off:=1) (O 5 J) U114 J (zp (zbg (zy _ _)) J) J ty3 J J) ?_;refine zbf.cons (zb3 ty3 (O 58 J) J J) ?_;refine zbf.cons (zp6 (off:=2) (O 5 J) U114 J (zp (zp (zbg (zy _ _)) J) J) J ty3 J J) ?_;refine zbf.cons (zb3 ty3 (O 60 J) J J) ?_;refine zbf.cons (zmf (O 61 J) oI h29 J J) ?_;refine zbf.cons (t_max (O 62 J) oI J J) ?_;refine zbf.cons (zp6 (off:=3) (O 5 J) U114 J (zp (zp (zp (zy _ _) J) J) J) J ty3 J J) ?_;refine zbf.cons (zb3 ty3 (O 64 J) J J) ?_;refine zbf.cons (zmf (O 65 J) oI h30 J J) ?_;refine zbf.cons (zbm (x:=(e2.1,e2.2.1,(max (e2.2.2.1-1) 0),e2.2.2.2-1)) (ps:=[(0,.tmp 57),(1,.tmp 59),(2,.tmp 63),(3,.tmp 66)]) zf2 J zly (.cons (i:=0) (O 57 J) J (zv (zn _ _ _)) (.cons (i:=1) (O 59 J) J (zj (zv (zn _ _ _)) J) (.cons (i:=2) (O 63 J) J (zj (zj (zv (zn _ _ _)) J) J) (.cons (i:=3) (O 66 J) J (zj (zj (zj (zn _ _ _) J) J) J) .nil)))) J J) ?_;refine zbf.cons (t_lit (xs:=[.tmp 55,.tmp 67]) (.cons (O 55 J) (.cons (O 67 J) .nil)) U61 zie J J (by decide) J J) ?_;refine zbf.cons (ze8 ((zcc h32).frz) (xs:=[.tmp 52,.tmp 68]) (.cons (O 52 J) (.cons (O 68 J) .nil)) J J) ?_;refine zbf.cons (t_lit (xs:=[.tmp 69]) (.cons (O 69 J) .nil) U78 ty62 J J (by decide) J J) ?_
       exact zbf.nil
      intro a s _ L;replace L:=L.kk (L':=[(8,(Pd.row (En.slice En.SItem) s0.w.heap.size 62 og18 out17)),(51,(Pd.row (En.slice En.SItem) s0.w.heap.size 62 og18 out17)),(70,(Pd.rep (En.slice (En.slice En.SItem)) [r31]))]);refine dp ?_;refine zdo 71 L op op Ud.h Tq.h h33 J J J J ka fun a s og34 hg_ L=>?_;refine sA 1 L fun a s L=>?_;refine en' ?_;exact J26 (out17++[r31]) og34 a s (L.kk) h
     ·refine wp_skip ?_;exact J26 out17 og18 a s (L.kk) h
    refine cn L h (fun h=>?_) fun h=>?_
    ·obtain ⟨r35,h36,h37,h⟩:=h;refine rg (sl 4 (p1 ((zcc h36).frz)) L fun a s L=>?_);have lt_og38_0:=L.blt 5 rfl;have lt_og38_1:=L.blt 7 rfl;refine zdo 47 L op op Ud.h Tq.h h37 J J J J ka fun a s og38 hg_ L=>?_;have d39:=Dis.app hg_ Dis.none lt_og38_0;have d40:=Dis.app hg_ Dis.none lt_og38_1;refine sA 1 L fun a s L=>?_;refine en' ?_;exact J19 (([]:(List (List SItem)))++[r35]) og38 a s (L.kk) (Dis.symm d9) (Dis.symm d39) (Dis.symm d40) h
    ·refine wp_skip ?_;exact J19 ([]:(List (List SItem))) none a s (L.kk) (Dis.symm d9) (Dis.symm Dis.none) (Dis.symm Dis.none) h
   ·refine wp_skip (H10 _ _ ?_);refine wp_seq_k fun K41 H41=>rA 2 L fun a s L=>?_;refine wp_block (rA 2 L fun a s L=>?_);refine cn L h (fun h=>?_) fun h=>?_
    ·obtain ⟨r42,h43,h⟩:=h;refine rs (sl 2 (p1 ((zcc h43).frz)) L fun a s L=>?_);have lt_d46:=L.blt 7 rfl;have lt_d45:=L.blt 5 rfl;refine zfd (xs:=[.tmp 78]) 79 L (.cons op .nil) Ud.h Tq.h J J (by decide) J J J J fun a s g44 hg_ L=>?_;have d45:=Dis.newg hg_ lt_d45;have d46:=Dis.newg hg_ lt_d46;refine sA 1 L fun a s L=>?_;refine es ?_;subst h;exact wp_ret (zif J L J)
    ·refine rA 2 L fun a s L=>?_;refine cn L h (fun h=>?_) fun h=>?_
     ·obtain ⟨r47,h48,h⟩:=h;refine rs (sA 3 L fun a s L=>?_);refine sv (zbm (x:=(3,e2.2.1,0,0)) (ps:=[(0,.const (.int .i64 3)),(1,.tmp 84)]) zf2 J zly (.cons (i:=0) op J (zv (zn _ _ _)) (.cons (i:=1) op J (zj (zv (zn _ _ _)) J) .nil)) J J) L fun a s L=>?_;refine sl 2 (p1 ((zcc h48).frz)) L fun a s L=>?_;have lt_d51:=L.blt 7 rfl;have lt_d50:=L.blt 5 rfl;refine zfd (xs:=[.tmp 87]) 88 L (.cons op .nil) Ud.h Tq.h J J (by decide) J J J J fun a s g49 hg_ L=>?_;have d50:=Dis.newg hg_ lt_d50;have d51:=Dis.newg hg_ lt_d51;refine sA 1 L fun a s L=>?_;refine es ?_;subst h;exact wp_ret (zif J L J)
     ·refine rA 2 L fun a s L=>?_;refine cn L h (fun h=>?_) fun h=>?_
      ·obtain ⟨r52,h53,r54,h55,r56,h57,h⟩:=h;refine wp_seq (rdx 9 (pp (zea h53) (pp (zea h55) (p1 ((zcc h57).frz)))) L fun a s L=>?_);have lt_d60:=L.blt 7 rfl;have lt_d59:=L.blt 5 rfl;refine zfd (xs:=[.tmp 99]) 100 L (.cons op .nil) Ud.h Tq.h J J (by decide) J J J J fun a s g58 hg_ L=>?_;have d59:=Dis.newg hg_ lt_d59;have d60:=Dis.newg hg_ lt_d60;refine sA 1 L fun a s L=>?_;refine es ?_;subst h;exact wp_ret (zif J L J)
      ·refine rA 2 L fun a s L=>?_;refine cn L h (fun h=>?_) fun h=>?_
       ·obtain ⟨r61,h62,r63,h64,r65,h66,r67,h68,h⟩:=h;refine wp_seq (rdx 12 (pp (zea h62) (pp ((zcc h64).frz) (pp (zea h66) (p1 ((zcc h68).frz))))) L fun a s L=>?_);have lt_d71:=L.blt 7 rfl;have lt_d70:=L.blt 5 rfl;refine zfd (xs:=[.tmp 108,.tmp 114]) 115 L (.cons op (.cons op .nil)) Ud.h Tq.h J J (by decide) J J J J fun a s g69 hg_ L=>?_;have d70:=Dis.newg hg_ lt_d70;have d71:=Dis.newg hg_ lt_d71;refine sA 1 L fun a s L=>?_;refine es ?_;subst h;exact wp_ret (zif J L J)
       ·refine rA 2 L fun a s L=>?_;refine cn L h (fun h=>?_) fun h=>?_
        ·obtain ⟨r72,h73,r74,h75,r76,h77,h⟩:=h;refine wp_seq (rdx 9 (pp ((zcc h73).frz) (pp (zea h75) (p1 ((zcc h77).frz)))) L fun a s L=>?_);have lt_d80:=L.blt 7 rfl;have lt_d79:=L.blt 5 rfl;refine zfd (xs:=[.tmp 119,.tmp 126]) 127 L (.cons op (.cons op .nil)) Ud.h Tq.h J J (by decide) J J J J fun a s g78 hg_ L=>?_;have d79:=Dis.newg hg_ lt_d79;have d80:=Dis.newg hg_ lt_d80;refine sA 1 L fun a s L=>?_;refine es ?_;subst h;exact wp_ret (zif J L J)
        ·refine wp_skip (H41 _ _ ?_);obtain ⟨r81,h82,h⟩:=h;refine rs (sA 7 L fun a s L=>?_);refine sv (zbm (x:=(2,e2.2.1,e6.2.2.2.1,e6.2.2.2.2.1)) (ps:=[(0,.const (.int .i64 2)),(1,.tmp 130),(2,.tmp 132),(3,.tmp 134)]) zf2 J zly (.cons (i:=0) op J (zv (zn _ _ _)) (.cons (i:=1) op J (zj (zv (zn _ _ _)) J) (.cons (i:=2) op J (zj (zj (zv (zn _ _ _)) J) J) (.cons (i:=3) op J (zj (zj (zj (zn _ _ _) J) J) J) .nil)))) J J) L fun a s L=>?_;refine sl 2 (p1 ((zcc h82).frz)) L fun a s L=>?_;have lt_d85:=L.blt 7 rfl;have lt_d84:=L.blt 5 rfl;refine zfd (xs:=[.tmp 137]) 138 L (.cons op .nil) Ud.h Tq.h J J (by decide) J J J J fun a s g83 hg_ L=>?_;have d84:=Dis.newg hg_ lt_d84;have d85:=Dis.newg hg_ lt_d85;refine sA 1 L fun a s L=>?_;refine es ?_;subst h;exact wp_ret (zif J L J)
end Go.Proofs.YtkbboemafklkkaaGreatDoor.V
namespace Go.Proofs.YtkbboemafklkkaaGreatDoor.V.VD
open Go
abbrev En:=Go.Proofs.YtkbboemafklkkaaGreatDoor.V.En
abbrev En.int:=Go.Proofs.YtkbboemafklkkaaGreatDoor.V.En.int
abbrev St:=Go.Proofs.YtkbboemafklkkaaGreatDoor.V.St
abbrev Gl:=Go.Proofs.YtkbboemafklkkaaGreatDoor.V.Gl
abbrev Fn:=@Go.Proofs.YtkbboemafklkkaaGreatDoor.V.Fn true dLe
abbrev Rq:=@Go.Proofs.YtkbboemafklkkaaGreatDoor.V.Rq true dLe
abbrev Pd.rep {α:Type} (E:V.En α) (x:α):@V.Pd true dLe:=@V.Pd.rep true dLe α E x
end Go.Proofs.YtkbboemafklkkaaGreatDoor.V.VD
namespace Go.Proofs.YtkbboemafklkkaaGreatDoor.V
open Go Go.Shelf Go.Sort
set_option linter.unusedVariables false
theorem grow_of {w w':World} (hd:w.drawn≤w'.drawn) (ho:w'.os=w.os) (ht:w'.tape=w.tape) (hu:w'.output=w.output) (hs:w.heap.size≤w'.heap.size) (hb:∀b,b<w.heap.size→w'.heap[b]?=w.heap[b]?):∃q os,w'=Sort.grow (w.drewN q) os:=by
 refine ⟨w'.drawn-w.drawn,w'.heap.extract w.heap.size w'.heap.size, ?_⟩;have hh:w'.heap=w.heap++w'.heap.extract w.heap.size w'.heap.size:=by
  apply Array.ext_getElem?;intro i;rw [Array.getElem?_append];split
  ·exact hb i ‹_›
  ·rw [Array.getElem?_extract]
   rename_i h
   by_cases hi:i<w'.heap.size
   ·rw [if_pos (by omega)];congr 1;omega
   ·rw [if_neg (by omega),Array.getElem?_eq_none (by omega)]
 have hd2:w'.drawn=w.drawn+(w'.drawn-w.drawn):=by omega
 obtain ⟨h1,t1,d1,o1,u1⟩:=w';obtain ⟨h0,t0,d0,o0,u0⟩:=w;simp only at *;subst ho ht hu;unfold Sort.grow World.drewN;simp only;rw [← hh,← hd2]
section
attribute [local instance] dLe
theorem cmp_grow {P:Program} {g:FuncId} {α:Type} {E':VD.En α} {x y:α} {c:Int} (hc:VD.Fn P g [VD.Pd.rep E' x,VD.Pd.rep E' y] (VD.Rq (VD.Pd.rep (VD.En.int .i64) c))) (s:VD.St) (hg:VD.Gl s) {cx cy:List Value} (hx:E'.R s.w (zfa s) cx x) (hy:E'.R s.w (zfa s) cy y):
  Calls P g #[E'.val cx,E'.val cy] s.w fun e w'=>e = .returned (.int .i64 c)∧∃q os',w'=Sort.grow (s.w.drewN q) os':=
 (hc.run s [E'.val cx,E'.val cy] hg ⟨⟨cx,rfl,hx⟩,⟨cy,rfl,hy⟩,trivial⟩).mono fun e w' ⟨v,s',he,hw,hX,hq⟩=>by
  subst he;subst hw;refine ⟨by rw [(z8.1 hq).1],grow_of hX.mv.dr hX.mv.os hX.mv.tape hX.mv.output hX.mv.size fun b hb=>hX.mv.blk b hb id⟩
end
theorem swo_cmp {α:Type} {cf:α→α→Int} (h0:∀x,cf x x=0) (ha:∀x y,cf y x = -cf x y) (ht:∀x y z,cf x y≤0→cf y z≤0→cf x z≤0):SWO (Go.Proofs.ltOf cf) where
 irrefl x:=by unfold Go.Proofs.ltOf;rw [h0];rfl
 trans x y z h1 h2:=by
  unfold Go.Proofs.ltOf at *;simp only [decide_eq_true_eq] at *;have a1:=ha x y;have a2:=ha y z;have a3:=ha x z;rcases Int.lt_or_le (cf x z) 0 with h | h
  ·exact h
  ·have:=ht z x y (by omega) (by omega);omega
 ntrans x y z h1 h2:=by
  unfold Go.Proofs.ltOf at *;simp only [decide_eq_false_iff_not,Int.not_lt] at *;have a1:=ha x y;have a2:=ha y z;have a3:=ha x z;have:=ht z y x (by omega) (by omega);omega
theorem put_block {w:World} {b:Nat} {cur:Array Value} {te:TypeId} {F:Array Value} (m:Nat) (os:Array Obj) (hb:w.heap[b]?=some (.cells cur te (0,0))):
  (Sort.grow (putRow id (Sort.ahead w m) b 0 F) os).heap[b]?=some (.cells (putCells id 0 F cur) te (0,0)):=by
 have hlt:=(Array.getElem?_eq_some_iff.1 hb).1;unfold Sort.grow putRow mapBlock;simp only;rw [Array.getElem?_append_left (by simpa [Sort.ahead] using hlt),Array.getElem?_modify,if_pos rfl];show Option.map _ (w.heap[b]?)=_;rw [hb];rfl
theorem put_other {w:World} {b c:Nat} {F:Array Value} (m:Nat) (os:Array Obj) (hc:c<w.heap.size) (hne:c≠b):(Sort.grow (putRow id (Sort.ahead w m) b 0 F) os).heap[c]?=w.heap[c]?:=by
 unfold Sort.grow putRow mapBlock;simp only;rw [Array.getElem?_append_left (by simpa [Sort.ahead] using hc),Array.getElem?_modify,if_neg (Ne.symm hne)];rfl
theorem flat_idx {css:List (List Value)} {k:Nat} (hk:0<k) (h:∀cs∈css,cs.length=k) (j:Nat):css.flatten[j]?=(css[j / k]?).bind (fun cs=>cs[j % k]?):=by
 cases hi:css[j / k]? with
 | none=>
  rw [Option.bind_none,List.getElem?_eq_none];rw [zf5 h];have:=List.getElem?_eq_none_iff.1 hi;have h2:=Nat.div_add_mod j k;have h3:css.length*k≤(j / k)*k:=Nat.mul_le_mul_right _ this;rw [Nat.mul_comm] at h2;omega
 | some cs=>
  have hc:cs.length=k:=h cs (List.mem_of_getElem? hi);have hm:=Nat.mod_lt j hk;have e:cs[j % k]?=some cs[j % k]:=List.getElem?_eq_getElem (by omega);have:=zjf h hi e;rw [Nat.mul_comm,Nat.div_add_mod] at this;rw [this,Option.bind_some,e]
theorem fm_sort {P:Program} {ρ:Ren} (L:Go.Proofs.SlLaysF0.n6 P ρ) {α:Type} {E:En α} {E':VD.En α} {te:TypeId} {g:FuncId} {cf:α→α→Int} (ht24:ρ.t 24=te) (hE:Ty P te E) (hA:E.agg=true) (hA':E'.agg=true) (hR:∀{w S cs x},E.R w S cs x→E'.R w S cs x)
  (hf:∀(args:Array Value) (w:World),(callFunc (ρ.f 6) args).run P w = .ok (.enter (ρ.f 6) args) w) (eg:∀(args:Array Value) (w:World),(callFunc g args).run P w = .ok (.enter g args) w) (hO:SWO (Go.Proofs.ltOf cf)) {xs:List α} (hlen:xs.length≤2147483648)
  (hc:∀x∈xs,∀y∈xs,VD.Fn P g [VD.Pd.rep E' x,VD.Pd.rep E' y] (VD.Rq (VD.Pd.rep (VD.En.int .i64) (cf x y)))) (v0:Value):
  Fm P (ρ.f 6) (fun b=>v0.ownBlock=some b) [Pd.prow E te v0 xs,Pd.is (.func (.func g) #[] #[])] (fun _ s' _=>∃ys:List α,ys.Perm xs∧ys.Pairwise (fun a b=>¬ cf b a<0)∧(Pd.prow E te v0 ys).p s' v0):=by
 refine ⟨hf,fun s vs hgl hX hv=>?_⟩
 match vs,hv with
 | [v,fv],⟨⟨hv0,hrow⟩,hfv,_⟩=>
 have hfv:fv = .func (.func g) #[] #[]:=hfv;subst hfv;subst hv0;obtain ⟨h1,h2,h3,css,hEl,how⟩:=hrow
 by_cases hx0:xs=[]
 ·subst hx0;obtain ⟨p,cap,rfl⟩:∃p cap,v = .slice p 0 cap:=by
   rcases how.2 with ⟨e,_⟩ | ⟨b,cap,cur,e,_⟩
   ·exact ⟨none,0,e⟩
   ·exact ⟨_,cap,e⟩
  refine (Go.Proofs.AnyF.slices_SortFunc_none L p cap _ s.w).mono fun e w' ⟨he,hw⟩=>?_;subst he;subst hw;exact ⟨_,s,rfl,rfl,Fr.refl hX,[],.refl _,List.Pairwise.nil,rfl,h1,h2,h3,css,hEl,how⟩
 have hpos:0<xs.length:=List.length_pos_iff.2 hx0;rcases how.2 with ⟨e,hn⟩ | ⟨b,cap,cur,hvb,hN,hgb,hnc,hcm,hcs,htk⟩
 ·omega
 subst hvb;have hlens:=hEl.lens;have hXb:s.X b:=h2 b rfl;have hblt:b<s.w.heap.size:=s.lt b hXb
 let α':={p:List Value × α // E.R s.w (zfa s) p.1 p.2∧p.2∈xs}
 have hel:∀i:Fin xs.length,E.R s.w (zfa s) (css[i.1]'(by rw [hEl.1];exact i.2)) xs[i.1]∧xs[i.1]∈xs:=fun i=>⟨hEl.2 i.1 _ _ (List.getElem?_eq_getElem _) (List.getElem?_eq_getElem _),List.getElem_mem _⟩
 let d:Array α':=Array.ofFn fun i:Fin xs.length=>⟨(css[i.1]'(by rw [hEl.1];exact i.2),xs[i.1]),hel i⟩
 have hdn:d.size=xs.length:=by simp [d]
 haveI:Inhabited α':=⟨d[0]'(by rw [hdn];exact hpos)⟩
 let enc:α'→List Value:=fun p=>p.1.1
 have hk:∀x:α',(enc x).length=E.sz:=fun x=>E.len x.2.1;have hone:∀x:α',∀u∈enc x,u.oneCell'=true:=fun x=>E.one x.2.1;have hdl:d.toList.map (fun p=>p.1.1)=css:=by
  apply List.ext_getElem?;intro i;simp only [d,List.getElem?_map,Array.toList_ofFn,List.getElem?_ofFn]
  by_cases hi:i<xs.length
  ·rw [dif_pos hi,Option.map_some,List.getElem?_eq_getElem (by rw [hEl.1];exact hi)]
  ·rw [dif_neg hi,Option.map_none,List.getElem?_eq_none (by rw [hEl.1];omega)]
 have hdx:d.toList.map (fun p=>p.1.2)=xs:=by
  apply List.ext_getElem?;intro i;simp only [d,List.getElem?_map,Array.toList_ofFn,List.getElem?_ofFn]
  by_cases hi:i<xs.length
  ·rw [dif_pos hi,Option.map_some,List.getElem?_eq_getElem hi]
  ·rw [dif_neg hi,Option.map_none,List.getElem?_eq_none (by omega)]
 have hflat:∀(q:Array α') (j:Nat),j<q.size*E.sz→(q.toList.map (fun p=>p.1.1)).flatten[j]?=some (flatK enc E.sz q)[j]!:=by
  intro q j hj;have hjk:j / E.sz<q.size:=Nat.div_lt_of_lt_mul (by rw [Nat.mul_comm];exact hj);rw [flat_idx E.pos (fun cs hcs=>by obtain ⟨p,hp,rfl⟩:=List.mem_map.1 hcs;exact E.len p.2.1),get_flatK _ _ _ _ hj,List.getElem?_map,Array.getElem?_toList,Array.getElem?_eq_getElem hjk];simp only [Option.map_some,Option.bind_some];rw [getElem!_pos q (j / E.sz) hjk];have hm:j % E.sz<(enc q[j / E.sz]).length:=by rw [hk];exact Nat.mod_lt _ E.pos
  rw [getElem!_pos (enc q[j / E.sz]) _ hm];exact List.getElem?_eq_getElem hm
 have hH:HoldsK enc E.sz s.w b 0 d:=by
  intro j hj;rw [size_flatK] at hj;have hf:=hflat d j hj;rw [hdl] at hf;have hcj:cur[j]?=some (flatK enc E.sz d)[j]!:=by
   rw [← htk,List.getElem?_take] at hf;split at hf
   ·simpa using hf
   ·cases hf
  refine ⟨?_, ?_⟩
  ·rw [Nat.zero_add,cell_of_row s.w b j cur te (0,0) hgb];exact hcj
  ·unfold World.frozen?;simp [hgb]
 have hO':SWO (Go.Proofs.ltOf fun p q:α'=>cf p.1.2 q.1.2):=⟨fun x=>hO.irrefl x.1.2,fun x y z=>hO.trans x.1.2 y.1.2 z.1.2,fun x y z=>hO.ntrans x.1.2 y.1.2 z.1.2⟩;have hcmp:Go.Proofs.CmpLays P g #[] enc E.sz (fun p q:α'=>cf p.1.2 q.1.2) b 0 d.size s.w:=by
  intro m os dk hdk x y;have hsz:s.w.heap.size≤(sortWorldK enc E.sz s.w b 0 m dk os).heap.size:=Go.Proofs.size_sortWorldK_c enc E.sz s.w b 0 m dk os;have hoth:∀c,c<s.w.heap.size→c≠b→(sortWorldK enc E.sz s.w b 0 m dk os).heap[c]?=s.w.heap[c]?:=fun c hc hne=>put_other m os hc hne
  let sd:VD.St:=⟨sortWorldK enc E.sz s.w b 0 m dk os,fun c=>c=b,fun c hc=>by subst hc;omega⟩
  have hgd:VD.Gl sd:=by
   have key:∀c o,¬ s.X c→s.w.heap[c]?=some o→c≠b∧sd.w.heap[c]?=some o:=fun c o k1 k2=>by
    have hpb:c≠b:=fun e=>k1 (e ▸ hXb);exact ⟨hpb,(hoth c (Array.getElem?_eq_some_iff.1 k2).1 hpb).trans k2⟩
   refine ⟨fun p hp=>?_,fun p hp=>?_⟩
   ·obtain ⟨k1,t,fr,k2⟩:=hgl.1 p hp;obtain ⟨k3,k4⟩:=key _ _ k1 k2;exact ⟨k3,t,fr,k4⟩
   ·obtain ⟨k1,m',t,fr,es,clock,ys,k2,k3,k4,k5,k6⟩:=hgl.2 p hp;obtain ⟨j1,j2⟩:=key _ _ k1 k2;obtain ⟨j3,j4⟩:=key _ _ k3 k4;exact ⟨j1,m',t,fr,es,clock,ys,j2,j3,j4,k5,k6⟩
  have hfoot:∀c,zfa s c→zfa sd c:=fun c hc=>⟨Nat.lt_of_lt_of_le hc.1 hsz,fun e=>hc.2 (e ▸ hXb)⟩;have conv:∀z:α',E'.R sd.w (zfa sd) (enc z) z.1.2:=fun z=>E'.mono hfoot (E'.move (fun c hc=>hoth c hc.1 (fun e=>hc.2 (e ▸ hXb))) (hR z.2.1))
  have:=cmp_grow (hc _ x.2.2 _ y.2.2) sd hgd (conv x) (conv y);have hval:∀z:α',E'.val (enc z) = .agg (enc z).toArray:=fun z=>by unfold En.val;rw [hA'];rfl
  rw [hval,hval] at this;exact this
 have hmain:=Go.Proofs.AnyQ.slices_SortFunc L E.sz (fun w=>by rw [ht24,← hA];exact zkd hE w) (fun w=>by rw [ht24];exact zbw hE w) enc hk hone (fun p q:α'=>cf p.1.2 q.1.2) hO' g #[] b 0 cap d s.w eg hcmp hH hblt (by rw [hdn];omega);rw [hdn] at hmain;refine hmain.mono fun e w' ⟨he,d',m,os,hP,hS,hw⟩=>?_;subst he;subst hw;have hd'n:d'.size=xs.length:=hP.1.trans hdn;have hsz:s.w.heap.size≤(sortWorldK enc E.sz s.w b 0 m d' os).heap.size:=Go.Proofs.size_sortWorldK_c enc E.sz s.w b 0 m d' os
 let s':St:=⟨sortWorldK enc E.sz s.w b 0 m d' os,s.X,fun c hc=>Nat.lt_of_lt_of_le (s.lt c hc) hsz⟩
 have hmv:Mv (fun c=>(Value.slice (some ⟨b,0,none⟩) xs.length cap).ownBlock=some c) s s':=
  ⟨trivial,rfl,rfl,rfl,hsz,fun c hc hne=>put_other m os hc (fun e=>hne (by rw [e];rfl)),fun c hc=>hX c hc,fun c hc=>.inl hc⟩
 refine ⟨_,s',rfl,rfl,⟨hmv,fun c hc=>hc⟩,d'.toList.map (fun p=>p.1.2), ?_, ?_,rfl,rfl,fun c hc=>h2 c hc,by simp [hd'n];exact h3,d'.toList.map (fun p=>p.1.1),⟨by simp,fun i cs x hi hx=>?_⟩, ?_⟩
 ·have hp:=(hP.2.2).map (fun p:α'=>p.1.2);have e1:(d'.extract 0 xs.length).toList=d'.toList:=by rw [← hd'n];simp
  have e2:(d.extract 0 xs.length).toList=d.toList:=by rw [← hdn];simp
  rw [e1,e2,hdx] at hp;exact hp
 ·rw [List.pairwise_iff_getElem];intro i j hi hj hij;simp only [List.length_map,Array.length_toList] at hi hj;have:=hS i j (Nat.zero_le _) hij (by omega);unfold Go.Proofs.ltOf at this;rw [getElem!_pos d' i hi,getElem!_pos d' j hj] at this;simpa using this
 ·simp only [List.getElem?_map,Array.getElem?_toList] at hi hx;cases hq:d'[i]? with
  | none=>rw [hq] at hi;cases hi
  | some q=>
   rw [hq] at hi hx;simp only [Option.map_some,Option.some.injEq] at hi hx;subst hi;subst hx;exact E.go hmv q.2.1
 ·have hfl:(d'.toList.map (fun p=>p.1.1)).flatten.length=d'.size*E.sz:=by
   rw [zf5 (fun cs hcs=>by obtain ⟨p,hp,rfl⟩:=List.mem_map.1 hcs;exact E.len p.2.1)];simp
  have hle:d'.size*E.sz≤cur.size:=by rw [hcs,hd'n];exact Nat.mul_le_mul_right _ hnc
  refine ⟨by rw [hfl];simp,.inr ⟨b,cap,_,by simp [hd'n],Nat.zero_le _,put_block m os hgb,by simp [hd'n];exact hnc,hcm,by simp [putCells];exact hcs, ?_⟩⟩;apply List.ext_getElem?;intro j;rw [List.getElem?_take];simp only [List.length_map,Array.length_toList];split
  ·rename_i hj
   rw [hflat d' j hj,Array.getElem?_toList];unfold putCells;rw [Array.getElem?_mapIdx,Array.getElem?_eq_getElem (by omega)];simp only [Option.map_some,id];rw [if_pos ⟨Nat.zero_le _,by rw [size_flatK];omega⟩,Nat.sub_zero]
  ·rename_i hj
   rw [List.getElem?_eq_none (by rw [hfl];omega)]
end Go.Proofs.YtkbboemafklkkaaGreatDoor.V
namespace Go.Proofs.YtkbboemafklkkaaGreatDoor.V
open Go
set_option linter.unusedVariables false
def zc0.j1 (r_:(List Int)) (out3:(List Int)):Prop:=r_=out3
def zc0.l1 (s_:(List SItem)) (X1:(List Int)→Prop):Nat→(List Int)→Int→Prop
 | 0,_,_=>False
 | k_0+1,out6,i8=>((decide (i8<(s_.length:Int)))=true→∃e14:SItem,at? s_ i8=some e14∧∃e16:SItem,at? s_ i8=some e16∧∃e18:SItem,at? s_ i8=some e18∧∃e20:SItem,at? s_ i8=some e20∧(out6.length+[e14.1,e16.2.1,e18.2.2.1,e20.2.2.2].length≤2147483648)∧(InR .i64 (i8+1))∧zc0.l1 s_ X1 k_0 (out6++[e14.1,e16.2.1,e18.2.2.1,e20.2.2.2]) (i8+1))∧((decide (i8<(s_.length:Int)))=false→X1 out6)
def zc0 (s_:(List SItem)) (r_:(List Int)):Prop:=∃k9,zc0.l1 s_ (zc0.j1 r_) k9 [(s_.length:Int)] 0
def zcm.j1 (r_:Int):Prop:=r_=0
def zcm.l1 (r1:(List Int)) (r3:(List Int)) (r_:Int) (X1:Prop):Nat→Int→Prop
 | 0,_=>False
 | k_0+1,i7=>∃b12:Bool,b12=((decide (i7<(r1.length:Int)))&&(decide (i7<(r3.length:Int))))∧((b12)=true→∃e16:Int,at? r1 i7=some e16∧∃e18:Int,at? r3 i7=some e18∧((decide (e16<e18))=true→r_=(-1))∧((decide (e16<e18))=false→∃e20:Int,at? r1 i7=some e20∧∃e22:Int,at? r3 i7=some e22∧((decide (e22<e20))=true→r_=1)∧((decide (e22<e20))=false→(InR .i64 (i7+1))∧zcm.l1 r1 r3 r_ X1 k_0 (i7+1))))∧((b12)=false→X1)
def zcm (a_:(List SItem)) (b_:(List SItem)) (r_:Int):Prop:=∃r1:(List Int),zc0 a_ r1∧∃r3:(List Int),zc0 b_ r3∧∃k8,zcm.l1 r1 r3 r_ (zcm.j1 r_) k8 0
def zby.j1 (r_:((List SItem) × Bool)) (out5:(List SItem)):Prop:=r_=(out5,true)
def zby.j2 (L1_:(List SItem)→Int→Prop) (out9:(List SItem)) (i11:Int) (x25:SItem):Prop:=(out9.length+[x25].length≤2147483648)∧(InR .i64 (i11+1))∧L1_ (out9++[x25]) (i11+1)
def zby.l1 (s_:(List SItem)) (r_:((List SItem) × Bool)) (X1:(List SItem)→Prop):Nat→(List SItem)→Int→Prop
 | 0,_,_=>False
 | k_0+1,out9,i11=>((decide (i11<(s_.length:Int)))=true→∃e19:SItem,at? s_ i11=some e19∧(((e19.1==5))=true→((decide (e19.2.2.1≤0))=true→r_=(([]:(List SItem)),false))∧((decide (e19.2.2.1≤0))=false→(InR .i64 (e19.2.2.1-1))∧(zby.j2 (zby.l1 s_ r_ X1 k_0) out9 i11) (e19.1,e19.2.1,e19.2.2.1-1,e19.2.2.2)))∧(((e19.1==5))=false→(zby.j2 (zby.l1 s_ r_ X1 k_0) out9 i11) e19))∧((decide (i11<(s_.length:Int)))=false→X1 out9)
def zby (s_:(List SItem)) (r_:((List SItem) × Bool)):Prop:=∃k12,zby.l1 s_ r_ (zby.j1 r_) k12 ([]:(List SItem)) 0
def znh (d_:SDesc) (s_:(List SItem)) (r_:Bool):Prop:=∃e2:SItem,(((((s_.length:Int)==0))=false)→at? s_ 0=some e2)∧∃e4:SItem,((((((s_.length:Int)==0)||(e2.1==3)))=false)→at? s_ 0=some e4)∧∃b6:Bool,b6=((((s_.length:Int)==0)||(e2.1==3))||(e4.1==4))∧((b6)=true→r_=true)∧((b6)=false→∃e8:SItem,at? s_ 0=some e8∧∃e10:SNode,at? d_ e8.2.1=some e10∧∃e12:SItem,at? s_ 0=some e12∧∃b14:Bool,b14=((e12.1==1)&&(((e10.1==2)||(e10.1==8))||(e10.1==9)))∧r_=b14)
def zb9 (l_:(List SItem)) (s_:(List SItem)) (r_:(List SItem)):Prop:=(([]:(List SItem)).length+l_.length≤2147483648)∧((([]:(List SItem))++l_).length+s_.length≤2147483648)∧r_=(([]:(List SItem))++l_)++s_
def zdd.j1 (s_:(List SItem)) (many_:Int) (r_:(List SBranch)) (out2:(List SBranch)) (done4:Bool):Prop:=(((!done4))=true→(out2.length+[(s_,many_)].length≤2147483648)∧r_=out2++[(s_,many_)])∧(((!done4))=false→r_=out2)
def zdd.j2 (L1_:(List SBranch)→Bool→Int→Prop) (l_:(List SBranch)) (i12:Int) (out30:(List SBranch)) (done32:Bool):Prop:=∃e34:SBranch,at? l_ i12=some e34∧(out30.length+[e34].length≤2147483648)∧(InR .i64 (i12+1))∧L1_ (out30++[e34]) done32 (i12+1)
def zdd.l1 (l_:(List SBranch)) (s_:(List SItem)) (many_:Int) (X1:(List SBranch)→Bool→Prop):Nat→(List SBranch)→Bool→Int→Prop
 | 0,_,_,_=>False
 | k_0+1,out9,done11,i12=>((decide (i12<(l_.length:Int)))=true→∃e18:SBranch,at? l_ i12=some e18∧∃r20:Int,zcm s_ e18.1 r20∧(((r20==0))=true→∃e23:SBranch,at? l_ i12=some e23∧(InR .i64 (e23.2+many_))∧(out9.length+[(s_,(min 2 (e23.2+many_)))].length≤2147483648)∧(InR .i64 (i12+1))∧zdd.l1 l_ s_ many_ X1 k_0 (out9++[(s_,(min 2 (e23.2+many_)))]) true (i12+1))∧(((r20==0))=false→((((decide (r20<0))&&(!done11)))=true→(out9.length+[(s_,many_)].length≤2147483648)∧(zdd.j2 (zdd.l1 l_ s_ many_ X1 k_0) l_ i12) (out9++[(s_,many_)]) true)∧((((decide (r20<0))&&(!done11)))=false→(zdd.j2 (zdd.l1 l_ s_ many_ X1 k_0) l_ i12) out9 done11)))∧((decide (i12<(l_.length:Int)))=false→X1 out9 done11)
def zdd (l_:(List SBranch)) (s_:(List SItem)) (many_:Int) (r_:(List SBranch)):Prop:=∃k13,zdd.l1 l_ s_ many_ (zdd.j1 s_ many_ r_) k13 ([]:(List SBranch)) false 0
def zdc.j1 (r_:(List (List SItem))) (out18:(List (List SItem))):Prop:=r_=out18
def zdc.j2 (r_:(List (List SItem))) (out34:(List (List SItem))):Prop:=r_=out34
def zdc.j3 (s_:(List SItem)) (r_:(List (List SItem))) (e1:SItem) (e5:SNode) (out27:(List (List SItem))):Prop:=((decide (0<e1.2.2.2))=true→(InR .i64 (e1.2.2.1-1))∧(InR .i64 (e1.2.2.2-1))∧∃r39:(List SItem),zb9 [(1,e5.2.1,0,0),(2,e1.2.1,(max 0 (e1.2.2.1-1)),e1.2.2.2-1)] (s_.drop (1:Int).toNat) r39∧(out27.length+[r39].length≤2147483648)∧(zdc.j2 r_) (out27++[r39]))∧((decide (0<e1.2.2.2))=false→(zdc.j2 r_) out27)
def zdc (d_:SDesc) (s_:(List SItem)) (r_:(List (List SItem))):Prop:=∃e1:SItem,at? s_ 0=some e1∧((0:Int)≤1∧1≤(s_.length:Int))∧∃e5:SNode,at? d_ e1.2.1=some e5∧(((e1.1==5))=true→(((e1.2.2.1==0))=true→∃r21:(List SItem),zb9 ([]:(List SItem)) (s_.drop (1:Int).toNat) r21∧(([]:(List (List SItem))).length+[r21].length≤2147483648)∧(zdc.j1 r_) (([]:(List (List SItem)))++[r21]))∧(((e1.2.2.1==0))=false→(zdc.j1 r_) ([]:(List (List SItem)))))∧(((e1.1==5))=false→(((e1.1==2))=true→(((e1.2.2.1==0))=true→∃r43:(List SItem),zb9 ([]:(List SItem)) (s_.drop (1:Int).toNat) r43∧(([]:(List (List SItem))).length+[r43].length≤2147483648)∧(zdc.j3 s_ r_ e1 e5) (([]:(List (List SItem)))++[r43]))∧(((e1.2.2.1==0))=false→(zdc.j3 s_ r_ e1 e5) ([]:(List (List SItem)))))∧(((e1.1==2))=false→(((e5.1==1))=true→∃r50:(List SItem),zb9 ([]:(List SItem)) (s_.drop (1:Int).toNat) r50∧(([]:(List (List SItem))).length+[r50].length≤2147483648)∧r_=([]:(List (List SItem)))++[r50])∧(((e5.1==1))=false→(((e5.1==3))=true→∃r54:(List SItem),zb9 [(3,e1.2.1,0,0)] (s_.drop (1:Int).toNat) r54∧(([]:(List (List SItem))).length+[r54].length≤2147483648)∧r_=([]:(List (List SItem)))++[r54])∧(((e5.1==3))=false→(((e5.1==4))=true→∃r58:(List SItem),zb9 [(1,e5.2.1,0,0),(1,e5.2.2.1,0,0)] (s_.drop (1:Int).toNat) r58∧(([]:(List (List SItem))).length+[r58].length≤2147483648)∧r_=([]:(List (List SItem)))++[r58])∧(((e5.1==4))=false→(((e5.1==5))=true→∃r62:(List SItem),zb9 [(1,e5.2.1,0,0)] (s_.drop (1:Int).toNat) r62∧∃r64:(List SItem),zb9 [(1,e5.2.2.1,0,0)] (s_.drop (1:Int).toNat) r64∧(([]:(List (List SItem))).length+[r62,r64].length≤2147483648)∧r_=([]:(List (List SItem)))++[r62,r64])∧(((e5.1==5))=false→(((e5.1==6))=true→∃r68:(List SItem),zb9 ([]:(List SItem)) (s_.drop (1:Int).toNat) r68∧∃r70:(List SItem),zb9 [(1,e5.2.1,0,0),e1] (s_.drop (1:Int).toNat) r70∧(([]:(List (List SItem))).length+[r68,r70].length≤2147483648)∧r_=([]:(List (List SItem)))++[r68,r70])∧(((e5.1==6))=false→(((e5.1==7))=true→∃r74:(List SItem),zb9 [(2,e1.2.1,e5.2.2.2.1,e5.2.2.2.2.1)] (s_.drop (1:Int).toNat) r74∧(([]:(List (List SItem))).length+[r74].length≤2147483648)∧r_=([]:(List (List SItem)))++[r74])∧(((e5.1==7))=false→r_=([]:(List (List SItem)))))))))))
def zc3.j1 (r_:(List SBranch)) (l11:(List SBranch)):Prop:=r_=l11
def zc3.l1 (n_:SDesc→(List SItem)→(List SBranch)→(List SBranch)→Prop) (d_:SDesc) (r8:(List (List SItem))) (X1:(List SBranch)→Prop):Nat→(List SBranch)→Int→Prop
 | 0,_,_=>False
 | k_0+1,l13,i14=>((decide (i14<(r8.length:Int)))=true→∃e20:(List SItem),at? r8 i14=some e20∧∃r22:(List SBranch),n_ d_ e20 l13 r22∧(InR .i64 (i14+1))∧zc3.l1 n_ d_ r8 X1 k_0 r22 (i14+1))∧((decide (i14<(r8.length:Int)))=false→X1 l13)
def zc3.n:Nat→SDesc→(List SItem)→(List SBranch)→(List SBranch)→Prop
 | 0,_,_,_,_=>False
 | k_+1,d_,s_,l_,r_=>∃r2:Bool,znh d_ s_ r2∧((r2)=true→∃r4:(List SItem),zb9 ([]:(List SItem)) s_ r4∧∃r6:(List SBranch),zdd l_ r4 1 r6∧r_=r6)∧((r2)=false→∃r8:(List (List SItem)),zdc d_ s_ r8∧∃k15,zc3.l1 (zc3.n k_) d_ r8 (zc3.j1 r_) k15 l_ 0)
def zc3 (d_:SDesc) (s_:(List SItem)) (l_:(List SBranch)) (r_:(List SBranch)):Prop:=∃k_,zc3.n k_ d_ s_ l_ r_
def zhx (d_:SDesc) (s_:(List SItem)) (r_:(List SBranch)):Prop:=∃r1:(List SBranch),zc3 d_ s_ ([]:(List SBranch)) r1∧r_=r1
def zpl (d_:SDesc) (s_:(List SItem)) (cv_:Int) (r_:((List SItem) × Bool)):Prop:=((((s_.length:Int)==0))=true→r_=(([]:(List SItem)),false))∧((((s_.length:Int)==0))=false→((0:Int)≤1∧1≤(s_.length:Int))∧∃r7:((List SItem) × Bool),zby (s_.drop (1:Int).toNat) r7∧(((!r7.2))=true→r_=(([]:(List SItem)),false))∧(((!r7.2))=false→∃e13:SItem,at? s_ 0=some e13∧∃e17:SNode,at? d_ e13.2.1=some e17∧(((e13.1==3))=true→∃c30:Int,zd2 e17.2.2.2.2.2.2 e13.2.2.1=some c30∧(((c30 != cv_))=true→r_=(([]:(List SItem)),false))∧(((c30 != cv_))=false→(InR .i64 (e13.2.2.1+1))∧∃b35:Bool,b35=(decide (e13.2.2.1+1<(e17.2.2.2.2.2.2.length:Int)))∧((b35)=true→(InR .i64 (e13.2.2.1+1))∧([(3,e13.2.1,e13.2.2.1+1,0)].length+r7.1.length≤2147483648)∧r_=([(3,e13.2.1,e13.2.2.1+1,0)]++r7.1,true))∧((b35)=false→(([]:(List SItem)).length+r7.1.length≤2147483648)∧r_=(([]:(List SItem))++r7.1,true))))∧(((e13.1==3))=false→(((e13.1==4))=true→(InR .i64 (256*e13.2.2.1))∧(InR .i64 ((256*e13.2.2.1)+cv_))∧([(1,e17.2.1,0,0),(5,0,(256*e13.2.2.1)+cv_,0)].length+r7.1.length≤2147483648)∧r_=([(1,e17.2.1,0,0),(5,0,(256*e13.2.2.1)+cv_,0)]++r7.1,true))∧(((e13.1==4))=false→(((e17.1==8))=true→([(1,e17.2.1,0,0),(5,0,cv_,0)].length+r7.1.length≤2147483648)∧r_=([(1,e17.2.1,0,0),(5,0,cv_,0)]++r7.1,true))∧(((e17.1==8))=false→(((e17.1==9))=true→([(4,e13.2.1,cv_,0)].length+r7.1.length≤2147483648)∧r_=([(4,e13.2.1,cv_,0)]++r7.1,true))∧(((e17.1==9))=false→∃r75:Bool,ze1 e17.2.2.2.2.2.1 cv_ r75∧(((!r75))=true→r_=(([]:(List SItem)),false))∧(((!r75))=false→(([]:(List SItem)).length+r7.1.length≤2147483648)∧r_=(([]:(List SItem))++r7.1,true))))))))
def zem.j1 (r_:(List SBranch)) (out8:(List SBranch)):Prop:=r_=out8
def zem.l1 (d_:SDesc) (cv_:Int) (r3:(List SBranch)) (X1:(List SBranch)→Prop):Nat→(List SBranch)→Int→Prop
 | 0,_,_=>False
 | k_0+1,out12,i14=>((decide (i14<(r3.length:Int)))=true→∃e22:SBranch,at? r3 i14=some e22∧∃r24:((List SItem) × Bool),zpl d_ e22.1 cv_ r24∧((r24.2)=true→∃e29:SBranch,at? r3 i14=some e29∧∃r31:(List SBranch),zdd out12 r24.1 e29.2 r31∧(InR .i64 (i14+1))∧zem.l1 d_ cv_ r3 X1 k_0 r31 (i14+1))∧((r24.2)=false→(InR .i64 (i14+1))∧zem.l1 d_ cv_ r3 X1 k_0 out12 (i14+1)))∧((decide (i14<(r3.length:Int)))=false→X1 out12)
def zem (d_:SDesc) (s_:(List SItem)) (cv_:Int) (r_:(List SBranch)):Prop:=∃r3:(List SBranch),zhx d_ s_ r3∧∃k15,zem.l1 d_ cv_ r3 (zem.j1 r_) k15 ([]:(List SBranch)) 0
def zbb.j1 (r_:(List Cl)) (out8:(List Cl)):Prop:=r_=out8
def zbb.j2 (L1_:(List Cl)→Int→Prop) (i14:Int) (out54:(List Cl)):Prop:=(InR .i64 (i14+1))∧L1_ out54 (i14+1)
def zbb.l2 (X2:(List Cl)→Prop):Nat→(List Cl)→Int→Prop
 | 0,_,_=>False
 | k_0+1,out58,c60=>((decide (c60<256))=true→∃r67:Cl,ze0 (c60 % 256) (c60 % 256) r67∧(out58.length+[r67].length≤2147483648)∧(InR .i64 (c60+1))∧zbb.l2 X2 k_0 (out58++[r67]) (c60+1))∧((decide (c60<256))=false→X2 out58)
def zbb.l1 (d_:SDesc) (r3:(List SBranch)) (X1:(List Cl)→Prop):Nat→(List Cl)→Int→Prop
 | 0,_,_=>False
 | k_0+1,out12,i14=>((decide (i14<(r3.length:Int)))=true→∃e23:SBranch,at? r3 i14=some e23∧((((e23.1.length:Int)==0))=true→(InR .i64 (i14+1))∧zbb.l1 d_ r3 X1 k_0 out12 (i14+1))∧((((e23.1.length:Int)==0))=false→∃e27:SBranch,at? r3 i14=some e27∧∃e29:SItem,at? e27.1 0=some e29∧∃e34:SNode,at? d_ e29.2.1=some e34∧(((e29.1==3))=true→∃c40:Int,zd2 e34.2.2.2.2.2.2 e29.2.2.1=some c40∧∃c42:Int,zd2 e34.2.2.2.2.2.2 e29.2.2.1=some c42∧∃r44:Cl,ze0 c40 c42 r44∧(out12.length+[r44].length≤2147483648)∧(InR .i64 (i14+1))∧zbb.l1 d_ r3 X1 k_0 (out12++[r44]) (i14+1))∧(((e29.1==3))=false→((((e29.1==1)&&(e34.1==2)))=true→(out12.length+[e34.2.2.2.2.2.1].length≤2147483648)∧(InR .i64 (i14+1))∧zbb.l1 d_ r3 X1 k_0 (out12++[e34.2.2.2.2.2.1]) (i14+1))∧((((e29.1==1)&&(e34.1==2)))=false→∃k61,zbb.l2 (zbb.j2 (zbb.l1 d_ r3 X1 k_0) i14) k61 out12 0))))∧((decide (i14<(r3.length:Int)))=false→X1 out12)
def zbb (d_:SDesc) (s_:(List SItem)) (r_:(List Cl)):Prop:=∃r3:(List SBranch),zhx d_ s_ r3∧∃k15,zbb.l1 d_ r3 (zbb.j1 r_) k15 ([]:(List Cl)) 0
def zd9.j1 (r_:Int):Prop:=r_=0
def zd9.l1 (r3:(List SBranch)) (r_:Int) (X1:Prop):Nat→Int→Prop
 | 0,_=>False
 | k_0+1,i9=>((decide (i9<(r3.length:Int)))=true→∃e17:SBranch,at? r3 i9=some e17∧((((e17.1.length:Int)==0))=true→∃e20:SBranch,at? r3 i9=some e20∧r_=e20.2)∧((((e17.1.length:Int)==0))=false→(InR .i64 (i9+1))∧zd9.l1 r3 r_ X1 k_0 (i9+1)))∧((decide (i9<(r3.length:Int)))=false→X1)
def zd9 (d_:SDesc) (s_:(List SItem)) (r_:Int):Prop:=∃r3:(List SBranch),zhx d_ s_ r3∧∃k10,zd9.l1 r3 r_ (zd9.j1 r_) k10 0
theorem dt {p:Prop} [Decidable p] (h:decide p=true):p:=of_decide_eq_true h
theorem df {p:Prop} [Decidable p] (h:decide p=false):¬ p:=of_decide_eq_false h
theorem zha {σ:Type} {P:Nat→σ→Int→Prop} (n:Nat) (I:Nat→σ→Prop)
  (hs:∀i s,i<n→I i s→(∀k,P (k+1) s (i:Int))∨∃s',I (i+1) s'∧∀k,P k s' ((i:Int)+1)→P (k+1) s (i:Int))
  (hx:∀s,I n s→∀k,P (k+1) s (n:Int)) (s:σ) (h:I 0 s):∃k,P k s 0:=by
 have:∀m i s,i+m=n→I i s→∃k,P k s (i:Int):=by
  intro m
  induction m with
  | zero=>intro i s hi hI;have:i=n:=by omega
          subst this;exact ⟨1,hx s hI 0⟩
  | succ m ih=>
   intro i s hi hI;rcases hs i s (by omega) hI with h | ⟨s',h1,h2⟩
   ·exact ⟨1,h 0⟩
   ·obtain ⟨k,hk⟩:=ih (i+1) s' (by omega) h1;exact ⟨k+1,h2 k (by simpa using hk)⟩
 simpa using this n 0 s (by omega) h
theorem run {σ:Type} {P:Nat→σ→Prop} (I:σ→Prop) (μ:σ→Nat) (h:∀s,I s→(∀k,P (k+1) s)∨∃s',I s'∧μ s' < μ s∧∀k,P k s'→P (k+1) s) (s:σ) (hI:I s):∃k,P k s:=by
 have:∀m s,μ s<m→I s→∃k,P k s:=by
  intro m
  induction m with
  | zero=>intro s hs;omega
  | succ m ih=>
   intro s hs hI;rcases h s hI with h1 | ⟨s',h1,h2,h3⟩
   ·exact ⟨1,h1 0⟩
   ·obtain ⟨k,hk⟩:=ih s' (by omega) h1;exact ⟨k+1,h3 k hk⟩
 exact this (μ s+1) s (by omega) hI
theorem zi {x:Int} (h1:-9223372036854775808≤x) (h2:x≤9223372036854775807):InR .i64 x:=zgo.2 ⟨h1,h2⟩
theorem zbv {α:Type} {xs:List α} {i:Nat}:at? xs (i:Int)=xs[i]?:=by
 unfold at?;rw [if_pos (by omega)];simp
def Cl.put (a:Cl) (n:Nat):Cl:=a ||| BitVec.twoPow 256 n
theorem has_put {a:Cl} {n m:Nat} (hn:n<256):(a.put n).has m=(a.has m||decide (n=m)):=by
 unfold Cl.put Cl.has;rw [BitVec.getLsbD_or,BitVec.getLsbD_twoPow];simp [hn]
theorem zj6 {a b:Cl} {m:Nat}:(a &&& b).has m=(a.has m&&b.has m):=BitVec.getLsbD_and
theorem zn7 {a:Cl} {m:Nat} (h:m<256):(~~~ a).has m = !a.has m:=by
 unfold Cl.has;rw [BitVec.getLsbD_not];simp [h]
theorem has_zero {m:Nat}:Cl.has (0#256) m=false:=by simp [Cl.has]
theorem w_nat (a:Cl) (i:Int):(Cl.w a i).toNat=a.word i.toNat:=by simp [Cl.w]
theorem has_w {a:Cl} {n:Nat} (h:n<256):a.has n=(a.word (n / 64)).testBit (n % 64):=by
 rw [Cl.word_bit];simp [Nat.mod_lt,Nat.div_add_mod]
theorem znc {a:Cl} {i:Nat} {v:Int} (hv:v.toNat<2 ^ 64) (j:Nat) (hj:j<4):(a.setw (i:Int) v).word j=if j=i then v.toNat else a.word j:=by
 unfold Cl.setw;have hw:∀k,a.word k<2 ^ 64:=a.word_lt;have hb:∀(c:Prop) [Decidable c] (k:Nat),(if c then v.toNat else a.word k)<2 ^ 64:=fun c _ k=>by split <;> simp_all
 obtain ⟨h0,h1,h2,h3⟩:=Cl.ofWords_word (hb ((i:Int)=0) 0) (hb ((i:Int)=1) 1) (hb ((i:Int)=2) 2) (hb ((i:Int)=3) 3)
 match j,hj with
 | 0,_=>rw [h0];split <;> split <;> first | rfl | omega
 | 1,_=>rw [h1];split <;> split <;> first | rfl | omega
 | 2,_=>rw [h2];split <;> split <;> first | rfl | omega
 | 3,_=>rw [h3];split <;> split <;> first | rfl | omega
theorem has_setw {a:Cl} {i:Nat} {v:Int} (hv:v.toNat<2 ^ 64) {n:Nat} (hn:n<256):(a.setw (i:Int) v).has n=if n / 64=i then v.toNat.testBit (n % 64) else a.has n:=by
 rw [has_w hn,znc hv _ (by omega),has_w hn];split <;> rfl
theorem shr_bit {w k:Nat} (hk:k<64):(andI (zpj (w:Int) (k:Int)) 1==1)=w.testBit k:=by
 unfold andI zpj;rw [show min ((k:Int)).toNat 64=k by simp;omega];have h:((w:Int) / 2 ^ k).toNat=w / 2 ^ k:=by
  rw [show ((2:Int) ^ k)=((2 ^ k:Nat):Int) by simp,← Int.natCast_ediv];exact Int.toNat_natCast _
 rw [h];simp only [Int.toNat_one,Nat.and_one_is_mod,Nat.testBit_eq_decide_div_mod_eq];have:=Nat.mod_two_eq_zero_or_one (w / 2 ^ k);rcases this with h | h <;> rw [h] <;> rfl
theorem shl_one {k:Nat} (hk:k<64):shlI 1 (k:Int)=((2 ^ k:Nat):Int):=by
 unfold shlI;rw [show min ((k:Int)).toNat 64=k by simp;omega,Int.one_mul];have:2 ^ k<2 ^ 64:=Nat.pow_lt_pow_right (by omega) hk;rw [show ((2:Int) ^ k)=((2 ^ k:Nat):Int) by simp];generalize 2 ^ k=q at *;omega
theorem put_words {a:Cl} {n:Nat} (hn:n<256):a.setw ((n / 64:Nat):Int) (orI (Cl.w a ((n / 64:Nat):Int)) (shlI 1 ((n % 64:Nat):Int)))=a.put n:=by
 apply Cl.ext;intro c hc;have hlt:(orI (Cl.w a ((n / 64:Nat):Int)) (shlI 1 ((n % 64:Nat):Int))).toNat=a.word (n / 64) ||| 2 ^ (n % 64):=by
  rw [shl_one (Nat.mod_lt _ (by omega))];unfold orI;rw [w_nat,Int.toNat_natCast,Int.toNat_natCast,Int.toNat_natCast]
 have hb:a.word (n / 64) ||| 2 ^ (n % 64)<2 ^ 64:=Nat.or_lt_two_pow (a.word_lt _) (Nat.pow_lt_pow_right (by omega) (Nat.mod_lt _ (by omega)))
 rw [has_setw (by rw [hlt];exact hb) hc,hlt,has_put hn];split
 ·rename_i h
  rw [Nat.testBit_or,Nat.testBit_two_pow,← h,← has_w hc]
  congr 1
  apply decide_eq_decide.2;omega
 ·rename_i h
  rw [show decide (n=c)=false by simp;intro e;subst e;exact h rfl];simp
def Cl.row (f t:Int):Cl:=Cl.of fun n=>decide (f≤(n:Int))&&decide ((n:Int)≤t)
theorem zj5 {f t:Int} {n:Nat} (h:n<256):(Cl.row f t).has n=(decide (f≤(n:Int))&&decide ((n:Int)≤t)):=Cl.of_has _ h
def Cl.least (a:Cl):Int × Bool:=match (List.range 256).find? a.has with
 | some n=>((n:Int),true)
 | none=>(0,false)
def Cl.count (a:Cl):Nat:=(List.range 256).countP a.has
def Cl.addL (a:Cl) (l:List Int):Cl:=l.foldl (fun a c=>a.put c.toNat) a
theorem u8_of {c:Int} (h:InR .u8 c):∃n:Nat,n<256∧c=n:=by
 rw [zgy] at h;exact ⟨c.toNat,by omega,by omega⟩
theorem u8_nat {n:Nat} (h:n<256):InR .u8 (n:Int):=zgy.2 ⟨by omega,by omega⟩
theorem least_some {a:Cl} {n:Nat} (h:a.least=((n:Int),true)):n<256∧a.has n=true∧∀m,m<n→a.has m=false:=by
 unfold Cl.least at h;split at h
 ·rename_i k hk
  have e:k=n:=by have h2:=(Prod.mk.inj h).1;omega
  subst e;rw [List.find?_eq_some_iff_getElem] at hk;obtain ⟨h1,i,h2,h3,h4⟩:=hk;simp at h2 h3;subst h3;refine ⟨h2,h1,fun m hm=>?_⟩;have:=h4 m hm;simpa using this
 ·simp at h
theorem least_none {a:Cl} (h:a.least.2=false):∀m,m<256→a.has m=false:=by
 unfold Cl.least at h;split at h
 ·simp at h
 ·rename_i hk
  intro m hm;have:=List.find?_eq_none.1 hk m (by simpa using hm);simpa using this
theorem least_of {a:Cl} {n:Nat} (hn:n<256) (h1:a.has n=true) (h2:∀m,m<n→a.has m=false):a.least=((n:Int),true):=by
 have:(List.range 256).find? a.has=some n:=by
  rw [List.find?_eq_some_iff_getElem];exact ⟨h1,n,by simpa using hn,by simp,fun j hj=>by simp [h2 j hj]⟩
 simp [Cl.least,this]
theorem zh1 {a:Cl} (h:∀m,m<256→a.has m=false):a.least=(0,false):=by
 have:(List.range 256).find? a.has=none:=by
  rw [List.find?_eq_none];intro m hm;simp [h m (by simpa using hm)]
 simp [Cl.least,this]
def Cl.ofL (l:List Bool):Cl:=Cl.of fun n=>l.getD n false
theorem has_ofL {l:List Bool} {n:Nat} (h:n<256):(Cl.ofL l).has n=l.getD n false:=Cl.of_has _ h
theorem dig10:∀d:Fin 10,(UInt8.ofNat (48+d.1)).toNat=48+d.1:=by decide
theorem zpv (u:Nat):∀c∈Lib.decDigits u,48≤c.toNat∧c.toNat≤57:=by
 induction u using Nat.strongRecOn with
 | ind u ih=>
  intro c hc;have hd:∀d,d<10→(UInt8.ofNat (48+d)).toNat=48+d:=fun d hd=>dig10 ⟨d,hd⟩;rw [Lib.decDigits] at hc;split at hc
  ·rename_i h
   rw [List.mem_singleton.1 hc,hd u h];omega
  ·rename_i h
   rcases List.mem_append.1 hc with hc | hc
   ·exact ih (u / 10) (by omega) c hc
   ·rw [List.mem_singleton.1 hc,hd _ (Nat.mod_lt _ (by omega))];omega
def valD (l:List UInt8):Nat:=l.foldl (fun a c=>10*a+(c.toNat-48)) 0
theorem zml (u:Nat):valD (Lib.decDigits u)=u:=by
 induction u using Nat.strongRecOn with
 | ind u ih=>
  have hd:∀d,d<10→(UInt8.ofNat (48+d)).toNat=48+d:=fun d hd=>dig10 ⟨d,hd⟩;rw [Lib.decDigits];split
  ·rename_i h
   simp only [valD,List.foldl_cons,List.foldl_nil,hd u h];omega
  ·rename_i h
   have:=ih (u / 10) (by omega);unfold valD at this ⊢;rw [List.foldl_append,this];simp only [List.foldl_cons,List.foldl_nil,hd _ (Nat.mod_lt u (show 10 > 0 by omega))];omega
theorem zpr (n:Int):∀c∈Lib.itoa n,c≠32:=by
 intro c hc he;subst he;unfold Lib.itoa at hc;split at hc
 ·rcases List.mem_cons.1 hc with h | h
  ·exact absurd h (by decide)
  ·have:=(zpv _ _ h).1;exact absurd this (by decide)
 ·have:=(zpv _ _ hc).1;exact absurd this (by decide)
theorem itoa_inj {n m:Int} (h:Lib.itoa n=Lib.itoa m):n=m:=by
 have no45:∀u (l:List UInt8),Lib.decDigits u≠45::l:=fun u l he=>by
  have:=(zpv u 45 (by rw [he];simp)).1;exact absurd this (by decide)
 unfold Lib.itoa at h;split at h <;> split at h
 ·have:=congrArg valD (List.cons.inj h).2;rw [zml,zml] at this;omega
 ·exact absurd h.symm (no45 _ _)
 ·exact absurd h (no45 _ _)
 ·have:=congrArg valD h;rw [zml,zml] at this;omega
theorem at_none {α:Type} {xs:List α} {i:Int} (h:i<0∨(xs.length:Int)≤i):at? xs i=none:=by
 unfold at?;split
 ·exact List.getElem?_eq_none (by omega)
 ·rfl
theorem zol {α:Type} {xs:List α} {i:Int} (h0:0≤i) (h1:i<(xs.length:Int)):∃x,at? xs i=some x∧x∈xs:=by
 refine ⟨xs[i.toNat]'(by omega), ?_,List.getElem_mem _⟩;unfold at?;rw [if_pos h0];exact List.getElem?_eq_getElem _
theorem uptoK {σ:Type} {P:Nat→σ→Int→Prop} (n:Nat) (I:Nat→σ→Prop)
  (hs:∀i s k,i<n→I i s→(∀s',I (i+1) s'→P k s' ((i:Int)+1))→P (k+1) s (i:Int))
  (hx:∀s,I n s→∀k,P (k+1) s (n:Int)) (s:σ) (h:I 0 s):∃k,P k s 0:=by
 have:∀m i s,i+m=n→I i s→P (m+1) s (i:Int):=by
  intro m
  induction m with
  | zero=>intro i s hi hI;have:i=n:=by omega
          subst this;exact hx s hI 0
  | succ m ih=>
   intro i s hi hI;exact hs i s (m+1) (by omega) hI fun s' h'=>by simpa using ih (i+1) s' (by omega) h'
 exact ⟨n+1,by simpa using this n 0 s (by omega) h⟩
theorem zq3 {κ ν:Type} [DecidableEq κ] (k:κ) (z:ν):zd6 ([]:List (κ × ν)) k z=z:=rfl
theorem zil {κ ν:Type} [DecidableEq κ] (p:κ × ν) (xs:List (κ × ν)) (k:κ) (z:ν):zd6 (p::xs) k z=if p.1=k then p.2 else zd6 xs k z:=by
 unfold zd6;rw [List.find?_cons]
 by_cases h:p.1=k
 ·subst h;simp
 ·have h':(p.1==k)=false:=by simpa using h
  rw [h',if_neg h]
theorem zn0 {κ ν:Type} [DecidableEq κ] (xs:List (κ × ν)) (k k':κ) (v z:ν):zd6 (zfv xs k v) k' z=if k=k' then v else zd6 xs k' z:=by
 have hmap:∀xs:List (κ × ν),zd6 (xs.map (fun p=>bif p.1==k then (k,v) else p)) k' z=if k=k' then (if zhh xs k=true then v else z) else zd6 xs k' z:=by
  intro xs
  induction xs with
  | nil=>simp [zq3,zhh]
  | cons p xs ih=>
   rw [List.map_cons,zil,ih,zil]
   by_cases hp:p.1=k
   ·subst hp
    by_cases hk:p.1=k' <;> simp [hk,zhh]
   ·have:(p.1==k)=false:=by simpa using hp
    rw [this]
    by_cases hk:k=k'
    ·subst hk;simp only [zhh,List.any_cons,this,Bool.false_or,cond_false,if_neg hp];rfl
    ·simp [hk]
 have happ:∀xs:List (κ × ν),zhh xs k=false→zd6 (xs++[(k,v)]) k' z=if k=k' then v else zd6 xs k' z:=by
  intro xs
  induction xs with
  | nil=>intro _;rw [List.nil_append,zil,zq3]
  | cons p xs ih=>
   intro h;simp only [zhh,List.any_cons,Bool.or_eq_false_iff] at h;rw [List.cons_append,zil,ih h.2,zil];have hp:p.1≠k:=by simpa using h.1
   by_cases hk:k=k'
   ·subst hk;simp [hp]
   ·simp [hk]
 unfold zfv;cases h:zhh xs k
 ·exact happ xs h
 ·rw [cond_true,hmap,h];simp
theorem zn4 (x y:Int) (a b:List Int):zhq (x::a) (y::b)=if sgnI x y≠0 then sgnI x y else zhq a b:=by
 unfold sgnI;rw [zhq]
 by_cases h1:x<y
 ·simp [h1]
 ·by_cases h2:y<x
  ·simp [h1,h2]
  ·simp [h1,h2]
theorem zdr (b:List Int):zhq [] b=0:=by cases b <;> rfl
theorem zg5 (a:List Int):zhq a []=0:=by cases a <;> rfl
theorem cmpItem_lex (x y:SItem):cmpItem x y=zhq (zc4 x) (zc4 y):=by
 unfold cmpItem zc4;simp only [zn4,zrj,zdr]
theorem lexI_app {a b:List Int} (h:a.length=b.length) (u v:List Int):zhq (a++u) (b++v)=if zhq a b≠0 then zhq a b else zhq u v:=by
 induction a generalizing b with
 | nil=>
  cases b with
  | nil=>simp [zdr]
  | cons y b=>simp at h
 | cons x a ih=>
  cases b with
  | nil=>simp at h
  | cons y b=>
   simp only [List.cons_append,zn4];rw [ih (by simpa using h)];split <;> simp_all
theorem lexI_self (a:List Int):zhq a a=0:=by
 induction a with
 | nil=>rfl
 | cons x a ih=>rw [zhq,if_neg (by omega),if_neg (by omega),ih]
theorem lexI_anti (a b:List Int):zhq b a = -zhq a b:=by
 induction a generalizing b with
 | nil=>rw [zdr,zg5];rfl
 | cons x a ih=>
  cases b with
  | nil=>rw [zdr,zg5];rfl
  | cons y b=>
   rw [zhq,zhq]
   by_cases h1:x<y
   ·rw [if_neg (by omega),if_pos h1,if_pos h1];rfl
   ·by_cases h2:y<x
    ·rw [if_pos h2,if_neg h1,if_pos h2]
    ·rw [if_neg h2,if_neg h1,if_neg h1,if_neg h2,ih]
theorem lexI_zero {a b:List Int} (hl:a.length=b.length) (h:zhq a b=0):a=b:=by
 induction a generalizing b with
 | nil=>cases b with
  | nil=>rfl
  | cons y b=>simp at hl
 | cons x a ih=>
  cases b with
  | nil=>simp at hl
  | cons y b=>
   rw [zhq] at h
   by_cases h1:x<y
   ·rw [if_pos h1] at h;cases h
   ·by_cases h2:y<x
    ·rw [if_neg h1,if_pos h2] at h;cases h
    ·rw [if_neg h1,if_neg h2] at h;rw [ih (by simpa using hl) h,show x=y by omega]
theorem lexI_trans {a b c:List Int} (h1:a.length=b.length) (h2:b.length=c.length) (h:zhq a b<0) (k:zhq b c<0):zhq a c<0:=by
 induction a generalizing b c with
 | nil=>rw [zdr] at h;omega
 | cons x a ih=>
  cases b with
  | nil=>simp at h1
  | cons y b=>
   cases c with
   | nil=>simp at h2
   | cons z c=>
    rw [zhq] at h k ⊢
    by_cases e1:x<y
    ·by_cases e2:y<z
     ·rw [if_pos (by omega)];omega
     ·by_cases e3:z<y
      ·rw [if_neg e2,if_pos e3] at k;omega
      ·rw [if_pos (by omega)];omega
    ·by_cases e2:y<x
     ·rw [if_neg e1,if_pos e2] at h;omega
     ·rw [if_neg e1,if_neg e2] at h
      by_cases e3:y<z
      ·rw [if_pos (by omega)];omega
      ·by_cases e4:z<y
       ·rw [if_neg e3,if_pos e4] at k;omega
       ·rw [if_neg e3,if_neg e4] at k;rw [if_neg (by omega),if_neg (by omega)];exact ih (by simpa using h1) (by simpa using h2) h k
theorem zff (x:SItem) (s:List SItem):zej (x::s)=zc4 x++zej s:=by simp [zej]
theorem zdq (l:List SItem):(zej l).length=4*l.length:=by
 induction l with
 | nil=>rfl
 | cons x l ih=>rw [zff,List.length_append,ih];simp [zc4];omega
theorem numsS_inj {s t:List SItem} (h:zej s=zej t):s=t:=by
 induction s generalizing t with
 | nil=>
  cases t with
  | nil=>rfl
  | cons y t=>rw [zff] at h;simp [zej,zc4] at h
 | cons x s ih=>
  cases t with
  | nil=>rw [zff] at h;simp [zej,zc4] at h
  | cons y t=>
   rw [zff,zff] at h;obtain ⟨x1,x2,x3,x4⟩:=x;obtain ⟨y1,y2,y3,y4⟩:=y;simp only [zc4,List.cons_append,List.nil_append,List.cons.injEq] at h;obtain ⟨rfl,rfl,rfl,rfl,h⟩:=h;rw [ih h]
theorem zd8 {a b:List SItem}:zek a b=0↔a=b:=by
 constructor
 ·intro h;unfold zek numsL at h;rw [zhq] at h
  by_cases h1:(a.length:Int)<(b.length:Int)
  ·rw [if_pos h1] at h;cases h
  ·by_cases h2:(b.length:Int)<(a.length:Int)
   ·rw [if_neg h1,if_pos h2] at h;cases h
   ·rw [if_neg h1,if_neg h2] at h;exact numsS_inj (lexI_zero (by rw [zdq,zdq];omega) h)
 ·rintro rfl;exact lexI_self _
theorem zfy (a b:List SItem):zek b a = -zek a b:=lexI_anti _ _
theorem zga {a b c:List SItem} (h:zek a b<0) (k:zek b c<0):zek a c<0:=by
 unfold zek numsL at *;rw [zhq] at h k ⊢
 by_cases e1:(a.length:Int)<(b.length:Int)
 ·by_cases e2:(b.length:Int)<(c.length:Int)
  ·rw [if_pos (by omega)];omega
  ·by_cases e3:(c.length:Int)<(b.length:Int)
   ·rw [if_neg e2,if_pos e3] at k;omega
   ·rw [if_pos (by omega)];omega
 ·by_cases e2:(b.length:Int)<(a.length:Int)
  ·rw [if_neg e1,if_pos e2] at h;omega
  ·rw [if_neg e1,if_neg e2] at h
   by_cases e3:(b.length:Int)<(c.length:Int)
   ·rw [if_pos (by omega)];omega
   ·by_cases e4:(c.length:Int)<(b.length:Int)
    ·rw [if_neg e3,if_pos e4] at k;omega
    ·rw [if_neg e3,if_neg e4] at k;rw [if_neg (by omega),if_neg (by omega)];exact lexI_trans (by rw [zdq,zdq];omega) (by rw [zdq,zdq];omega) h k
theorem cut32 {a b:List UInt8} (ha:∀c∈a,c≠32) (hb:∀c∈b,c≠32) {u v:List UInt8} (h:a++32::u=b++32::v):a=b∧u=v:=by
 induction a generalizing b with
 | nil=>
  cases b with
  | nil=>exact ⟨rfl,(List.cons.inj h).2⟩
  | cons y b=>exact absurd (List.cons.inj h).1.symm (hb y (by simp))
 | cons x a ih=>
  cases b with
  | nil=>exact absurd (List.cons.inj h).1 (ha x (by simp))
  | cons y b=>
   obtain ⟨h1,h2⟩:=List.cons.inj h;obtain ⟨h3,h4⟩:=ih (fun c hc=>ha c (by simp [hc])) (fun c hc=>hb c (by simp [hc])) h2;exact ⟨by rw [h1,h3],h4⟩
theorem zhl (z:Int) (l:List Int):zjm (z::l)=Lib.itoa z++32::zjm l:=by simp [zjm]
theorem keyN_inj {l m:List Int} (h:zjm l=zjm m):l=m:=by
 induction l generalizing m with
 | nil=>
  cases m with
  | nil=>rfl
  | cons y m=>rw [zhl] at h;simp [zjm] at h
 | cons z l ih=>
  cases m with
  | nil=>rw [zhl] at h;simp [zjm] at h
  | cons y m=>
   rw [zhl,zhl] at h;obtain ⟨h1,h2⟩:=cut32 (zpr z) (zpr y) h;rw [itoa_inj h1,ih h2]
theorem zf4 {s t:List SItem}:keyS s=keyS t↔s=t:=⟨fun h=>numsS_inj (keyN_inj h),fun h=>by rw [h]⟩
def badI (x:SItem):Bool:=x.1==5&&decide (x.2.2.1≤0)
def zig (x:SItem):SItem:=if x.1=5 then (x.1,x.2.1,x.2.2.1-1,x.2.2.2) else x
def zdu (s:List SItem):List SItem × Bool:=if s.any badI=true then ([],false) else (s.map zig,true)
theorem zn1 {α β:Type} {f g:α→Option β} (h:∀a b,f a=some b→g a=some b):∀(l:List α) (r:List β),l.mapM f=some r→l.mapM g=some r
 | [],r,hr=>by simpa using hr
 | a::l,r,hr=>by
  rw [List.mapM_cons] at hr ⊢;cases ha:f a with
  | none=>rw [ha] at hr;simp at hr
  | some b=>
   rw [ha] at hr;cases hl:l.mapM f with
   | none=>rw [hl] at hr;simp at hr
   | some bs=>
    rw [hl] at hr;rw [h a b ha,zn1 h l bs hl];exact hr
theorem lv_mono1 (d:List SNode):∀(h:Nat) (s:List SItem) (l:List (List SItem)),lv d h s=some l→lv d (h+1) s=some l
 | 0,_,_,hl=>by simp [lv] at hl
 | h+1,s,l,hl=>by
  unfold lv at hl ⊢
  by_cases hr:rdy d s=true
  ·rw [if_pos hr] at hl ⊢;exact hl
  ·rw [if_neg hr] at hl ⊢;obtain ⟨ls,h1,h2⟩:=Option.map_eq_some_iff.1 hl;rw [zn1 (lv_mono1 d h) _ _ h1,← h2];rfl
theorem zim {d:List SNode} {h h':Nat} (hh:h≤h') {s:List SItem} {l:List (List SItem)} (hl:lv d h s=some l):lv d h' s=some l:=by
 obtain ⟨k,rfl⟩:∃k,h'=h+k:=⟨h' - h,by omega⟩;clear hh
 induction k with
 | zero=>exact hl
 | succ k ih=>exact lv_mono1 d (h+k) s l ih
theorem nzL_aux (d:List SNode):∀(l:List Bool),(d.foldl (fun l n=>l++[nzN l n]) l).length=l.length+d.length∧l <+: d.foldl (fun l n=>l++[nzN l n]) l:=by
 induction d with
 | nil=>intro l;exact ⟨by simp,List.prefix_refl _⟩
 | cons n d ih=>
  intro l;obtain ⟨h1,h2⟩:=ih (l++[nzN l n]);exact ⟨by rw [List.foldl_cons,h1];simp;omega,(List.prefix_append _ _).trans h2⟩
theorem nzL_at {d:List SNode} {i:Nat} {n:SNode} (h:d[i]?=some n):(nzL d)[i]?=some (nzN ((nzL d).take i) n):=by
 have hi:=(List.getElem?_eq_some_iff.1 h).1;have hd:d=d.take i++n::d.drop (i+1):=by
  have hn:d[i]=n:=by rw [List.getElem?_eq_getElem hi] at h;exact Option.some.inj h
  rw [← hn,List.getElem_cons_drop,List.take_append_drop]
 have e:nzL d=(d.drop (i+1)).foldl (fun l n=>l++[nzN l n]) (nzL (d.take i)++[nzN (nzL (d.take i)) n]):=by
  unfold nzL
  conv=>lhs;rw [hd]
  rw [List.foldl_append,List.foldl_cons]
 have hl:(nzL (d.take i)).length=i:=by
  have:=(nzL_aux (d.take i) []).1;unfold nzL;rw [this];simp;omega
 have hp:=(nzL_aux (d.drop (i+1)) (nzL (d.take i)++[nzN (nzL (d.take i)) n])).2;rw [← e] at hp;obtain ⟨r,hr⟩:=hp;have ht:(nzL d).take i=nzL (d.take i):=by rw [← hr,List.append_assoc,List.take_append_of_le_length (by omega),List.take_of_length_le (by omega)]
 rw [ht,← hr,List.append_assoc,List.getElem?_append_right (by omega),hl];simp
theorem zg8 {α:Type} {l:List α} {i:Nat} {k:Int} (h0:0≤k) (h1:k<(i:Int)):at? (l.take i) k=at? l k:=by
 unfold at?;rw [if_pos h0,if_pos h0,List.getElem?_take,if_pos (by omega)]
theorem zok {α:Type} {l:List α} {i:Int} {x:α} (h:at? l i=some x):∃k:Nat,i=(k:Int)∧l[k]?=some x:=by
 unfold at? at h;split at h
 ·exact ⟨i.toNat,by omega,h⟩
 ·cases h
theorem nz_at {d:List SNode} (hd:ROk d) {i:Int} {n:SNode} (h:at? d i=some n):nz d i =
  (if n.1=1 then true else if n.1=4 then nz d n.2.1&&nz d n.2.2.1 else if n.1=5 then nz d n.2.1||nz d n.2.2.1 else if n.1=6 then true else if n.1=7 then decide (n.2.2.2.1=0) else false):=by
 obtain ⟨k,rfl,hk⟩:=zok h;have e:=nzL_at hk;have e2:nz d (k:Int)=nzN ((nzL d).take k) n:=by unfold nz;rw [zbv,e];rfl
 rw [e2];unfold nzN
 by_cases h1:n.1=1
 ·simp [h1]
 ·by_cases h4:n.1=4
  ·obtain ⟨⟨a,b⟩,c,e⟩:=hd.two _ n h (.inl h4);rw [if_neg h1,if_pos h4,if_neg h1,if_pos h4,zg8 a b,zg8 c e];rfl
  ·by_cases h5:n.1=5
   ·obtain ⟨⟨a,b⟩,c,e⟩:=hd.two _ n h (.inr h5);rw [if_neg h1,if_neg h4,if_pos h5,if_neg h1,if_neg h4,if_pos h5,zg8 a b,zg8 c e];rfl
   ·by_cases h6:n.1=6
    ·simp [h6]
    ·by_cases h7:n.1=7
     ·obtain ⟨a,b⟩:=hd.one _ n h (.inr (.inl h7));have:=hd.nn _ n h (.inr h7);unfold nz at this;rw [if_neg h1,if_neg h4,if_neg h5,if_neg h6,if_pos h7,if_neg h1,if_neg h4,if_neg h5,if_neg h6,if_pos h7,zg8 a b,this,Bool.or_false]
     ·simp [h1,h4,h5,h6,h7]
theorem ziu (a:List SItem):zek a a=0:=zd8.2 rfl
theorem zg0 {a:List SItem} (h:zek a a<0):False:=by rw [ziu] at h;omega
theorem Can.nil:Can (fun _=>0) []:=⟨List.Pairwise.nil,by simp⟩
theorem sat_ne {a b:Nat} (h:sat a=sat b):(a≠0↔b≠0):=by unfold sat at h;omega
theorem Can.congr {f g:List SItem→Nat} {B:List SBranch} (h:Can f B) (e:∀t,sat (f t)=sat (g t)):Can g B:=
 ⟨h.srt,fun t m=>by rw [h.mem,sat_ne (e t),e t]⟩
theorem zka:∀{B C:List SBranch},B.Pairwise (fun a b=>zek a.1 b.1<0)→C.Pairwise (fun a b=>zek a.1 b.1<0)→(∀x,x∈B↔x∈C)→B=C
 | [],[],_,_,_=>rfl
 | [],c::C,_,_,h=>by have:=(h c).2 (by simp);cases this
 | b::B,[],_,_,h=>by have:=(h b).1 (by simp);cases this
 | b::B,c::C,hB,hC,h=>by
  rw [List.pairwise_cons] at hB hC;have e:b=c:=by
   rcases List.mem_cons.1 ((h b).1 (by simp)) with e | hb
   ·exact e
   ·rcases List.mem_cons.1 ((h c).2 (by simp)) with e | hc
    ·exact e.symm
    ·exact (zg0 (zga (hB.1 c hc) (hC.1 b hb))).elim
  subst e
  congr 1
  refine zka hB.2 hC.2 fun x=>⟨fun hx=>?_,fun hx=>?_⟩
  ·rcases List.mem_cons.1 ((h x).1 (by simp [hx])) with e | hh
   ·subst e;exact (zg0 (hB.1 _ hx)).elim
   ·exact hh
  ·rcases List.mem_cons.1 ((h x).2 (by simp [hx])) with e | hh
   ·subst e;exact (zg0 (hC.1 _ hx)).elim
   ·exact hh
theorem Can.uniq {f:List SItem→Nat} {B C:List SBranch} (hB:Can f B) (hC:Can f C):B=C:=zka hB.srt hC.srt fun ⟨t,m⟩=>by rw [hB.mem,hC.mem]
theorem Can.keys {f:List SItem→Nat} {B:List SBranch} (h:Can f B) (t:List SItem):t∈B.map (·.1)↔f t≠0:=by
 rw [List.mem_map];exact ⟨fun ⟨⟨t',m⟩,h1,h2⟩=>by subst h2;exact ((h.mem _ _).1 h1).1,fun h1=>⟨(t,sat (f t)),(h.mem _ _).2 ⟨h1,rfl⟩,rfl⟩⟩
theorem Can.nodup {f:List SItem→Nat} {B:List SBranch} (h:Can f B):(B.map (·.1)).Nodup:=by
 unfold List.Nodup;rw [List.pairwise_map];exact h.srt.imp fun {a b} hab e=>by rw [e] at hab;exact zg0 hab
theorem Can.many {f:List SItem→Nat} {B:List SBranch} (h:Can f B) {b:SBranch} (hb:b∈B):b.2=sat (f b.1)∧f b.1≠0∧1≤b.2∧b.2≤2:=by
 obtain ⟨h1,h2⟩:=(h.mem b.1 b.2).1 hb;exact ⟨h2,h1,by unfold sat at h2;omega,by unfold sat at h2;omega⟩
def zmc (s:List SItem) (many:Int):List SBranch→List SBranch
 | []=>[(s,many)]
 | b::l=>if zek s b.1=0 then (s,min 2 (b.2+many))::l else if zek s b.1<0 then (s,many)::b::l else b::zmc s many l
theorem addB_mem {s:List SItem} {many:Int}:∀{l:List SBranch} {x:SBranch},x∈zmc s many l→x.1=s∨x∈l
 | [],x,h=>by simp only [zmc,List.mem_singleton] at h;subst h;exact .inl rfl
 | b::l,x,h=>by
  unfold zmc at h;split at h
  ·rcases List.mem_cons.1 h with rfl | h
   ·exact .inl rfl
   ·exact .inr (by simp [h])
  ·split at h
   ·rcases List.mem_cons.1 h with rfl | h
    ·exact .inl rfl
    ·exact .inr h
   ·rcases List.mem_cons.1 h with rfl | h
    ·exact .inr (by simp)
    ·exact (addB_mem h).imp id fun h=>by simp [h]
theorem addB_len (s:List SItem) (many:Int) (l:List SBranch):(zmc s many l).length≤l.length+1:=by
 induction l with
 | nil=>simp [zmc]
 | cons b l ih=>unfold zmc;split;· simp
                split <;> simp;omega
theorem addB_srt {s:List SItem} {many:Int}:∀{l:List SBranch},l.Pairwise (fun a b=>zek a.1 b.1<0)→(zmc s many l).Pairwise (fun a b=>zek a.1 b.1<0)
 | [],_=>by simp [zmc]
 | b::l,h=>by
  rw [List.pairwise_cons] at h;unfold zmc;split
  ·rename_i h0
   have e:=zd8.1 h0;subst e;exact List.pairwise_cons.2 ⟨h.1,h.2⟩
  ·split
   ·rename_i h1
    refine List.pairwise_cons.2 ⟨fun c hc=>?_,List.pairwise_cons.2 h⟩;rcases List.mem_cons.1 hc with rfl | hc
    ·exact h1
    ·exact zga h1 (h.1 c hc)
   ·rename_i h0 h1
    refine List.pairwise_cons.2 ⟨fun c hc=>?_,addB_srt h.2⟩;rcases addB_mem hc with e | hc
    ·rw [e];have:=zfy s b.1;omega
    ·exact h.1 c hc
theorem addB_no {s:List SItem} {many:Int}:∀{l:List SBranch},(∀b∈l,b.1≠s)→l.Pairwise (fun a b=>zek a.1 b.1<0)→∀x,x∈zmc s many l↔x=(s,many)∨x∈l
 | [],_,_,x=>by simp [zmc]
 | b::l,hn,h,x=>by
  rw [List.pairwise_cons] at h;unfold zmc;rw [if_neg fun h0=>hn b (by simp) (zd8.1 h0).symm];split
  ·simp
  ·rw [List.mem_cons,addB_no (fun c hc=>hn c (by simp [hc])) h.2,List.mem_cons];constructor
   ·rintro (h | h | h) <;> simp [h]
   ·rintro (h | h | h) <;> simp [h]
theorem addB_yes {s:List SItem} {many m:Int}:∀{l:List SBranch},(s,m)∈l→l.Pairwise (fun a b=>zek a.1 b.1<0)→∀x,x∈zmc s many l↔x=(s,min 2 (m+many))∨(x∈l∧x.1≠s)
 | b::l,hm,h,x=>by
  rw [List.pairwise_cons] at h;unfold zmc
  by_cases hb:zek s b.1=0
  ·rw [if_pos hb];have e:=zd8.1 hb;have hbm:b=(s,m):=by
    rcases List.mem_cons.1 hm with e' | hm
    ·exact e'.symm
    ·have:=h.1 _ hm;rw [← e] at this;exact (zg0 this).elim
   subst hbm;rw [List.mem_cons,List.mem_cons];constructor
   ·rintro (h' | h')
    ·exact .inl h'
    ·refine .inr ⟨.inr h',fun e'=>?_⟩;have:=h.1 _ h';rw [e'] at this;exact zg0 this
   ·rintro (h' | ⟨h' | h',h''⟩)
    ·exact .inl h'
    ·subst h';exact absurd rfl h''
    ·exact .inr h'
  ·rw [if_neg hb];have hml:(s,m)∈l:=(List.mem_cons.1 hm).resolve_left fun e=>hb (by rw [← e];exact ziu _);have hlt:=h.1 _ hml;rw [if_neg fun h'=>by have:=zfy s b.1;have h2:zek b.1 s<0:=hlt;omega];rw [List.mem_cons,addB_yes hml h.2,List.mem_cons];have hne:b.1≠s:=fun e=>hb (by rw [e];exact ziu _);constructor
   ·rintro (h' | h' | ⟨h',h''⟩)
    ·subst h';exact .inr ⟨.inl rfl,hne⟩
    ·exact .inl h'
    ·exact .inr ⟨.inr h',h''⟩
   ·rintro (h' | ⟨h' | h',h''⟩)
    ·exact .inr (.inl h')
    ·exact .inl h'
    ·exact .inr (.inr ⟨h',h''⟩)
theorem Can.add {f:List SItem→Nat} {B:List SBranch} (h:Can f B) (s:List SItem) {n:Nat} (h1:n≠0):Can (fun t=>f t+if t=s then n else 0) (zmc s (sat n) B):=by
 refine ⟨addB_srt h.srt,fun t m=>?_⟩
 by_cases hs:f s=0
 ·rw [addB_no (fun b hb e=>by have:=(h.many hb).2.1;rw [e] at this;exact this hs) h.srt,h.mem,Prod.mk.injEq]
  by_cases ht:t=s
  ·subst ht;simp [hs,h1]
  ·simp [ht]
 ·rw [addB_yes ((h.mem s _).2 ⟨hs,rfl⟩) h.srt,h.mem,Prod.mk.injEq]
  by_cases ht:t=s
  ·subst ht;simp only [true_and,if_true,ne_eq,not_true_eq_false,and_false,or_false];have:min 2 (sat (f t)+sat n)=sat (f t+n):=by unfold sat;omega
   rw [this];exact ⟨fun e=>⟨by omega,e⟩,fun e=>e.2⟩
  ·simp [ht]
theorem zh0 {α:Type} [DecidableEq α]:∀{l U:List α},l.Nodup→(∀t∈l,t∈U)→l.length≤U.length
 | [],_,_,_=>Nat.zero_le _
 | x::l,U,hn,h=>by
  rw [List.nodup_cons] at hn;have hx:=h x (by simp);have:=zh0 (l:=l) (U:=U.erase x) hn.2 fun t ht=>(List.mem_erase_of_ne (fun e=>hn.1 (by rw [← e];exact ht))).2 (h t (by simp [ht]));rw [List.length_erase_of_mem hx] at this;have:=List.length_pos_of_mem hx;simp only [List.length_cons];omega
theorem zro {f:List SItem→Nat} {B:List SBranch} (h:Can f B) {U:List (List SItem)} (hU:∀t,f t≠0→t∈U):B.length≤U.length:=by
 have:(B.map (·.1)).length≤U.length:=zh0 h.nodup fun t ht=>hU t ((h.keys t).1 ht);simpa using this
theorem cmp_in {x y:Int}:zcs x y (sgnI x y):=by
 refine ⟨false,by simp [zed],false,by simp [zed],(fun h=>by cases h),fun _=>⟨(fun h=>by cases h),fun _=>⟨fun h=>?_,fun h=>⟨fun h2=>?_,fun h2=>?_⟩⟩⟩⟩
 ·unfold sgnI;rw [if_pos (dt h)]
 ·unfold sgnI;rw [if_neg (df h),if_pos (dt h2)]
 ·unfold sgnI;rw [if_neg (df h),if_neg (df h2)]
theorem or_in {l:List Int} (hl:l.length<1000000):zck l (zrj l):=by
 refine zha (P:=fun k (_:Unit) v=>zck.l1 l (zrj l) _ k v) l.length (fun i _=>zrj l=zrj (l.drop i)) ?_ ?_ () (by simp)
 ·intro i _ hi h;have hat:at? l (i:Int)=some l[i]:=by rw [zbv];simp [hi]
  rw [List.drop_eq_getElem_cons hi] at h
  by_cases hz:l[i]=0
  ·rw [zrj,if_neg (by simpa using hz)] at h;exact .inr ⟨(),h,fun k hk=>⟨fun _=>⟨_,hat,fun hb=>by simp [hz] at hb,fun _=>⟨zi (by omega) (by omega),hk⟩⟩,fun h=>absurd (by omega) (df h)⟩⟩
  ·rw [zrj,if_pos hz] at h;exact .inl fun k=>⟨fun _=>⟨_,hat,fun _=>h,fun hb=>by simp at hb;exact absurd hb hz⟩,fun h=>absurd (by omega) (df h)⟩
 ·intro _ h k;refine ⟨fun h=>absurd (dt h) (by omega),fun _=>?_⟩;rw [List.drop_length] at h;exact h
theorem cmp1_in {x y:SItem}:zdh x y (zhq (zc4 x) (zc4 y)):=by
 rw [← cmpItem_lex];exact ⟨_,cmp_in,_,cmp_in,_,cmp_in,_,cmp_in,_,or_in (by simp),rfl⟩
theorem cmpFunc_in {a b:List SItem} (hl:a.length=b.length) (hs:a.length≤1000):zf a b (fun q_=>zdh q_.1 q_.2.1 q_.2.2) (zhq (zej a) (zej b)):=by
 refine zha (P:=fun k (_:Unit) v=>zf.l1 a b (fun q_=>zdh q_.1 q_.2.1 q_.2.2) (zhq (zej a) (zej b)) _ k v) a.length (fun i _=>zhq (zej a) (zej b)=zhq (zej (a.drop i)) (zej (b.drop i))) ?_ ?_ () (by simp)
 ·intro i _ hi h;have ha:at? a (i:Int)=some a[i]:=by rw [zbv];simp [hi]
  have hb:at? b (i:Int)=some (b[i]'(by omega)):=by rw [zbv];simp [show i<b.length by omega]
  rw [List.drop_eq_getElem_cons hi,List.drop_eq_getElem_cons (show i<b.length by omega),zff,zff,lexI_app (by simp [zc4])] at h
  by_cases hz:zhq (zc4 a[i]) (zc4 (b[i]'(by omega)))=0
  ·rw [if_neg (by simpa using hz)] at h;refine .inr ⟨(),h,fun k hk=>⟨fun _=>⟨_,ha,fun h2=>absurd (dt h2) (by omega),fun _=>⟨_,hb,zhq (zc4 a[i]) (zc4 (b[i]'(by omega))),cmp1_in,fun h3=>?_,fun _=>⟨zi (by omega) (by omega),hk⟩⟩⟩,fun h=>absurd (by omega) (df h)⟩⟩;rw [hz] at h3;simp at h3
  ·rw [if_pos hz] at h;refine .inl fun k=>⟨fun _=>⟨_,ha,fun h2=>absurd (dt h2) (by omega),fun _=>⟨_,hb,zhq (zc4 a[i]) (zc4 (b[i]'(by omega))),cmp1_in,fun _=>h,fun h3=>?_⟩⟩,fun h=>absurd (by omega) (df h)⟩;simp at h3;exact absurd h3 hz
 ·intro _ h k;refine ⟨fun h=>absurd (dt h) (by omega),fun _=>⟨fun h2=>absurd (dt h2) (by omega),fun _=>?_⟩⟩;rw [h,List.drop_length];exact zdr _
theorem zgn {a b:List SItem} (hs:a.length≤1000):zfw a b (zek a b):=by
 have e:zek a b=if sgnI (a.length:Int) (b.length:Int)≠0 then sgnI (a.length:Int) (b.length:Int) else zhq (zej a) (zej b):=by unfold zek numsL;rw [zn4]
 refine ⟨_,cmp_in,fun h=>?_,fun h=>?_⟩
 ·rw [e,if_pos (by simpa using h)]
 ·have h0:sgnI (a.length:Int) (b.length:Int)=0:=by simpa using h
  have hl:a.length=b.length:=by
   unfold sgnI at h0
   by_cases h1:(a.length:Int)<(b.length:Int)
   ·rw [if_pos h1] at h0;cases h0
   ·by_cases h2:(b.length:Int)<(a.length:Int)
    ·rw [if_neg h1,if_pos h2] at h0;cases h0
    ·omega
  refine ⟨_,cmpFunc_in hl hs, ?_⟩;rw [e,if_neg (by simpa using h0)]
theorem numsS_snoc (s:List SItem) (x:SItem):zej (s++[x])=zej s++zc4 x:=by simp [zej]
theorem zh9 {s:List SItem} (hs:s.length≤1000):zc0 s (numsL s):=by
 refine zha (P:=fun k (t:List Int) v=>zc0.l1 s _ k t v) s.length (fun i t=>t=(s.length:Int)::zej (s.take i)) ?_ ?_ _ (by simp [zej])
 ·rintro i t hi rfl;have hat:at? s (i:Int)=some s[i]:=by rw [zbv];simp [hi]
  have hl:=zdq (s.take i);simp only [List.length_take] at hl;refine .inr ⟨_,rfl,fun k h=>⟨fun _=>⟨_,hat,_,hat,_,hat,_,hat,by simp only [List.length_cons,List.length_nil];omega,zi (by omega) (by omega), ?_⟩,fun h=>absurd (by omega) (df h)⟩⟩;rw [List.take_succ_eq_append_getElem hi,numsS_snoc] at h;exact h
 ·rintro t rfl k;refine ⟨fun h=>absurd (dt h) (by omega),fun _=>?_⟩;rw [List.take_length];rfl
theorem zmh {a b:List SItem} (ha:a.length≤1000) (hb:b.length≤1000):zcm a b (zek a b):=by
 refine ⟨_,zh9 ha,_,zh9 hb, ?_⟩;have la:(numsL a).length≤4001:=by unfold numsL;rw [List.length_cons,zdq];omega
 show ∃k,zcm.l1 (numsL a) (numsL b) (zek a b) (zcm.j1 (zek a b)) k 0;unfold zek;generalize numsL a=X at *;generalize numsL b=Y at *;refine zha (P:=fun k (_:Unit) v=>zcm.l1 X Y (zhq X Y) _ k v) (min X.length Y.length) (fun i _=>zhq X Y=zhq (X.drop i) (Y.drop i)) ?_ ?_ () (by simp)
 ·intro i _ hi h;have hx:i<X.length:=by omega
  have hy:i<Y.length:=by omega
  have hax:at? X (i:Int)=some X[i]:=by rw [zbv];simp [hx]
  have hay:at? Y (i:Int)=some Y[i]:=by rw [zbv];simp [hy]
  have hb:(true:Bool)=((decide ((i:Int)<(X.length:Int)))&&(decide ((i:Int)<(Y.length:Int)))):=by simp;omega
  rw [List.drop_eq_getElem_cons hx,List.drop_eq_getElem_cons hy,zhq] at h
  by_cases h1:X[i] < Y[i]
  ·rw [if_pos h1] at h;exact .inl fun k=>⟨true,hb,fun _=>⟨_,hax,_,hay,fun _=>h,fun h2=>absurd h1 (df h2)⟩,(fun h=>by cases h)⟩
  ·by_cases h2:Y[i] < X[i]
   ·rw [if_neg h1,if_pos h2] at h;exact .inl fun k=>⟨true,hb,fun _=>⟨_,hax,_,hay,fun h3=>absurd (dt h3) h1,fun _=>⟨_,hax,_,hay,fun _=>h,fun h3=>absurd h2 (df h3)⟩⟩,(fun h=>by cases h)⟩
   ·rw [if_neg h1,if_neg h2] at h;exact .inr ⟨(),h,fun k hk=>⟨true,hb,fun _=>⟨_,hax,_,hay,fun h3=>absurd (dt h3) h1,fun _=>⟨_,hax,_,hay,fun h3=>absurd (dt h3) h2,fun _=>⟨zi (by omega) (by omega),hk⟩⟩⟩,(fun h=>by cases h)⟩⟩
 ·intro _ h k;refine ⟨false,by simp;omega,(fun h=>by cases h),fun _=>?_⟩;show zhq X Y=0;rw [h];rcases Nat.le_total X.length Y.length with hle | hle
  ·rw [Nat.min_eq_left hle,List.drop_length];exact zdr _
  ·rw [Nat.min_eq_right hle,List.drop_length];exact zg5 _
def ItR (x:SItem):Prop:=InR .i64 x.1∧InR .i64 x.2.1∧InR .i64 x.2.2.1∧InR .i64 x.2.2.2
theorem clone_in {s:List SItem} (hs:s.length≤1000):zb1 s s:=fun b hb=>⟨fun h=>hb h,fun _=>⟨by simp;omega,by simp⟩⟩
theorem zmx {s:List SItem} {i:Nat} (hi:i<s.length):(s.take (i+1)).any badI=((s.take i).any badI||badI s[i]):=by
 rw [List.take_succ_eq_append_getElem hi,List.any_append];simp
theorem any_of {s:List SItem} {i:Nat} (hi:i<s.length) (h:badI s[i]=true):s.any badI=true:=List.any_eq_true.2 ⟨_,List.getElem_mem hi,h⟩
theorem zn5 {s:List SItem} (hs:s.length≤1000):zkq s (keyS s):=⟨hs,rfl⟩
theorem at0 {α:Type} (x:α) (l:List α):at? (x::l) 0=some x:=rfl
theorem zpw {a b:List SItem} (ha:a.length≤100000) (hb:b.length≤100000):zg [a,b] (a++b):=by
 refine ⟨3,⟨fun _=>⟨a,rfl,zi (by omega) (by omega),fun h=>absurd (dt h) (by omega),fun _=>⟨zi (by omega) (by omega), ?_⟩⟩,fun h=>absurd h (by simp)⟩⟩;refine ⟨fun _=>⟨b,rfl,zi (by omega) (by omega),fun h=>absurd (dt h) (by omega),fun _=>⟨zi (by omega) (by omega), ?_⟩⟩,fun h=>absurd h (by simp)⟩;refine ⟨fun h=>absurd h (by simp),fun _=>?_⟩;refine ⟨[],⟨by omega,by omega,rfl⟩,3, ?_⟩;refine ⟨fun _=>⟨a,rfl,by simp;omega,zi (by omega) (by omega), ?_⟩,fun h=>absurd h (by simp)⟩;refine ⟨fun _=>⟨b,rfl,by simp;omega,zi (by omega) (by omega), ?_⟩,fun h=>absurd h (by simp)⟩;refine ⟨fun h=>absurd h (by simp),fun _=>?_⟩;show a++b=[]++a++b;simp
theorem with_in {rest list:List SItem} (ha:list.length≤100000) (hb:rest.length≤100000):zcf rest list (list++rest):=⟨_,zpw ha hb,rfl⟩
theorem zrq {rest list:List SItem} (ha:list.length≤100000) (hb:rest.length≤100000):zb9 list rest (list++rest):=⟨by simp;omega,by simp;omega,by simp⟩
theorem zde {d:List SNode} {x:SItem} {s:List SItem} (h:zds d (x::s)=true):zeo d x=true∧zds d s=true:=by simpa [zds] using h
theorem ze5 {d:List SNode} {x:SItem} (h:zeo d x=true) (h5:x.1≠5):∃n,at? d x.2.1=some n∧(x.1=1∨(x.1=2∧n.1=7)∨(x.1=3∧n.1=3)∨(x.1=4∧n.1=9)):=by
 unfold zeo at h;rw [if_neg h5] at h;cases hn:at? d x.2.1 with
 | none=>rw [hn] at h;cases h
 | some n=>
  rw [hn] at h;refine ⟨n,rfl, ?_⟩;simp only at h
  by_cases h1:x.1=1
  ·exact .inl h1
  ·rw [if_neg h1] at h
   by_cases h2:x.1=2
   ·rw [if_pos h2] at h;simp at h;exact .inr (.inl ⟨h2,h.1.1.1⟩)
   ·rw [if_neg h2] at h
    by_cases h3:x.1=3
    ·rw [if_pos h3] at h;simp at h;exact .inr (.inr (.inl ⟨h3,h.1.1.1⟩))
    ·rw [if_neg h3] at h
     by_cases h4:x.1=4
     ·rw [if_pos h4] at h;simp at h;exact .inr (.inr (.inr ⟨h4,h.1.1.1⟩))
     ·rw [if_neg h4] at h;cases h
theorem kinds9 {k:Int} (h:1≤k∧k≤9):k=1∨k=2∨k=3∨k=4∨k=5∨k=6∨k=7∨k=8∨k=9:=by omega
theorem zo1 {d:List SNode} (hd:ROk d) {s:List SItem} (hf:zds d s=true):zj4 d s (rdy d s):=by
 cases s with
 | nil=>exact ⟨fun _=>rfl,fun h=>absurd h (by simp)⟩
 | cons x s=>
  refine ⟨fun h=>absurd h (by simp;omega),fun _=>⟨x,at0 x s,fun h1=>?_,fun h1=>⟨fun h3=>⟨fun _=>by simp only [rdy,h3,Bool.true_or],fun h=>absurd h3 (by rw [h];simp)⟩,fun h3=>⟨fun h4=>by simp only [rdy,h4,Bool.true_or,Bool.or_true],fun h4=>by simp only [rdy,h1,h3,h4,Bool.false_and,Bool.or_false]⟩⟩⟩⟩;have e1:x.1=1:=by simpa using h1
  obtain ⟨n,hn,_⟩:=ze5 (zde hf).1 (by omega);have hk:=hd.kind _ n hn;refine ⟨n,hn,(n.1==2||n.1==8||n.1==9),fun _=>?_, ?_⟩
  ·rcases kinds9 hk with e | e | e | e | e | e | e | e | e <;> rw [e] <;> rfl
  ·simp only [rdy,hn,e1];have:decide (n.1<10)=true:=by simp;omega
   rw [this];simp
theorem zju {d:List SNode} {s:List SItem} (hf:zds d s=true) (hd0:∃n,at? d 0=some n):znh d s (rdy d s):=by
 cases s with
 | nil=>exact ⟨(0,0,0,0),fun h=>absurd h (by simp),(0,0,0,0),fun h=>absurd h (by simp),true,by simp,fun _=>rfl,fun h=>by cases h⟩
 | cons x s=>
  refine ⟨x,fun _=>at0 x s,x,fun _=>at0 x s,_,rfl,fun h=>?_,fun h=>?_⟩
  ·simp only [List.length_cons,Bool.or_eq_true,beq_iff_eq] at h;have:x.1=3∨x.1=4:=by omega
   rcases this with e | e <;> simp [rdy,e]
  ·simp only [List.length_cons,Bool.or_eq_false_iff] at h;have hnode:∃n,at? d x.2.1=some n:=by
    by_cases h5:x.1=5
    ·have:=(zde hf).1;unfold zeo at this;rw [if_pos h5] at this;simp at this;rw [this.1.1];exact hd0
    ·obtain ⟨n,hn,_⟩:=ze5 (zde hf).1 h5;exact ⟨n,hn⟩
   obtain ⟨n,hn⟩:=hnode;refine ⟨x,at0 x s,n,hn,x,at0 x s,_,rfl, ?_⟩;simp only [rdy,hn,h.1.2,h.2,Bool.false_or]
theorem opn_len {d:List SNode} (s:List SItem):(opn d s).length≤2:=by
 cases s with
 | nil=>simp [opn]
 | cons x s=>
  simp only [opn]
  by_cases h5:x.1=5
  ·rw [if_pos h5];split <;> simp
  ·rw [if_neg h5];cases at? d x.2.1 with
   | none=>simp
   | some n=>
    simp only
    by_cases h2:x.1=2
    ·rw [if_pos h2];split <;> split <;> simp
    ·rw [if_neg h2]
     by_cases h1:n.1=1
     ·simp [h1]
     ·by_cases h3:n.1=3
      ·simp [h3]
      ·by_cases h4:n.1=4
       ·simp [h4]
       ·by_cases h5:n.1=5
        ·simp [h5]
        ·by_cases h6:n.1=6
         ·simp [h6]
         ·simp [h1,h3,h4,h5,h6]
theorem zri {d:List SNode} (hd:ROk d) {s:List SItem} (hf:zds d s=true) (hr:rdy d s=false) (hl:s.length≤10000) (hd0:∃n,at? d 0=some n):zcw d s (opn d s):=by
 cases s with
 | nil=>simp [rdy] at hr
 | cons x s=>
  simp only [List.length_cons] at hl;have hdrop:(x::s).drop (1:Int).toNat=s:=rfl;have w0:zcf s [] s:=with_in (by simp) (by omega);have wl:∀l:List SItem,l.length≤2→zcf s l (l++s):=fun l h=>with_in (by omega) (by omega);have hx:=(zde hf).1
  by_cases h5:x.1=5
  ·obtain ⟨n0,hn0⟩:=hd0;have hx':=hx;unfold zeo at hx';rw [if_pos h5] at hx';simp at hx';refine ⟨x,at0 x s,⟨by omega,by simp;omega⟩,n0,by rw [hx'.1.1];exact hn0,fun h=>⟨s,w0, ?_⟩,fun h=>⟨fun _=>?_,fun h'=>absurd h' (by simp [h5])⟩⟩
   ·simp at h;simp [opn,h5,h.2]
   ·simp [h5] at h;simp [opn,h5,h]
  ·obtain ⟨n,hn,hk⟩:=ze5 hx h5;refine ⟨x,at0 x s,⟨by omega,by simp;omega⟩,n,hn,fun h=>absurd h (by simp [h5]),fun _=>⟨fun h=>absurd h (by simp [h5]),fun _=>⟨fun h2=>?_,fun h2=>?_⟩⟩⟩
   ·have e2:x.1=2:=by simpa using h2
    have hlo:0≤x.2.2.1∧x.2.2.1≤x.2.2.2∧x.2.2.2≤255:=by
     have hx':=hx;unfold zeo at hx';rw [if_neg h5,hn] at hx';simp [e2] at hx';have:=hd.rep _ n hn hx'.1.1.1;omega
    have hj:∀out:List (List SItem),out.length≤1→∀r,r=out++(if 0<x.2.2.2 then [(1,n.2.1,0,0)::(2,x.2.1,max (x.2.2.1-1) 0,x.2.2.2-1)::s] else [])→zcw.j2 (x::s) r x n out:=by
     intro out hout r hrr;refine ⟨fun h=>⟨(1,n.2.1,0,0),rfl,zi (by omega) (by omega),zi (by omega) (by omega),_,wl _ (by simp),by simp;omega, ?_⟩,fun h=>?_⟩
     ·have:0<x.2.2.2:=dt h;show r=_;rw [hrr,if_pos this,e2];rfl
     ·have:¬ 0<x.2.2.2:=df h;show r=_;rw [hrr,if_neg this,List.append_nil]
    refine ⟨fun h=>⟨s,w0,by simp,hj _ (by simp) _ ?_⟩,fun h=>hj _ (by simp) _ ?_⟩
    ·have e0:x.2.2.1=0:=by simpa using h
     simp [opn,hn,e2,e0]
    ·have e0:¬ x.2.2.1=0:=by simpa using h
     simp [opn,hn,e2,e0]
   ·have e2:¬ x.1=2:=by simpa using h2
    have e1:x.1=1:=by
     rcases hk with h | ⟨h,_⟩ | ⟨h,_⟩ | ⟨h,_⟩
     ·exact h
     ·exact absurd h e2
     ·simp [rdy,h] at hr
     ·simp [rdy,h] at hr
    refine ⟨fun h=>⟨s,w0, ?_⟩,fun k1=>⟨fun h=>⟨_,wl _ (by simp), ?_⟩,fun k3=>⟨fun h=>⟨_,rfl,_,rfl,_,wl _ (by simp), ?_⟩,fun k4=>⟨fun h=>⟨_,rfl,_,wl _ (by simp),_,rfl,_,wl _ (by simp), ?_⟩,fun k5=>⟨fun h=>⟨s,w0,_,rfl,_,wl _ (by simp), ?_⟩,fun k6=>⟨_,wl _ (by simp), ?_⟩⟩⟩⟩⟩⟩
    all_goals simp only [opn,hn,if_neg h5,if_neg e2]
    all_goals simp_all
theorem zqi {d:List SNode} (hd:ROk d) {s:List SItem} (hf:zds d s=true) (hr:rdy d s=false) (hl:s.length≤10000) (hd0:∃n,at? d 0=some n):zdc d s (opn d s):=by
 cases s with
 | nil=>simp [rdy] at hr
 | cons x s=>
  simp only [List.length_cons] at hl;have w0:zb9 [] s s:=zrq (by simp) (by omega);have wl:∀l:List SItem,l.length≤2→zb9 l s (l++s):=fun l h=>zrq (by omega) (by omega);have hx:=(zde hf).1
  by_cases h5:x.1=5
  ·obtain ⟨n0,hn0⟩:=hd0;have hx':=hx;unfold zeo at hx';rw [if_pos h5] at hx';simp at hx';refine ⟨x,at0 x s,⟨by omega,by simp;omega⟩,n0,by rw [hx'.1.1];exact hn0,fun _=>⟨fun h=>⟨s,w0,by simp, ?_⟩,fun h=>?_⟩,fun h=>absurd h (by simp [h5])⟩
   ·simp at h;show opn d (x::s)=_;simp [opn,h5,h]
   ·simp at h;show opn d (x::s)=_;simp [opn,h5,h]
  ·obtain ⟨n,hn,hk⟩:=ze5 hx h5;refine ⟨x,at0 x s,⟨by omega,by simp;omega⟩,n,hn,fun h=>absurd h (by simp [h5]),fun _=>⟨fun h2=>?_,fun h2=>?_⟩⟩
   ·have e2:x.1=2:=by simpa using h2
    have hlo:0≤x.2.2.1∧x.2.2.1≤x.2.2.2∧x.2.2.2≤255:=by
     have hx':=hx;unfold zeo at hx';rw [if_neg h5,hn] at hx';simp [e2] at hx';have:=hd.rep _ n hn hx'.1.1.1;omega
    have hj:∀out:List (List SItem),out.length≤1→∀r,r=out++(if 0<x.2.2.2 then [(1,n.2.1,0,0)::(2,x.2.1,max (x.2.2.1-1) 0,x.2.2.2-1)::s] else [])→zdc.j3 (x::s) r x n out:=by
     intro out hout r hrr;refine ⟨fun h=>⟨zi (by omega) (by omega),zi (by omega) (by omega),_,wl _ (by simp),by simp;omega, ?_⟩,fun h=>?_⟩
     ·have:0<x.2.2.2:=dt h;show r=_;rw [hrr,if_pos this,Int.max_comm];rfl
     ·have:¬ 0<x.2.2.2:=df h;show r=_;rw [hrr,if_neg this,List.append_nil]
    refine ⟨fun h=>⟨s,w0,by simp,hj _ (by simp) _ ?_⟩,fun h=>hj _ (by simp) _ ?_⟩
    ·have e0:x.2.2.1=0:=by simpa using h
     simp [opn,hn,e2,e0]
    ·have e0:¬ x.2.2.1=0:=by simpa using h
     simp [opn,hn,e2,e0]
   ·have e2:¬ x.1=2:=by simpa using h2
    have e1:x.1=1:=by
     rcases hk with h | ⟨h,_⟩ | ⟨h,_⟩ | ⟨h,_⟩
     ·exact h
     ·exact absurd h e2
     ·simp [rdy,h] at hr
     ·simp [rdy,h] at hr
    have h289:n.1≠2∧n.1≠8∧n.1≠9:=by
     simp only [rdy,hn,e1] at hr;simp at hr;omega
    have hk9:=hd.kind _ n hn;refine ⟨fun h=>⟨s,w0,by simp, ?_⟩,fun k1=>⟨fun h=>⟨_,wl _ (by simp),by simp, ?_⟩,fun k3=>⟨fun h=>⟨_,wl _ (by simp),by simp, ?_⟩,fun k4=>⟨fun h=>⟨_,wl _ (by simp),_,wl _ (by simp),by simp, ?_⟩,fun k5=>⟨fun h=>⟨s,w0,_,wl _ (by simp),by simp, ?_⟩,fun k6=>⟨fun h=>⟨_,wl _ (by simp),by simp, ?_⟩,fun k7=>?_⟩⟩⟩⟩⟩⟩
    ·simp only [opn,hn,if_neg h5,if_neg e2];simp_all
    ·simp only [opn,hn,if_neg h5,if_neg e2];simp_all
    ·simp only [opn,hn,if_neg h5,if_neg e2];simp_all
    ·simp only [opn,hn,if_neg h5,if_neg e2];simp_all
    ·simp only [opn,hn,if_neg h5,if_neg e2];simp_all
    ·simp only [opn,hn,if_neg h5,if_neg e2];simp_all
    ·exfalso;simp at k1 k3 k4 k5 k6 k7;omega
theorem zgz {d:List SNode} {a:Int} (h:∃m,at? d a=some m):zeo d (1,a,0,0)=true:=by
 obtain ⟨m,hm⟩:=h;unfold zeo;simp [hm]
theorem zdt {d:List SNode} {i a:Int} {n:SNode} (hn:at? d i=some n) (h0:0≤a) (h1:a<i):∃m,at? d a=some m:=by
 obtain ⟨j,rfl,hj⟩:=zok hn;have:=(List.getElem?_eq_some_iff.1 hj).1;obtain ⟨m,hm,_⟩:=zol (xs:=d) h0 (by omega);exact ⟨m,hm⟩
theorem zbq {α:Type} {d:List α} {i:Int} {n:α} (hn:at? d i=some n):0≤i∧i<(d.length:Int):=by
 obtain ⟨j,rfl,hj⟩:=zok hn;have:=(List.getElem?_eq_some_iff.1 hj).1;omega
theorem opn_cases {d:List SNode} (hd:ROk d) {x:SItem} {rest:List SItem} (hf:zds d (x::rest)=true) (hr:rdy d (x::rest)=false) {t:List SItem} (ht:t∈opn d (x::rest)):
  t=rest∨∃n,at? d x.2.1=some n∧x.1≠5∧((∃a,0≤a∧a<x.2.1∧t=(1,a,0,0)::rest)∨(∃a b,0≤a∧a<x.2.1∧0≤b∧b<x.2.1∧t=(1,a,0,0)::(1,b,0,0)::rest)∨(∃a lo hi k,0≤a∧a<x.2.1∧t=(1,a,0,0)::(k,x.2.1,lo,hi)::rest∧zeo d (k,x.2.1,lo,hi)=true)∨∃k lo hi,t=(k,x.2.1,lo,hi)::rest∧zeo d (k,x.2.1,lo,hi)=true):=by
 have hx:=(zde hf).1
 by_cases h5:x.1=5
 ·simp only [opn] at ht;rw [if_pos h5] at ht;split at ht
  ·exact .inl (List.mem_singleton.1 ht)
  ·cases ht
 ·obtain ⟨n,hn,hk⟩:=ze5 hx h5;simp only [opn,hn] at ht;rw [if_neg h5] at ht
  by_cases h2:x.1=2
  ·rw [if_pos h2] at ht;have hx':=hx;unfold zeo at hx';rw [if_neg h5,hn] at hx';simp [h2] at hx';obtain ⟨a0,a1⟩:=hd.one _ n hn (.inr (.inl hx'.1.1.1));rcases List.mem_append.1 ht with ht | ht
   ·split at ht
    ·exact .inl (List.mem_singleton.1 ht)
    ·cases ht
   ·split at ht
    ·rename_i hpos
     refine .inr ⟨n,hn,h5,.inr (.inr (.inl ⟨n.2.1,_,_,2,a0,a1,List.mem_singleton.1 ht, ?_⟩))⟩;unfold zeo;simp [hn,hx'.1.1.1];omega
    ·cases ht
  ·rw [if_neg h2] at ht;have e1:x.1=1:=by
    rcases hk with h | ⟨h,_⟩ | ⟨h,_⟩ | ⟨h,_⟩
    ·exact h
    ·exact absurd h h2
    ·simp [rdy,h] at hr
    ·simp [rdy,h] at hr
   have h289:n.1≠2∧n.1≠8∧n.1≠9:=by
    simp only [rdy,hn,e1] at hr;simp at hr;omega
   by_cases k1:n.1=1
   ·rw [if_pos k1] at ht;exact .inl (List.mem_singleton.1 ht)
   ·rw [if_neg k1] at ht
    by_cases k3:n.1=3
    ·rw [if_pos k3] at ht;refine .inr ⟨n,hn,h5,.inr (.inr (.inr ⟨3,0,0,List.mem_singleton.1 ht, ?_⟩))⟩;have:=hd.ntx _ n hn k3;unfold zeo;simp [hn,k3];exact List.length_pos_iff.2 this
    ·rw [if_neg k3] at ht
     by_cases k4:n.1=4
     ·rw [if_pos k4] at ht;obtain ⟨⟨a,b⟩,c,e⟩:=hd.two _ n hn (.inl k4);exact .inr ⟨n,hn,h5,.inr (.inl ⟨_,_,a,b,c,e,List.mem_singleton.1 ht⟩)⟩
     ·rw [if_neg k4] at ht
      by_cases k5:n.1=5
      ·rw [if_pos k5] at ht;obtain ⟨⟨a,b⟩,c,e⟩:=hd.two _ n hn (.inr k5);simp only [List.mem_cons,List.not_mem_nil,or_false] at ht;rcases ht with ht | ht
       ·exact .inr ⟨n,hn,h5,.inl ⟨_,a,b,ht⟩⟩
       ·exact .inr ⟨n,hn,h5,.inl ⟨_,c,e,ht⟩⟩
      ·rw [if_neg k5] at ht
       by_cases k6:n.1=6
       ·rw [if_pos k6] at ht;obtain ⟨a,b⟩:=hd.one _ n hn (.inl k6);simp only [List.mem_cons,List.not_mem_nil,or_false] at ht;rcases ht with ht | ht
        ·exact .inl ht
        ·obtain ⟨xk,xi,xl,xh⟩:=x;exact .inr ⟨n,hn,h5,.inr (.inr (.inl ⟨_,xl,xh,xk,a,b,ht,hx⟩))⟩
       ·rw [if_neg k6] at ht;have k7:n.1=7:=by have:=hd.kind _ n hn;omega
        refine .inr ⟨n,hn,h5,.inr (.inr (.inr ⟨2,_,_,List.mem_singleton.1 ht, ?_⟩))⟩;obtain ⟨b0,b1,b2⟩:=hd.rep _ n hn k7;unfold zeo;simp [hn,k7,b0,b1]
theorem ze6 {d:List SNode} {x:SItem} {s:List SItem} (h:zeo d x=true) (k:zds d s=true):zds d (x::s)=true:=by
 simp only [zds,List.all_cons,Bool.and_eq_true];exact ⟨h,k⟩
theorem form_opn {d:List SNode} (hd:ROk d) {s:List SItem} (hf:zds d s=true) (hr:rdy d s=false):∀t∈opn d s,zds d t=true:=by
 intro t ht;cases s with
 | nil=>simp [opn] at ht
 | cons x rest=>
  have hrest:=(zde hf).2;rcases opn_cases hd hf hr ht with rfl | ⟨n,hn,h5,h⟩
  ·exact hrest
  ·rcases h with ⟨a,h0,h1,rfl⟩ | ⟨a,b,h0,h1,h2,h3,rfl⟩ | ⟨a,lo,hi,k,h0,h1,rfl,h2⟩ | ⟨k,lo,hi,rfl,h2⟩
   ·exact ze6 (zgz (zdt hn h0 h1)) hrest
   ·exact ze6 (zgz (zdt hn h0 h1)) (ze6 (zgz (zdt hn h2 h3)) hrest)
   ·exact ze6 (zgz (zdt hn h0 h1)) (ze6 h2 hrest)
   ·exact ze6 h2 hrest
def SufI (D:Nat):List SItem→Prop
 | []=>True
 | x::u=>(u.length:Int)+1+x.2.1≤(D:Int)∧0≤x.2.1∧SufI D u
theorem SufI.len {D:Nat}:∀{u:List SItem},SufI D u→u.length≤D
 | [],_=>Nat.zero_le _
 | x::u,h=>by
  have h1:=h.1;have h2:=h.2.1;simp only [List.length_cons];omega
structure Vs (d:List SNode) (n0:Nat) (t:List SItem):Prop where
 form:zds d t=true
 cut:∃u v,t=u++v∧SufI d.length u∧v.length≤n0
theorem Vs.len {d:List SNode} {n0:Nat} {t:List SItem} (h:Vs d n0 t):t.length≤n0+d.length:=by
 obtain ⟨u,v,rfl,h1,h2⟩:=h.cut;have:=h1.len;simp;omega
theorem Vs.start {d:List SNode} {s:List SItem} {n0:Nat} (hf:zds d s=true) (h:s.length≤n0):Vs d n0 s:=⟨hf,[],s,rfl,trivial,h⟩
theorem Vs.opn {d:List SNode} (hd:ROk d) {n0:Nat} {s:List SItem} (h:Vs d n0 s) (hr:rdy d s=false):∀t∈opn d s,Vs d n0 t:=by
 intro t ht;refine ⟨form_opn hd h.form hr t ht, ?_⟩;obtain ⟨u,v,hs,h1,h2⟩:=h.cut;cases s with
 | nil=>simp [V.opn] at ht
 | cons x rest=>
  have key:∃u' v',rest=u'++v'∧SufI d.length u'∧v'.length≤n0∧(x.1≠5→(u'.length:Int)+1+x.2.1≤(d.length:Int)∧0≤x.2.1):=by
   cases u with
   | nil=>
    simp at hs;refine ⟨[],rest,rfl,trivial,by rw [← hs] at h2;simp at h2;omega,fun h5=>?_⟩;obtain ⟨n,hn,_⟩:=ze5 (zde h.form).1 h5;have:=zbq hn;simp;omega
   | cons y u'=>
    simp at hs;obtain ⟨e1,e2⟩:=hs;subst e1;exact ⟨u',v,e2,h1.2.2,h2,fun _=>⟨h1.1,h1.2.1⟩⟩
  obtain ⟨u',v',rfl,k1,k2,k3⟩:=key;rcases opn_cases hd h.form hr ht with rfl | ⟨n,hn,h5,hc⟩
  ·exact ⟨u',v',rfl,k1,k2⟩
  ·obtain ⟨k4,k5⟩:=k3 h5;rcases hc with ⟨a,h0,h1,rfl⟩ | ⟨a,b,h0,h1,h2,h3,rfl⟩ | ⟨a,lo,hi,k,h0,h1,rfl,h2⟩ | ⟨k,lo,hi,rfl,h2⟩
   ·exact ⟨(1,a,0,0)::u',v',rfl,⟨by simp only;omega,h0,k1⟩,k2⟩
   ·exact ⟨(1,a,0,0)::(1,b,0,0)::u',v',rfl,⟨by simp only [List.length_cons];omega,h0,by simp only;omega,h2,k1⟩,k2⟩
   ·exact ⟨(1,a,0,0)::(k,x.2.1,lo,hi)::u',v',rfl,⟨by simp only [List.length_cons];omega,h0,by simp only;omega,k5,k1⟩,k2⟩
   ·exact ⟨(k,x.2.1,lo,hi)::u',v',rfl,⟨by simp only;omega,k5,k1⟩,k2⟩
section
variable {κ ν : Type} [DecidableEq κ]
theorem zq2 {xs:List (κ × ν)} {k:κ} {v:ν} {p:κ × ν}:p∈zfv xs k v↔p=(k,v)∨(p.1≠k∧p∈xs):=by
 unfold zfv;cases h:zhh xs k
 ·rw [cond_false,List.mem_append,List.mem_singleton];constructor
  ·rintro (hp | hp)
   ·exact .inr ⟨fun e=>(by have:=ze2.2 ⟨p,hp,e⟩;rw [h] at this;cases this),hp⟩
   ·exact .inl hp
  ·rintro (hp | hp)
   ·exact .inr hp
   ·exact .inl hp.2
 ·rw [cond_true,List.mem_map];constructor
  ·rintro ⟨q,hq,e⟩
   by_cases hk:q.1=k
   ·simp [hk] at e;exact .inl e.symm
   ·have:(q.1==k)=false:=by simpa using hk
    rw [this] at e;simp at e;subst e;exact .inr ⟨hk,hq⟩
  ·rintro (hp | ⟨hk,hp⟩)
   ·obtain ⟨q,hq,e⟩:=ze2.1 h;exact ⟨q,hq,by simp [e,hp]⟩
   ·have:(p.1==k)=false:=by simpa using hk
    exact ⟨p,hp,by simp [this]⟩
theorem mput_kn {xs:List (κ × ν)} (hn:KN xs) (k:κ) (v:ν):KN (zfv xs k v):=by
 unfold zfv KN;cases h:zhh xs k
 ·rw [cond_false,List.map_append,List.nodup_append];refine ⟨hn,by simp,fun a ha b hb=>?_⟩;simp at hb;subst hb;intro e;subst e;obtain ⟨p,hp,e⟩:=List.mem_map.1 ha;have:=ze2.2 ⟨p,hp,e⟩;rw [h] at this;cases this
 ·rw [cond_true,List.map_map];have:(xs.map ((fun x=>x.1) ∘ fun p=>bif p.1==k then (k,v) else p))=xs.map (·.1):=by
   apply List.map_congr_left;intro p _;simp only [Function.comp]
   by_cases hk:p.1=k
   ·simp [hk]
   ·have:(p.1==k)=false:=by simpa using hk
    rw [this];rfl
  rw [this];exact hn
theorem mget_in {xs:List (κ × ν)} {k:κ} (h:zhh xs k=true) (z:ν):(k,zd6 xs k z)∈xs:=by
 unfold zd6;cases hf:xs.find? (fun p=>p.1==k) with
 | none=>
  obtain ⟨p,hp,e⟩:=ze2.1 h;have:=List.find?_eq_none.1 hf p hp;simp [e] at this
 | some q=>
  have h1:=List.find?_some hf;have h2:=List.mem_of_find?_eq_some hf;have e:q.1=k:=by simpa using h1
  rw [← e];exact h2
end
structure zk9 (f:List SItem→Nat) (m:List (Str × SBranch)):Prop where
 kn:KN m
 mem:∀k b,(k,b)∈m↔k=keyS b.1∧f b.1≠0∧b.2=sat (f b.1)
theorem zk9.nil:zk9 (fun _=>0) []:=⟨List.nodup_nil,by simp⟩
theorem zk9.congr {f g:List SItem→Nat} {m} (h:zk9 f m) (e:∀t,sat (f t)=sat (g t)):zk9 g m:=⟨h.kn,fun k b=>by rw [h.mem,sat_ne (e b.1),e b.1]⟩
theorem zk9.get {f:List SItem→Nat} {m} (h:zk9 f m) (u:List SItem):(zd6 m (keyS u) (([],0):SBranch)).2=sat (f u):=by
 by_cases hu:f u=0
 ·rw [zhi fun p hp e=>?_]
  ·rw [hu];rfl
  ·obtain ⟨k,b⟩:=p;obtain ⟨h1,h2,_⟩:=(h.mem k b).1 hp;simp only at e;rw [e] at h1;rw [zf4.1 h1] at hu;exact h2 hu
 ·have hm:=(h.mem (keyS u) (u,sat (f u))).2 ⟨rfl,hu,rfl⟩;have:=zmq h.kn hm (([],0):SBranch);simp only at this;rw [this]
theorem zk9.put {f:List SItem→Nat} {m} (h:zk9 f m) (u:List SItem) {n:Nat} (hn:n≠0):zk9 (fun t=>f t+if t=u then n else 0) (zfv m (keyS u) (u,min ((zd6 m (keyS u) (([],0):SBranch)).2+sat n) 2)):=by
 refine ⟨mput_kn h.kn _ _,fun k b=>?_⟩;rw [zq2,h.get,h.mem];have e:min (sat (f u)+sat n) 2=sat (f u+n):=by unfold sat;omega
 rw [e]
 by_cases hb:b.1=u
 ·subst hb;simp only [if_true,Prod.mk.injEq];constructor
  ·rintro (⟨h1,h2⟩ | ⟨h1,h2,_⟩)
   ·exact ⟨h1,by omega,by rw [h2]⟩
   ·exact absurd h2 h1
  ·rintro ⟨h1,_,h2⟩;exact .inl ⟨h1,by rw [← h2]⟩
 ·simp only [if_neg hb,Nat.add_zero,Prod.mk.injEq];constructor
  ·rintro (⟨h1,h2⟩ | ⟨h1,h2⟩)
   ·rw [h2] at hb;exact absurd rfl hb
   ·exact h2
  ·rintro ⟨h1,h2⟩;exact .inr ⟨fun e=>hb (zf4.1 (h1.symm.trans e)),h1,h2⟩
theorem zk9.one (s:List SItem):zk9 (fun t=>[s].count t) (zfv [] (keyS s) (s,1)):=by
 have:=zk9.nil.put s (n:=1) (by omega);have e:(zfv ([]:List (Str × SBranch)) (keyS s) (s,min ((zd6 [] (keyS s) (([],0):SBranch)).2+sat 1) 2))=zfv [] (keyS s) (s,1):=rfl;rw [e] at this;refine this.congr fun t=>?_;simp only [List.count_singleton,Nat.zero_add,beq_iff_eq]
 by_cases ht:t=s
 ·subst ht;simp
 ·simp [ht,Ne.symm ht]
theorem zn6 (b:SBranch):∀l:List SBranch,(insB b l).Perm (b::l)
 | []=>.refl _
 | c::l=>by
  unfold insB;split
  ·exact .refl _
  ·exact ((zn6 b l).cons c).trans (List.Perm.swap _ _ _)
theorem zgc:∀l:List SBranch,(srtB l).Perm l
 | []=>.refl _
 | b::l=>(zn6 b _).trans ((zgc l).cons b)
theorem insB_srt {b:SBranch}:∀{l:List SBranch},(∀c∈l,c.1≠b.1)→l.Pairwise (fun a b=>zek a.1 b.1<0)→(insB b l).Pairwise (fun a b=>zek a.1 b.1<0)
 | [],_,_=>by simp [insB]
 | c::l,hn,h=>by
  rw [List.pairwise_cons] at h;unfold insB;split
  ·rename_i hlt
   refine List.pairwise_cons.2 ⟨fun x hx=>?_,List.pairwise_cons.2 h⟩;rcases List.mem_cons.1 hx with rfl | hx
   ·exact hlt
   ·exact zga hlt (h.1 x hx)
  ·rename_i hge
   refine List.pairwise_cons.2 ⟨fun x hx=>?_,insB_srt (fun x hx=>hn x (by simp [hx])) h.2⟩;rcases List.mem_cons.1 ((zn6 b l).mem_iff.1 hx) with rfl | hx
   ·have h1:=zfy x.1 c.1;have h2:zek x.1 c.1≠0:=fun e=>hn c (by simp) (zd8.1 e).symm;omega
   ·exact h.1 x hx
theorem zmn:∀{l:List SBranch},(l.map (·.1)).Nodup→(srtB l).Pairwise (fun a b=>zek a.1 b.1<0)
 | [],_=>List.Pairwise.nil
 | b::l,h=>by
  rw [List.map_cons,List.nodup_cons] at h;refine insB_srt (fun c hc e=>h.1 ?_) (zmn h.2);rw [← e];exact List.mem_map.2 ⟨c,(zgc l).mem_iff.1 hc,rfl⟩
theorem zk9.can {f:List SItem→Nat} {m:List (Str × SBranch)} (h:zk9 f m) {out:List SBranch} (hp:out.Perm (m.map (·.2))):(out.map (·.1)).Nodup∧Can f (srtB out):=by
 have hk:m.map (·.1)=(m.map (·.2)).map (fun b=>keyS b.1):=by
  rw [List.map_map];apply List.map_congr_left;rintro ⟨k,b⟩ hm;exact ((h.mem k b).1 hm).1
 have hn:((m.map (·.2)).map (·.1)).Nodup:=by
  have h1:=h.kn;unfold KN at h1;rw [hk] at h1;have e:(m.map (·.2)).map (fun b=>keyS b.1)=((m.map (·.2)).map (·.1)).map keyS:=by rw [List.map_map (f:=fun b:SBranch=>b.1)];rfl
  rw [e] at h1;exact List.Pairwise.imp (fun {a b} hab he=>hab (by rw [he])) (List.pairwise_map.1 h1)
 have hn2:(out.map (·.1)).Nodup:=(hp.map (·.1)).nodup_iff.2 hn;refine ⟨hn2,zmn hn2,fun t c=>?_⟩;rw [(zgc out).mem_iff,hp.mem_iff,List.mem_map];constructor
 ·rintro ⟨⟨k,b⟩,hm,e⟩;simp only at e;subst e;exact ((h.mem k _).1 hm).2
 ·rintro h1;exact ⟨(keyS t,(t,c)),(h.mem _ _).2 ⟨rfl,h1⟩,rfl⟩
end Go.Proofs.YtkbboemafklkkaaGreatDoor.V
namespace Go.Proofs.YtkbboemafklkkaaGreatDoor.V
open Go Go.Shelf Go.Sort
set_option linter.unusedVariables false
theorem cmpS_le {x y z:List SItem} (h1:zek x y≤0) (h2:zek y z≤0):zek x z≤0:=by
 rcases Int.lt_or_le (zek x y) 0 with a | a
 ·rcases Int.lt_or_le (zek y z) 0 with b | b
  ·have:=zga a b;omega
  ·have e:zek y z=0:=by omega
   rw [← zd8.1 e];exact h1
 ·have e:zek x y=0:=by omega
  rw [zd8.1 e];exact h2
theorem swo_branch:SWO (Go.Proofs.ltOf fun x y:SBranch=>zek x.1 y.1):=swo_cmp (fun x=>ziu _) (fun x y=>zfy _ _) fun x y z h1 h2=>cmpS_le h1 h2
theorem srtB_uniq {x y:List SBranch} (hn:(x.map (·.1)).Nodup) (hp:y.Perm x) (hs:y.Pairwise (fun a b=>¬ zek b.1 a.1<0)):y=srtB x:=by
 have hny:(y.map (·.1)).Nodup:=(hp.map (·.1)).nodup_iff.2 hn;refine zka ?_ (zmn hn) fun b=>by rw [hp.mem_iff,(zgc x).mem_iff]
 have h2:y.Pairwise (fun a b=>a.1≠b.1):=List.pairwise_map.1 hny;refine (hs.and h2).imp fun {a b} h=>?_;have h3:=zfy b.1 a.1;have h4:zek a.1 b.1≠0:=fun e=>h.2 (zd8.1 e);omega
theorem fm_branch {g:FuncId} (eg:∀(args:Array Value) (w:World),(callFunc g args).run Tryz.prog w = .ok (.enter g args) w) {x r:List SBranch} (hn:(x.map (·.1)).Nodup) (hl:x.length≤2147483648) (hr:r=srtB x)
  (hc:∀a∈x,∀b∈x,VD.Fn Tryz.prog g [VD.Pd.rep En.SBranch a,VD.Pd.rep En.SBranch b] (VD.Rq (VD.Pd.rep (VD.En.int .i64) (zek a.1 b.1)))) (v0:Value):
  Fm Tryz.prog 107 (fun b=>v0.ownBlock=some b) [Pd.prow En.SBranch 144 v0 x,Pd.is (.func (.func g) #[] #[])] (fun _ s' _=>(Pd.prow En.SBranch 144 v0 r).p s' v0):=by
 have h:=fm_sort slsort (E:=En.SBranch) (E':=En.SBranch) (te:=144) (g:=g) (cf:=fun a b:SBranch=>zek a.1 b.1) rfl ty144 rfl rfl (fun h=>h) (zdz Tryz.func107 rfl (by rfl)) eg swo_branch hl hc v0;refine ⟨h.call,fun s vs hg hM hv=>(h.run s vs hg hM hv).mono fun e w' ⟨v,s',he,hw,hfr,ys,hp,hs,hrow⟩=>⟨v,s',he,hw,hfr, ?_⟩⟩;rw [hr,← srtB_uniq hn hp hs];exact hrow
theorem zik (v0:Value) {x r:List SBranch} (h:zgt x r):Fm Tryz.prog 107 (fun b=>v0.ownBlock=some b) [Pd.prow En.SBranch 144 v0 x,Pd.is (.func (.func 122) #[] #[])] (fun _ s' _=>(Pd.prow En.SBranch 144 v0 r).p s' v0):=fm_branch (zdz Tryz.func122 rfl (by rfl)) h.1 h.2.2.1 h.2.2.2 (fun a ha b hb=>@zmi true dLe _ _ _ ⟨_,zgn (h.2.1 a ha),rfl⟩) v0
theorem o_isf {L:Lst} {f:FuncId}:Opn L (.func f) (Pd.is (.func (.func f) #[] #[])):=fun _ _ _ _ _ _=>rfl
end Go.Proofs.YtkbboemafklkkaaGreatDoor.V
namespace Go.Proofs.YtkbboemafklkkaaGreatDoor.V
open Go
set_option linter.unusedVariables false
set_option maxRecDepth 100000
noncomputable abbrev Efmp:En (List (Str × SBranch)):=En.fmap En.str kvStr En.SBranch
noncomputable abbrev Efinder:En (SDesc × Option Nat):=En.cat En.SDesc En.mref
theorem tyzFinder:TyZ Tryz.prog 210 Efinder (([],none):SDesc × Option Nat):=⟨_,_,([.slice none 0 0]++[.map none]),rfl,rfl,by rfl,fun _ _=>⟨[.slice none 0 0],[.map none],rfl,⟨_,rfl,zc9 _ _ _⟩,rfl⟩⟩
theorem sttFinder:Stt Tryz.prog 210 [(0,1),(1,1)]:=⟨_,Tryz.underlying210,by kernel_rfl⟩
theorem tyMap:Ty Tryz.prog 208 En.mref:=⟨⟨_,_,rfl,rfl,rfl,rfl,by decide⟩,_,rfl,rfl⟩
theorem tyvMap:TyV Tryz.prog 211 Efmp []:=⟨_,[.map none],rfl,by rfl,fun _ _=>⟨_,rfl,.inl ⟨rfl,rfl⟩⟩⟩
theorem tyvBranch:TyV Tryz.prog 144 En.SBranch (([],0):SBranch):=⟨_,[.slice none 0 0]++[.int .i64 0],rfl,by rfl,fun _ _=>⟨_,_,rfl,⟨_,rfl,zc9 _ _ _⟩,⟨rfl,by decide⟩⟩⟩
def GoodM (d:List SNode) (t:List SItem) (m:List (Str × SBranch)):Prop:=∃h l,lv d h t=some l∧zk9 (fun u=>l.count u) m
def InvS (d:List SNode) (xs:List (Str × List (Str × SBranch))):Prop:=∀k m,(k,m)∈xs→∃t,k=keyS t∧GoodM d t m
theorem InvS.get {d:List SNode} {xs} (h:InvS d xs) {t:List SItem} (hm:zhh xs (keyS t)=true):GoodM d t (zd6 xs (keyS t) []):=by
 obtain ⟨t',e,hg⟩:=h _ _ (mget_in hm []);have:=zf4.1 e;subst this;exact hg
theorem InvS.put {d:List SNode} {xs} (h:InvS d xs) {t:List SItem} {m} (hg:GoodM d t m):InvS d (zfv xs (keyS t) m):=by
 intro k m' hm;rcases zq2.1 hm with e | ⟨_,hm⟩
 ·cases e;exact ⟨t,rfl,hg⟩
 ·exact h k m' hm
theorem InvS.nil (d:List SNode):InvS d []:=fun k m h=>by cases h
abbrev FndOk (d:List SNode) (g:Nat) (t:List SItem) (xs:List (Str × List (Str × SBranch))):Prop:=
 Fc Tryz.prog 121 En.str kvStr Efmp g xs [Pd.ptr Efinder (d,some g),Pd.rep (En.slice En.SItem) t] (fun i:List (Str × SBranch) × List (Str × List (Str × SBranch))=>GoodM d t i.1∧InvS d i.2) (fun i=>Pd.rep Efmp i.1) (fun i=>i.2)
theorem no_g {og:Option Nat} {g N:Nat} (hg:g<N) (h:∀b,og=some b→N≤b):∀b,og=some b→¬ some g=some b:=fun b hb e=>by cases e;have:=h g hb;omega
theorem no_o {og:Option Nat} {g N:Nat} (hg:g<N) (h:∀b,og=some b→N≤b):∀b,some g=some b→¬ og=some b:=fun b e hb=>by cases e;have:=h g hb;omega
structure Left (c:List SItem→Nat) (rem:List (Str × SBranch)):Prop where
 kn:KN rem
 ent:∀p∈rem,p.1=keyS p.2.1∧c p.2.1≠0∧p.2.2=sat (c p.2.1)
theorem zk9.left {c:List SItem→Nat} {m:List (Str × SBranch)} (h:zk9 c m):Left c m:=⟨h.kn,fun p hp=>(h.mem p.1 p.2).1 hp⟩
theorem Left.perm {c:List SItem→Nat} {l m:List (Str × SBranch)} (h:Left c l) (hp:l.Perm m):Left c m:=⟨h.kn.perm hp,fun p hm=>h.ent p (hp.mem_iff.2 hm)⟩
theorem Left.tail {c:List SItem→Nat} {p:Str × SBranch} {l:List (Str × SBranch)} (h:Left c (p::l)):Left c l∧keyS p.2.1 ∉ l.map (·.1):=by
 have hk:=h.kn;unfold KN at hk;rw [List.map_cons,List.nodup_cons] at hk;exact ⟨⟨hk.2,fun q hq=>h.ent q (by simp [hq])⟩,by rw [← (h.ent p (by simp)).1];exact hk.1⟩
def cnt (f c:List SItem→Nat) (rem:List (Str × SBranch)) (u:List SItem):Nat:=f u+if keyS u∈rem.map (·.1) then 0 else c u
theorem cnt_start {f c:List SItem→Nat} {m rem:List (Str × SBranch)} (h:zk9 c m) (hp:m.Perm rem) (u:List SItem):cnt f c rem u=f u:=by
 unfold cnt
 by_cases hc:c u=0
 ·simp [hc]
 ·rw [if_pos];· rfl
  exact List.mem_map.2 ⟨(keyS u,(u,sat (c u))),hp.mem_iff.1 ((h.mem _ _).2 ⟨rfl,hc,rfl⟩),rfl⟩
theorem cnt_perm {f c:List SItem→Nat} {l m:List (Str × SBranch)} (hp:l.Perm m) (u:List SItem):cnt f c l u=cnt f c m u:=by
 unfold cnt;have h:=(hp.map (·.1)).mem_iff (a:=keyS u)
 by_cases hu:keyS u∈l.map (·.1)
 ·rw [if_pos hu,if_pos (h.1 hu)]
 ·rw [if_neg hu,if_neg (fun k=>hu (h.2 k))]
theorem cnt_nil {f c:List SItem→Nat} (u:List SItem):cnt f c [] u=f u+c u:=by simp [cnt]
theorem cnt_step {f c:List SItem→Nat} {p:Str × SBranch} {l:List (Str × SBranch)} (h:Left c (p::l)) {out:List (Str × SBranch)} (ho:zk9 (cnt f c (p::l)) out):
  zk9 (cnt f c l) (zfv out p.1 (p.2.1,min ((zd6 out p.1 (([],0):SBranch)).2+p.2.2) 2)):=by
 obtain ⟨h1,h2⟩:=h.tail;obtain ⟨e1,e2,e3⟩:=h.ent p (by simp);rw [e1,e3];refine (ho.put p.2.1 e2).congr fun t=>?_;unfold cnt;simp only [List.map_cons,List.mem_cons,e1,zf4]
 by_cases ht:t=p.2.1
 ·subst ht;rw [if_pos (.inl rfl),if_neg h2,if_pos rfl];rfl
 ·simp only [ht,false_or,if_false,Nat.add_zero]
theorem zmr {α β:Type} {f:α→Option β}:∀{l:List α} {r:List β},l.mapM f=some r→r.length=l.length
 | [],r,h=>by simp at h;subst h;rfl
 | a::l,r,h=>by
  rw [List.mapM_cons] at h;cases ha:f a with
  | none=>rw [ha] at h;simp at h
  | some b=>
   rw [ha] at h;cases hl:l.mapM f with
   | none=>rw [hl] at h;simp at h
   | some bs=>
    rw [hl] at h;have e:b::bs=r:=by simpa using h
    rw [← e];simp [zmr hl]
theorem zq4 {α β:Type} {f:α→Option β}:∀{l:List α} {r:List β},l.mapM f=some r→∀{i:Nat} (hi:i<l.length),∃b,f l[i]=some b∧r[i]?=some b
 | [],r,_,i,hi=>by simp at hi
 | a::l,r,h,i,hi=>by
  rw [List.mapM_cons] at h;cases ha:f a with
  | none=>rw [ha] at h;simp at h
  | some b=>
   rw [ha] at h;cases hl:l.mapM f with
   | none=>rw [hl] at h;simp at h
   | some bs=>
    rw [hl] at h;have e:b::bs=r:=by simpa using h
    subst e;cases i with
    | zero=>exact ⟨b,ha,rfl⟩
    | succ i=>
     obtain ⟨b',h1,h2⟩:=zq4 hl (i:=i) (by simpa using hi);exact ⟨b',by simpa using h1,by simpa using h2⟩
theorem take_flat {α:Type} {ls:List (List α)} {i:Nat} {l:List α} (h:ls[i]?=some l):(ls.take (i+1)).flatten=(ls.take i).flatten++l:=by
 have hi:=(List.getElem?_eq_some_iff.1 h).1;have e:=(List.getElem?_eq_some_iff.1 h).2;rw [List.take_succ_eq_append_getElem hi,e,List.flatten_append];simp
theorem find_step {d:List SNode} (hd:ROk d) (hk:DOk d) (hl4:d.length≤400) (g:Nat) {h:Nat} (ih:∀(t:List SItem) (l:List (List SItem)),lv d h t=some l→Vs d 400 t→∀xs,InvS d xs→FndOk d g t xs) (hd0:∃n,at? d 0=some n)
  {t:List SItem} {l:List (List SItem)} (hl:lv d (h+1) t=some l) (hv:Vs d 400 t) {xs:List (Str × List (Str × SBranch))} (hxs:InvS d xs):FndOk d g t xs:=by
 have htl:=hv.len;refine fc_of Tryz.func121 rfl Tryz.ntmps121 (by rfl) (by simp) fun s0 a hL=>?_;have hgs:g<s0.w.heap.size:=by
  obtain ⟨hX,_⟩:=hL.get 999902 rfl;exact s0.lt g hX
 refine wp_seq_k fun K0 hK0=>?_;refine rg ?_;refine st 4 (zbi (q:=Pd.any) (fun _ _ _ _ _ _=>trivial) rfl rfl) rfl rfl hL fun a s e_ hL=>?_;refine en' ?_;show K0 a s.w;refine hK0 _ _ ?_;refine wp_seq_k fun K1 hK1=>?_;refine rg ?_;refine st 14 (zt (o_t 1 rfl) rfl rfl) rfl rfl hL fun a s e_ hL=>?_;refine st 15 (ze8 (zh2 (zn5 (s:=t) (by omega))) (xs:=[.tmp 14]) (.cons (o_t 14 rfl) .nil) rfl rfl) rfl rfl hL fun a s e_ hL=>?_;refine st 5 (zbi (o_t 15 rfl) rfl rfl) rfl rfl hL fun a s e_ hL=>?_;refine en' ?_;show K1 a s.w;refine hK1 _ _ ?_;refine wp_seq_k fun K2 hK2=>?_;refine wp_seq_k fun K3 hK3=>?_;refine rg ?_;refine st 17 (zt (o_t 0 rfl) rfl rfl) rfl rfl hL fun a s e_ hL=>?_;refine st 18 (t_nc (o_t 17 rfl) zkh rfl rfl) rfl rfl hL fun a s e_ hL=>?_;refine st 19 (zlw (off:=1) (o_t 18 rfl) Tryz.underlying210 rfl (zp (zy _ _) rfl) rfl tyMap rfl rfl) rfl rfl hL fun a s e_ hL=>?_;refine st 20 (zci tyMap (o_t 19 rfl) rfl rfl) rfl rfl hL fun a s e_ hL=>?_;refine st 21 (zt (o_t 5 rfl) rfl rfl) rfl rfl hL fun a s e_ hL=>?_;refine st 22 (t_mgetcok (m:=999902) rfl (o_t 20 rfl) (o_t 21 rfl) Tryz.underlying208 (zd7 Tryz.underlying9) tyvMap rfl rfl) rfl rfl hL fun a s e_ hL=>?_;refine st 16 (zt (o_t 22 rfl) rfl rfl) rfl rfl hL fun a s e_ hL=>?_;refine st 23 (t_ext0 (o_t 16 rfl) rfl rfl) rfl rfl hL fun a s e_ hL=>?_;refine st 24 (zm4 (o_t 16 rfl) rfl rfl) rfl rfl hL fun a s e_ hL=>?_;refine st 6 (zbi (o_t 23 rfl) rfl rfl) rfl rfl hL fun a s e_ hL=>?_;refine st 7 (zbi (o_t 24 rfl) rfl rfl) rfl rfl hL fun a s e_ hL=>?_
 refine en' ?_;show K3 a s.w;refine hK3 _ _ ?_;refine wp_seq_k fun K4 hK4=>?_;refine rg ?_;refine st 25 (zt (o_t 7 rfl) rfl rfl) rfl rfl hL fun a s e_ hL=>?_;refine en' ?_;show K4 a s.w;refine hK4 _ _ ?_;refine cnd hL rfl (fun hb_=>?_) (fun hb_=>?_)
 ·refine wp_seq_k fun K5 hK5=>?_;refine rg ?_;refine st 26 (zt (o_t 6 rfl) rfl rfl) rfl rfl hL fun a s e_ hL=>?_;refine st 4 (zbi (o_t 26 rfl) rfl rfl) rfl rfl hL fun a s e_ hL=>?_;refine en' ?_;show K5 a s.w;refine hK5 _ _ ?_;exact wp_ret (retc (zd6 xs (keyS t) [],xs) ⟨hxs.get hb_,hxs⟩ rfl hL rfl rfl)
 refine wp_skip ?_;show K2 a s.w;refine hK2 _ _ ?_;refine wp_seq_k fun K6 hK6=>?_;refine rg ?_;refine zi3 27 En.str kvStr En.SBranch hL rfl rfl rfl rfl fun a s g8 hg8 hL=>?_;have hng:∀b,some g8=some b→s0.w.heap.size≤b:=fun b hb=>(zl5 (hL.get 27 rfl) b hb).1;refine st 8 (zbi (o_t 27 rfl) rfl rfl) rfl rfl hL fun a s e_ hL=>?_;refine en' ?_;show K6 a s.w;refine hK6 _ _ ?_;refine wp_seq_k fun K7 hK7=>?_;refine wp_seq_k fun K8 hK8=>?_;refine rg ?_;refine st 28 (zt (o_t 0 rfl) rfl rfl) rfl rfl hL fun a s e_ hL=>?_;refine st 29 (t_nc (o_t 28 rfl) zkh rfl rfl) rfl rfl hL fun a s e_ hL=>?_;refine st 30 (zlw (off:=0) (o_t 29 rfl) Tryz.underlying210 rfl (zbg (zy _ _)) rfl ty24 rfl rfl) rfl rfl hL fun a s e_ hL=>?_;refine st 31 (zci ty24 (o_t 30 rfl) rfl rfl) rfl rfl hL fun a s e_ hL=>?_;refine st 32 (zt (o_t 1 rfl) rfl rfl) rfl rfl hL fun a s e_ hL=>?_;refine st 33 (ze8 (zo0 (zo1 hd hv.form)) (xs:=[.tmp 31,.tmp 32]) (.cons (o_t 31 rfl) (.cons (o_t 32 rfl) .nil)) rfl rfl) rfl rfl hL fun a s e_ hL=>?_;refine en' ?_;show K8 a s.w;refine hK8 _ _ ?_;refine cnd hL rfl (fun hb_=>?_) (fun hb_=>?_)
 ·have hgood:GoodM d t (zfv [] (keyS t) (t,1)):=⟨1,[t],by simp [lv,hb_],zk9.one t⟩;refine wp_seq_k fun K9 hK9=>?_;refine rg ?_;refine st 34 (zt (o_t 8 rfl) rfl rfl) rfl rfl hL fun a s e_ hL=>?_;refine st 35 (zt (o_t 5 rfl) rfl rfl) rfl rfl hL fun a s e_ hL=>?_;refine st 36 (zt (o_t 1 rfl) rfl rfl) rfl rfl hL fun a s e_ hL=>?_;refine st 37 (ze8 (zdb (clone_in (s:=t) (by omega))).frz (xs:=[.tmp 36]) (.cons (o_t 36 rfl) .nil) rfl rfl) rfl rfl hL fun a s e_ hL=>?_;refine st 38 (zbm (x:=((t,1):SBranch)) (ps:=[(0,.tmp 37),(1,.const (.int .i64 1))]) zjq rfl stt144 (.cons (i:=0) (o_t 37 rfl) rfl (zv (zn _ _ _)) (.cons (i:=1) (o_i (k:=.i64) (by decide)) rfl (zj (zn _ _ _) rfl) .nil)) rfl rfl) rfl rfl hL fun a s e_ hL=>?_;refine zgr (L':=[(0,Pd.ptr Efinder (d,some g)),(5,Pd.rep En.str (keyS t)),(8,Pd.map En.str kvStr En.SBranch s0.w.heap.size (some g8) (zfv [] (keyS t) (t,1))),(999902,Pd.mapc En.str kvStr Efmp g xs)]) hL (o_t 34 rfl) (o_t 35 rfl) (o_t 38 rfl) Tryz.underlying211 (zd7 Tryz.underlying9) (.inl rfl) rfl rfl
   (.cons (t:=0) rfl (fun _ h_=>h_.elim) (.cons (t:=5) rfl (fun _ h_=>h_.elim) (.turn (t:=8) rfl (.cons (t:=999902) rfl (no_o hgs hng) .nil)))) fun s hL=>?_
  refine en' ?_;show K9 a s.w;refine hK9 _ _ ?_;refine wp_seq_k fun K10 hK10=>?_;refine rg ?_;obtain ⟨s2,hw2,hL⟩:=hL.freezem (L':=[(0,Pd.ptr Efinder (d,some g)),(5,Pd.rep En.str (keyS t)),(999902,Pd.mapc En.str kvStr Efmp g xs)]) 8 rfl (.cons (t:=0) rfl (fun _ h_=>h_.elim) (.cons (t:=5) rfl (fun _ h_=>h_.elim) (.cons (t:=999902) rfl (no_o hgs hng) .nil)));rw [← hw2];clear hw2;generalize s2=s at *;refine st 39 (zt (o_t 0 rfl) rfl rfl) rfl rfl hL fun a s e_ hL=>?_;refine st 40 (t_nc (o_t 39 rfl) zkh rfl rfl) rfl rfl hL fun a s e_ hL=>?_;refine st 41 (zlw (off:=1) (o_t 40 rfl) Tryz.underlying210 rfl (zp (zy _ _) rfl) rfl tyMap rfl rfl) rfl rfl hL fun a s e_ hL=>?_;refine st 42 (zci tyMap (o_t 41 rfl) rfl rfl) rfl rfl hL fun a s e_ hL=>?_;refine st 43 (zt (o_t 5 rfl) rfl rfl) rfl rfl hL fun a s e_ hL=>?_;refine st 44 (zt (o_t 8 rfl) rfl rfl) rfl rfl hL fun a s e_ hL=>?_;refine st_mputc (m:=999902) (L':=[(8,Pd.rep Efmp (zfv [] (keyS t) (t,1)))]) hL rfl (.inl rfl) (o_t 42 rfl) (o_t 43 rfl) (o_t 44 rfl) Tryz.underlying208 (zd7 Tryz.underlying9) (.inl rfl) rfl rfl (.cons (t:=8) rfl (fun _ h_=>h_.elim) .nil) fun s hL=>?_;refine en' ?_;show K10 a s.w;refine hK10 _ _ ?_;refine wp_seq_k fun K11 hK11=>?_;refine rg ?_;refine st 45 (zt (o_t 8 rfl) rfl rfl) rfl rfl hL fun a s e_ hL=>?_;refine st 4 (zbi (o_t 45 rfl) rfl rfl) rfl rfl hL fun a s e_ hL=>?_;refine en' ?_;show K11 a s.w;refine hK11 _ _ ?_;exact wp_ret (retc (zfv [] (keyS t) (t,1),zfv xs (keyS t) (zfv [] (keyS t) (t,1))) ⟨hgood,hxs.put hgood⟩ rfl hL rfl rfl)
 refine wp_skip ?_;show K7 a s.w;refine hK7 _ _ ?_;have hrd:rdy d t=false:=hb_;have hopn:=hv.opn hd hrd;obtain ⟨ls,hls,hlf⟩:∃ls,(opn d t).mapM (lv d h)=some ls∧ls.flatten=l:=by
  unfold lv at hl;rw [if_neg (by rw [hrd];simp)] at hl;exact Option.map_eq_some_iff.1 hl
 have hlen2:=opn_len (d:=d) t;have hlsl:ls.length=(opn d t).length:=zmr hls;refine wp_seq_k fun K12 hK12=>?_;refine wp_seq_k fun K13 hK13=>?_;refine rg ?_;refine st 46 (zt (o_t 0 rfl) rfl rfl) rfl rfl hL fun a s e_ hL=>?_;refine st 47 (t_nc (o_t 46 rfl) zkh rfl rfl) rfl rfl hL fun a s e_ hL=>?_;refine st 48 (zlw (off:=0) (o_t 47 rfl) Tryz.underlying210 rfl (zbg (zy _ _)) rfl ty24 rfl rfl) rfl rfl hL fun a s e_ hL=>?_;refine st 49 (zci ty24 (o_t 48 rfl) rfl rfl) rfl rfl hL fun a s e_ hL=>?_;refine st 50 (zt (o_t 1 rfl) rfl rfl) rfl rfl hL fun a s e_ hL=>?_;refine st 51 (ze8 (zrh (zri hd hv.form hrd (by omega) hd0)).frz (xs:=[.tmp 49,.tmp 50]) (.cons (o_t 49 rfl) (.cons (o_t 50 rfl) .nil)) rfl rfl) rfl rfl hL fun a s e_ hL=>?_;refine st 52 (t_len (o_t 51 rfl) Tryz.underlying78 rfl rfl) rfl rfl hL fun a s e_ hL=>?_;refine st 53 (zt (o_i (k:=.i64) (by decide)) rfl rfl) rfl rfl hL fun a s e_ hL=>?_;refine en' ?_;show K13 a s.w;refine hK13 _ _ ?_;refine wp_block ?_;have hg8s:=hng g8 rfl;have J:∀(a:Act) (s:St) (out:List (Str × SBranch)) (ys:List (Str × List (Str × SBranch))),Has (fun b=>some g=some b) 88 s0 a s [(0,Pd.ptr Efinder (d,some g)),(5,Pd.rep En.str (keyS t)),(8,Pd.map En.str kvStr En.SBranch s0.w.heap.size (some g8) out),(999902,Pd.mapc En.str kvStr Efmp g ys)] →
   zk9 (fun u=>l.count u) out→InvS d ys→K12 a s.w:=by
  intro a s out ys hL hout hys;have hgood:GoodM d t out:=⟨h+1,l,hl,hout⟩;refine hK12 _ _ ?_;refine wp_seq_k fun K19 hK19=>?_;refine rg ?_;obtain ⟨s2,hw2,hL⟩:=hL.freezem (L':=[(0,Pd.ptr Efinder (d,some g)),(5,Pd.rep En.str (keyS t)),(999902,Pd.mapc En.str kvStr Efmp g ys)]) 8 rfl (.cons (t:=0) rfl (fun _ h_=>h_.elim) (.cons (t:=5) rfl (fun _ h_=>h_.elim) (.cons (t:=999902) rfl (no_o hgs hng) .nil)));rw [← hw2];clear hw2;generalize s2=s at *;refine st 81 (zt (o_t 0 rfl) rfl rfl) rfl rfl hL fun a s e_ hL=>?_;refine st 82 (t_nc (o_t 81 rfl) zkh rfl rfl) rfl rfl hL fun a s e_ hL=>?_;refine st 83 (zlw (off:=1) (o_t 82 rfl) Tryz.underlying210 rfl (zp (zy _ _) rfl) rfl tyMap rfl rfl) rfl rfl hL fun a s e_ hL=>?_;refine st 84 (zci tyMap (o_t 83 rfl) rfl rfl) rfl rfl hL fun a s e_ hL=>?_;refine st 85 (zt (o_t 5 rfl) rfl rfl) rfl rfl hL fun a s e_ hL=>?_;refine st 86 (zt (o_t 8 rfl) rfl rfl) rfl rfl hL fun a s e_ hL=>?_;refine st_mputc (m:=999902) (L':=[(8,Pd.rep Efmp out)]) hL rfl (.inl rfl) (o_t 84 rfl) (o_t 85 rfl) (o_t 86 rfl) Tryz.underlying208 (zd7 Tryz.underlying9) (.inl rfl) rfl rfl (.cons (t:=8) rfl (fun _ h_=>h_.elim) .nil) fun s hL=>?_;refine en' ?_;show K19 a s.w;refine hK19 _ _ ?_;refine wp_seq_k fun K20 hK20=>?_;refine rg ?_;refine st 87 (zt (o_t 8 rfl) rfl rfl) rfl rfl hL fun a s e_ hL=>?_;refine st 4 (zbi (o_t 87 rfl) rfl rfl) rfl rfl hL fun a s e_ hL=>?_;refine en' ?_;show K20 a s.w;refine hK20 _ _ ?_;exact wp_ret (retc (out,zfv ys (keyS t) out) ⟨hgood,hys.put hgood⟩ rfl hL rfl rfl)
 refine lpg (fun k a s=>∃(i:Nat) (out:List (Str × SBranch)) (ys:List (Str × List (Str × SBranch))),i+k=(opn d t).length+1∧Has (fun b=>some g=some b) 88 s0 a s [(0,Pd.ptr Efinder (d,some g)),(5,Pd.rep En.str (keyS t)),(8,Pd.map En.str kvStr En.SBranch s0.w.heap.size (some g8) out),(51,Pd.rep (En.slice (En.slice En.SItem)) (opn d t)),(52,Pd.rep (En.int .i64) ((opn d t).length:Int)),(53,Pd.rep (En.int .i64) (i:Int)),(999902,Pd.mapc En.str kvStr Efmp g ys)] ∧
   zk9 (fun u=>(ls.take i).flatten.count u) out∧InvS d ys) ((opn d t).length+1) ⟨0,[],xs,by omega,hL.keep (.cons (t:=0) rfl (fun _ h_=>h_.elim) (.cons (t:=5) rfl (fun _ h_=>h_.elim) (.cons (t:=8) rfl (fun _ _ h_=>h_) (.cons (t:=51) rfl (fun _ h_=>h_.elim) (.cons (t:=52) rfl (fun _ h_=>h_.elim) (.cons (t:=53) rfl (fun _ h_=>h_.elim) (.cons (t:=999902) rfl (fun _ _ h_=>h_) .nil))))))),zk9.nil,hxs⟩ ?_
 rintro k a s ⟨i,out,ys,hik,hL,hout,hys⟩ KL hKL;refine wp_seq_k fun K14 hK14=>?_;refine rg ?_;refine st 54 (t_lss (o_t 53 rfl) (o_t 52 rfl) rfl rfl) rfl rfl hL fun a s e_ hL=>?_;refine en' ?_;show K14 a s.w;refine hK14 _ _ ?_;refine wp_seq_k fun K15 hK15=>?_;refine cnd hL rfl (fun hb2_=>?_) (fun hb2_=>?_)
 case refine_2=>
  refine wp_exit ?_;have hi:(opn d t).length≤i:=by have:=df hb2_;omega
  refine J a s out ys (hL.keep (.cons (t:=0) rfl (fun _ h_=>h_.elim) (.cons (t:=5) rfl (fun _ h_=>h_.elim) (.cons (t:=8) rfl (fun _ _ h_=>h_) (.cons (t:=999902) rfl (fun _ _ h_=>h_) .nil))))) ?_ hys;rw [List.take_of_length_le (by omega),hlf] at hout;exact hout
 refine wp_skip ?_;show K15 a s.w;refine hK15 _ _ ?_;have hi:i<(opn d t).length:=by have:=dt hb2_;omega
 have hti:at? (opn d t) (i:Int)=some (opn d t)[i]:=by rw [zbv];simp [hi]
 have hmem:(opn d t)[i]∈opn d t:=List.getElem_mem hi;obtain ⟨li,hli,hlsi⟩:=zq4 hls hi;refine wp_seq_k fun K18 hK18=>?_;refine wp_block ?_;refine wp_seq_k fun K21 hK21=>?_;refine rg ?_;refine st 55 (t_idx (o_t 51 rfl) (o_t 53 rfl) hti Tryz.underlying78 ty62 rfl rfl) rfl rfl hL fun a s e_ hL=>?_;refine st 56 (zci ty62 (o_t 55 rfl) rfl rfl) rfl rfl hL fun a s e_ hL=>?_;refine st 10 (zbi (o_t 56 rfl) rfl rfl) rfl rfl hL fun a s e_ hL=>?_;refine en' ?_;show K21 a s.w;refine hK21 _ _ ?_;refine wp_seq_k fun K22 hK22=>?_;refine rg ?_;refine st 57 (zt (o_t 0 rfl) rfl rfl) rfl rfl hL fun a s e_ hL=>?_;refine st 58 (zt (o_t 10 rfl) rfl rfl) rfl rfl hL fun a s e_ hL=>?_;refine st_callc (L':=[(0,Pd.ptr Efinder (d,some g)),(5,Pd.rep En.str (keyS t)),(8,Pd.map En.str kvStr En.SBranch s0.w.heap.size (some g8) out),(51,Pd.rep (En.slice (En.slice En.SItem)) (opn d t)),(52,Pd.rep (En.int .i64) ((opn d t).length:Int)),(53,Pd.rep (En.int .i64) (i:Int))]) 59 999902 hL (ih _ li hli (hopn _ hmem) ys hys) rfl (.inl rfl) (zs:=[.tmp 57,.tmp 58]) (.cons (o_t 57 rfl) (.cons (o_t 58 rfl) .nil)) rfl rfl rfl rfl
  (.cons (t:=0) rfl (fun _ h_=>h_.elim) (.cons (t:=5) rfl (fun _ h_=>h_.elim) (.cons (t:=8) rfl (no_g hgs hng) (.cons (t:=51) rfl (fun _ h_=>h_.elim) (.cons (t:=52) rfl (fun _ h_=>h_.elim) (.cons (t:=53) rfl (fun _ h_=>h_.elim) .nil)))))) fun a s im him hL=>?_
 obtain ⟨m,ys2⟩:=im;obtain ⟨⟨hh,l2,hl2,hm⟩,hys2⟩:=him;simp only at hl2 hm hys2;have hl2e:l2=li:=by
  have h1:=zim (Nat.le_max_left hh h) hl2;have h2:=zim (Nat.le_max_right hh h) hli;rw [h1] at h2;exact Option.some.inj h2
 subst hl2e;have hg8lt:=(zl5 (hL.get 8 rfl) g8 rfl).2;refine zp8 60 hL (o_t 59 rfl) Tryz.underlying211 rfl rfl rfl rfl fun a s r hr hL=>?_;have hr8:g8<r:=Nat.lt_of_lt_of_le hg8lt hr;refine en' ?_;show K22 a s.w;refine hK22 _ _ ?_;refine wp_block ?_
 let f:=fun u=>(ls.take i).flatten.count u
 let c:=fun u=>l2.count u
 have J2:∀(a:Act) (s:St) (out:List (Str × SBranch)),Has (fun b=>some g=some b) 88 s0 a s [(0,Pd.ptr Efinder (d,some g)),(5,Pd.rep En.str (keyS t)),(8,Pd.map En.str kvStr En.SBranch s0.w.heap.size (some g8) out),(51,Pd.rep (En.slice (En.slice En.SItem)) (opn d t)),(52,Pd.rep (En.int .i64) ((opn d t).length:Int)),(53,Pd.rep (En.int .i64) (i:Int)),(999902,Pd.mapc En.str kvStr Efmp g ys2)] →
   zk9 (fun u=>f u+c u) out→K18 a s.w:=by
  intro a s out hL hout;refine hK18 _ _ ?_;refine rg ?_;refine st 80 (t_add (o_t 53 rfl) (o_i (k:=.i64) (by decide)) (zi (by omega) (by omega)) rfl rfl) rfl rfl hL fun a s e_ hL=>?_;refine st 53 (zt (o_t 80 rfl) rfl rfl) rfl rfl hL fun a s e_ hL=>?_;refine en' ?_;refine hKL (k-1) a s (by omega) ⟨i+1,out,ys2,by omega,hL.keep (.cons (t:=0) rfl (fun _ h_=>h_.elim) (.cons (t:=5) rfl (fun _ h_=>h_.elim) (.cons (t:=8) rfl (fun _ _ h_=>h_) (.cons (t:=51) rfl (fun _ h_=>h_.elim) (.cons (t:=52) rfl (fun _ h_=>h_.elim) (.cons (t:=53) rfl (fun _ h_=>h_.elim) (.cons (t:=999902) rfl (fun _ _ h_=>h_) .nil))))))), ?_,hys2⟩;refine hout.congr fun u=>?_;rw [take_flat hlsi,List.count_append]
 refine lpg (fun k a s=>∃(rem:List (Str × SBranch)) (cur:Option (Str × SBranch)) (out:List (Str × SBranch)),rem.length+1=k∧Has (fun b=>some g=some b) 88 s0 a s [(0,Pd.ptr Efinder (d,some g)),(5,Pd.rep En.str (keyS t)),(8,Pd.map En.str kvStr En.SBranch s0.w.heap.size (some g8) out),(51,Pd.rep (En.slice (En.slice En.SItem)) (opn d t)),(52,Pd.rep (En.int .i64) ((opn d t).length:Int)),(53,Pd.rep (En.int .i64) (i:Int)),(60,Pd.iter En.str kvStr En.SBranch s0.w.heap.size r rem cur),(999902,Pd.mapc En.str kvStr Efmp g ys2)] ∧
   Left c rem∧zk9 (cnt f c rem) out) (m.length+1) ⟨m,none,out,rfl,hL.keep (.cons (t:=0) rfl (fun _ h_=>h_.elim) (.cons (t:=5) rfl (fun _ h_=>h_.elim) (.cons (t:=8) rfl (fun _ _ h_=>h_) (.cons (t:=51) rfl (fun _ h_=>h_.elim) (.cons (t:=52) rfl (fun _ h_=>h_.elim) (.cons (t:=53) rfl (fun _ h_=>h_.elim) (.cons (t:=60) rfl (fun _ _ h_=>h_) (.cons (t:=999902) rfl (fun _ _ h_=>h_) .nil)))))))),hm.left,hout.congr fun u=>by rw [cnt_start hm (.refl _)]⟩ ?_
 rintro k2 a s ⟨rem,cur,out,hrk,hL,hleft,hout⟩ KM hKM;refine wp_seq_k fun K23 hK23=>?_;refine rg ?_;have hrs0:s0.w.heap.size≤r:=(hL.get 60 rfl).2.1;refine st_next (L':=[(0,Pd.ptr Efinder (d,some g)),(5,Pd.rep En.str (keyS t)),(8,Pd.map En.str kvStr En.SBranch s0.w.heap.size (some g8) out),(51,Pd.rep (En.slice (En.slice En.SItem)) (opn d t)),(52,Pd.rep (En.int .i64) ((opn d t).length:Int)),(53,Pd.rep (En.int .i64) (i:Int)),(999902,Pd.mapc En.str kvStr Efmp g ys2)]) 61 hL (x:=60) rfl rfl rfl rfl rfl (by decide)
  (.cons (t:=0) rfl (fun _ h_=>h_.elim) (.cons (t:=5) rfl (fun _ h_=>h_.elim) (.cons (t:=8) rfl (fun b hb e=>by cases hb;cases e;omega) (.cons (t:=51) rfl (fun _ h_=>h_.elim) (.cons (t:=52) rfl (fun _ h_=>h_.elim) (.cons (t:=53) rfl (fun _ h_=>h_.elim) (.cons (t:=999902) rfl (fun b hb e=>by cases hb;cases e;omega) .nil))))))) (fun a hrem hL=>?_) (fun a s p rem' hp hL=>?_)
 ·subst hrem;refine st 62 (t_nx (o_t 61 rfl) rfl rfl) rfl rfl hL fun a s e_ hL=>?_;refine en' ?_;show K23 a s.w;refine hK23 _ _ ?_;refine wp_seq_k fun K24 hK24=>?_;refine cnd hL rfl (fun hb3_=>by cases hb3_) (fun _=>?_);refine wp_exit ?_;refine J2 a s out (hL.keep (.cons (t:=0) rfl (fun _ h_=>h_.elim) (.cons (t:=5) rfl (fun _ h_=>h_.elim) (.cons (t:=8) rfl (fun _ _ h_=>h_) (.cons (t:=51) rfl (fun _ h_=>h_.elim) (.cons (t:=52) rfl (fun _ h_=>h_.elim) (.cons (t:=53) rfl (fun _ h_=>h_.elim) (.cons (t:=999902) rfl (fun _ _ h_=>h_) .nil)))))))) (hout.congr fun u=>by rw [cnt_nil])
 have hleft2:=hleft.perm hp;have hout2:zk9 (cnt f c (p::rem')) out:=hout.congr fun u=>by rw [cnt_perm hp]
 obtain ⟨e1,e2,e3⟩:=hleft2.ent p (by simp);have hp2:1≤p.2.2∧p.2.2≤2:=by rw [e3];unfold sat;omega
 have hmg:0≤(zd6 out p.1 (([],0):SBranch)).2∧(zd6 out p.1 (([],0):SBranch)).2≤2:=by rw [e1,hout2.get];unfold sat;omega
 refine st 62 (t_nx (o_t 61 rfl) rfl rfl) rfl rfl hL fun a s e_ hL=>?_;refine en' ?_;show K23 a s.w;refine hK23 _ _ ?_;refine wp_seq_k fun K24 hK24=>?_;refine cnd hL rfl (fun _=>?_) (fun hb3_=>by cases hb3_);refine wp_skip ?_;show K24 a s.w;refine hK24 _ _ ?_;refine wp_block ?_;refine wp_seq_k fun K25 hK25=>?_;refine rg ?_;refine st 63 (t_entry (o_t 60 rfl) (zd7 Tryz.underlying9) rfl rfl) rfl rfl hL fun a s e_ hL=>?_;refine st 64 (t_ext0 (o_t 63 rfl) rfl rfl) rfl rfl hL fun a s e_ hL=>?_;refine st 65 (zm4 (o_t 63 rfl) rfl rfl) rfl rfl hL fun a s e_ hL=>?_;have l8:=(zl5 (hL.get 8 rfl) g8 rfl).2;have lr:=hL.ilt 60 rfl r rfl;have lg:g<s.w.heap.size:=Nat.lt_of_lt_of_le hgs hL.ent.mv.size;refine zba En.SBranch (z:=(([],0):SBranch)) 12 hL zjq rfl rfl rfl rfl fun a s g12 hg12 hL=>?_;refine st 11 (zbi (o_t 64 rfl) rfl rfl) rfl rfl hL fun a s e_ hL=>?_;refine zpg (L':=[(0,Pd.ptr Efinder (d,some g)),(5,Pd.rep En.str (keyS t)),(8,Pd.map En.str kvStr En.SBranch s0.w.heap.size (some g8) out),(11,Pd.rep En.str p.1),(51,Pd.rep (En.slice (En.slice En.SItem)) (opn d t)),(52,Pd.rep (En.int .i64) ((opn d t).length:Int)),(53,Pd.rep (En.int .i64) (i:Int)),(60,Pd.iter En.str kvStr En.SBranch s0.w.heap.size r rem' (some p)),(999902,Pd.mapc En.str kvStr Efmp g ys2)]) 12 hL rfl (o_t 65 rfl) ty144 rfl rfl rfl
  (.cons (t:=0) rfl (fun _ h_=>h_.elim) (.cons (t:=5) rfl (fun _ h_=>h_.elim) (.cons (t:=8) rfl (fun b hb e=>by cases hb;cases e;omega) (.cons (t:=11) rfl (fun _ h_=>h_.elim) (.cons (t:=51) rfl (fun _ h_=>h_.elim) (.cons (t:=52) rfl (fun _ h_=>h_.elim) (.cons (t:=53) rfl (fun _ h_=>h_.elim) (.cons (t:=60) rfl (fun b hb e=>by cases hb;cases e;omega) (.cons (t:=999902) rfl (fun b hb e=>by cases hb;cases e;omega) .nil))))))))) fun s hL=>?_
 refine en' ?_;show K25 a s.w;refine hK25 _ _ ?_;refine wp_seq_k fun K26 hK26=>?_;refine rg ?_;refine st 66 (zt (o_t 8 rfl) rfl rfl) rfl rfl hL fun a s e_ hL=>?_;refine st 67 (zt (o_t 11 rfl) rfl rfl) rfl rfl hL fun a s e_ hL=>?_;refine st 68 (zpb (z:=(([],0):SBranch)) (o_t 66 rfl) (o_t 67 rfl) Tryz.underlying211 (zd7 Tryz.underlying9) tyvBranch rfl rfl) rfl rfl hL fun a s e_ hL=>?_;have l8:=(zl5 (hL.get 8 rfl) g8 rfl).2;have lr:=hL.ilt 60 rfl r rfl;have lg:g<s.w.heap.size:=Nat.lt_of_lt_of_le hgs hL.ent.mv.size;have l12:=hL.blt 12 rfl g12 rfl;refine zba En.SBranch (z:=(([],0):SBranch)) 13 hL zjq rfl rfl rfl rfl fun a s g13 hg13 hL=>?_;refine zpg (L':=[(0,Pd.ptr Efinder (d,some g)),(5,Pd.rep En.str (keyS t)),(8,Pd.map En.str kvStr En.SBranch s0.w.heap.size (some g8) out),(11,Pd.rep En.str p.1),(12,Pd.box En.SBranch s0.w.heap.size g12 p.2),(51,Pd.rep (En.slice (En.slice En.SItem)) (opn d t)),(52,Pd.rep (En.int .i64) ((opn d t).length:Int)),(53,Pd.rep (En.int .i64) (i:Int)),(60,Pd.iter En.str kvStr En.SBranch s0.w.heap.size r rem' (some p)),(999902,Pd.mapc En.str kvStr Efmp g ys2)]) 13 hL rfl (o_t 68 rfl) ty144 rfl rfl rfl
  (.cons (t:=0) rfl (fun _ h_=>h_.elim) (.cons (t:=5) rfl (fun _ h_=>h_.elim) (.cons (t:=8) rfl (fun b hb e=>by cases hb;cases e;omega) (.cons (t:=11) rfl (fun _ h_=>h_.elim) (.cons (t:=12) rfl (fun b hb e=>by cases hb;cases e;omega) (.cons (t:=51) rfl (fun _ h_=>h_.elim) (.cons (t:=52) rfl (fun _ h_=>h_.elim) (.cons (t:=53) rfl (fun _ h_=>h_.elim) (.cons (t:=60) rfl (fun b hb e=>by cases hb;cases e;omega) (.cons (t:=999902) rfl (fun b hb e=>by cases hb;cases e;omega) .nil)))))))))) fun s hL=>?_
 refine en' ?_;show K26 a s.w;refine hK26 _ _ ?_;refine rg ?_;refine st 69 (zt (o_t 8 rfl) rfl rfl) rfl rfl hL fun a s e_ hL=>?_;refine st 70 (zt (o_t 11 rfl) rfl rfl) rfl rfl hL fun a s e_ hL=>?_;refine st 71 (zp6 (off:=0) (o_t 12 rfl) Tryz.underlying144 rfl (zbg (zy _ _)) rfl ty62 rfl rfl) rfl rfl hL fun a s e_ hL=>?_;refine st 72 (zb3 ty62 (o_t 71 rfl) rfl rfl) rfl rfl hL fun a s e_ hL=>?_;refine st 73 (zp6 (off:=1) (o_t 13 rfl) Tryz.underlying144 rfl (zp (zy _ _) rfl) rfl ty3 rfl rfl) rfl rfl hL fun a s e_ hL=>?_;refine st 74 (zb3 ty3 (o_t 73 rfl) rfl rfl) rfl rfl hL fun a s e_ hL=>?_;refine st 75 (zp6 (off:=1) (o_t 12 rfl) Tryz.underlying144 rfl (zp (zy _ _) rfl) rfl ty3 rfl rfl) rfl rfl hL fun a s e_ hL=>?_;refine st 76 (zb3 ty3 (o_t 75 rfl) rfl rfl) rfl rfl hL fun a s e_ hL=>?_;refine st 77 (t_add (o_t 74 rfl) (o_t 76 rfl) (zi (by omega) (by omega)) rfl rfl) rfl rfl hL fun a s e_ hL=>?_;refine st 78 (t_min (o_t 77 rfl) (o_i (k:=.i64) (by decide)) rfl rfl) rfl rfl hL fun a s e_ hL=>?_;refine st 79 (zbm (x:=((p.2.1,min ((zd6 out p.1 (([],0):SBranch)).2+p.2.2) 2):SBranch)) (ps:=[(0,.tmp 72),(1,.tmp 78)]) zjq rfl stt144 (.cons (i:=0) (o_t 72 rfl) rfl (zv (zn _ _ _)) (.cons (i:=1) (o_t 78 rfl) rfl (zj (zn _ _ _) rfl) .nil)) rfl rfl) rfl rfl hL fun a s e_ hL=>?_;refine zgr (L':=[(0,Pd.ptr Efinder (d,some g)),(5,Pd.rep En.str (keyS t)),(8,Pd.map En.str kvStr En.SBranch s0.w.heap.size (some g8) (zfv out p.1 (p.2.1,min ((zd6 out p.1 (([],0):SBranch)).2+p.2.2) 2))),(51,Pd.rep (En.slice (En.slice En.SItem)) (opn d t)),(52,Pd.rep (En.int .i64) ((opn d t).length:Int)),(53,Pd.rep (En.int .i64) (i:Int)),(60,Pd.iter En.str kvStr En.SBranch s0.w.heap.size r rem' (some p)),(999902,Pd.mapc En.str kvStr Efmp g ys2)]) hL (o_t 69 rfl) (o_t 70 rfl) (o_t 79 rfl) Tryz.underlying211 (zd7 Tryz.underlying9) (.inl rfl) rfl rfl
  (.cons (t:=0) rfl (fun _ h_=>h_.elim) (.cons (t:=5) rfl (fun _ h_=>h_.elim) (.turn (t:=8) rfl (.cons (t:=51) rfl (fun _ h_=>h_.elim) (.cons (t:=52) rfl (fun _ h_=>h_.elim) (.cons (t:=53) rfl (fun _ h_=>h_.elim) (.cons (t:=60) rfl (fun b hb e=>by cases hb;cases e;omega) (.cons (t:=999902) rfl (fun b hb e=>by cases hb;cases e;omega) .nil)))))))) fun s hL=>?_
 refine en' ?_;have hpl:=hp.length_eq;simp only [List.length_cons] at hpl;exact hKM (k2-1) a s (by omega) ⟨rem',some p,_,by omega,hL,hleft2.tail.1,cnt_step hleft2 hout2⟩
theorem find_ok {d:List SNode} (hd:ROk d) (hk:DOk d) (hl4:d.length≤400) (g:Nat) (hd0:∃n,at? d 0=some n):∀(h:Nat) (t:List SItem) (l:List (List SItem)),lv d h t=some l→Vs d 400 t→∀xs,InvS d xs→FndOk d g t xs
 | 0,t,l,hl,_,_,_=>by simp [lv] at hl
 | h+1,t,l,hl,hv,xs,hxs=>find_step hd hk hl4 g (find_ok hd hk hl4 g hd0 h) hd0 hl hv hxs
theorem lv_vs {d:List SNode} (hd:ROk d) {n0:Nat}:∀(h:Nat) (t:List SItem) (l:List (List SItem)),lv d h t=some l→Vs d n0 t→∀u∈l,Vs d n0 u∧rdy d u=true
 | 0,t,l,hl,_=>by simp [lv] at hl
 | h+1,t,l,hl,hv=>by
  intro u hu;unfold lv at hl
  by_cases hr:rdy d t=true
  ·rw [if_pos hr] at hl;cases hl;rw [List.mem_singleton.1 hu];exact ⟨hv,hr⟩
  ·rw [if_neg hr] at hl;obtain ⟨ls,h1,h2⟩:=Option.map_eq_some_iff.1 hl;subst h2;obtain ⟨l',hl',hu'⟩:=List.mem_flatten.1 hu;obtain ⟨i,hi⟩:=List.getElem?_of_mem hl';have hil:i<(opn d t).length:=by rw [← zmr h1];exact (List.getElem?_eq_some_iff.1 hi).1
   obtain ⟨b,hb1,hb2⟩:=zq4 h1 hil;rw [hi] at hb2;cases hb2;exact lv_vs hd h _ _ hb1 (hv.opn hd (by simpa using hr) _ (List.getElem_mem hil)) u hu'
theorem zg6 {d_:SDesc} {s_:List SItem} {r_:List SBranch} (hh:zfh d_ s_ r_):Fn Tryz.prog 98 [Pd.rep En.SDesc d_,Pd.rep (En.slice En.SItem) s_] (Ro En.SBranch 144 r_):=by
 obtain ⟨hd,hk,hl4,hne,hf,hs4,hr31,h,l,hl,hcan⟩:=hh;have hv:Vs d_ 400 s_:=Vs.start hf hs4;refine zbp Tryz.func98 rfl Tryz.ntmps98 (by rfl) (by simp) fun s0 a hL=>?_;refine wp_seq_k fun K0 hK0=>?_;refine rg ?_;refine st 2 (t_box (o_t 0 rfl) rfl rfl) rfl rfl hL fun a s e_ hL=>?_;refine st 4 (zbi (q:=Pd.any) (fun _ _ _ _ _ _=>trivial) rfl rfl) rfl rfl hL fun a s e_ hL=>?_;refine en' ?_;show K0 a s.w;refine hK0 _ _ ?_;refine wp_seq_k fun K1 hK1=>?_;refine rg ?_;refine st 9 (zci ty24 (o_t 2 rfl) rfl rfl) rfl rfl hL fun a s e_ hL=>?_;refine zi3 10 En.str kvStr Efmp hL rfl rfl rfl rfl fun a s g hg hL=>?_;have hgN:s0.w.heap.size≤g:=(zl5 (hL.get 10 rfl) g rfl).1;have hL:=hL.mapc 10 999902 rfl;refine st 11 (zbm (x:=((d_,some g):SDesc × Option Nat)) (ps:=[(0,.tmp 9),(1,.tmp 10)]) tyzFinder rfl sttFinder (.cons (i:=0) (o_t 9 rfl) rfl (zv (zn _ _ _)) (.cons (i:=1) (o_t 10 rfl) rfl (zj (zn _ _ _) rfl) .nil)) rfl rfl) rfl rfl hL fun a s e_ hL=>?_;refine st 12 (t_box (o_t 11 rfl) rfl rfl) rfl rfl hL fun a s e_ hL=>?_;refine st 5 (zbi (o_t 12 rfl) rfl rfl) rfl rfl hL fun a s e_ hL=>?_;refine en' ?_;show K1 a s.w;refine hK1 _ _ ?_;refine wp_seq_k fun K2 hK2=>?_;refine rg ?_;refine st 6 (zbi (o_nil (E:=En.SBranch) (N:=s0.w.heap.size) (te:=144)) rfl rfl) rfl rfl hL fun a s e_ hL=>?_;refine en' ?_;show K2 a s.w;refine hK2 _ _ ?_;refine wp_seq_k fun K3 hK3=>?_;refine wp_seq_k fun K4 hK4=>?_;refine rg ?_;refine st 13 (zt (o_t 5 rfl) rfl rfl) rfl rfl hL fun a s e_ hL=>?_;refine st 14 (zt (o_t 1 rfl) rfl rfl) rfl rfl hL fun a s e_ hL=>?_
 have hd0:∃n,at? d_ 0=some n:=by
  cases d_ with
  | nil=>exact absurd rfl hne
  | cons n d=>exact ⟨n,rfl⟩
 refine st_callc (L':=[(6,Pd.row En.SBranch s0.w.heap.size 144 none [])]) 15 999902 hL (find_ok hd hk hl4 g hd0 h s_ l hl hv [] (InvS.nil _)) rfl (.inr hgN) (zs:=[.tmp 13,.tmp 14]) (.cons (o_t 13 rfl) (.cons (o_t 14 rfl) .nil)) rfl rfl rfl rfl
  (.cons (t:=6) rfl no_own .nil) fun a s im him hL=>?_
 obtain ⟨m,ys2⟩:=im;obtain ⟨⟨h2,l2,hl2,hm⟩,hys2⟩:=him;simp only at hl2 hm hys2;have hl2e:l2=l:=by
  have h3:=zim (Nat.le_max_left h2 h) hl2;have h4:=zim (Nat.le_max_right h2 h) hl;rw [h3] at h4;exact Option.some.inj h4
 subst hl2e;refine zp8 16 hL (o_t 15 rfl) Tryz.underlying211 rfl rfl rfl rfl fun a s r hr hL=>?_;refine en' ?_;show K4 a s.w;refine hK4 _ _ ?_;refine wp_block ?_;have J:∀(a:Act) (s:St) (og:Option Nat) (out:List SBranch),Has N0 28 s0 a s [(6,Pd.row En.SBranch s0.w.heap.size 144 og out)]→out.Perm (m.map (·.2))→K3 a s.w:=by
  intro a s og out hL hp;obtain ⟨hnd,hc2⟩:=hm.can hp;have hrr:r_=srtB out:=hcan.uniq hc2;have hlen:out.length≤2147483648:=by
   have:=(zgc out).length_eq;rw [hrr] at hr31;omega
  have hsrt:zgt out r_:=by
   refine ⟨hnd,fun b hb=>?_,hlen,hrr⟩;obtain ⟨p,hp1,hp2⟩:=List.mem_map.1 (hp.mem_iff.1 hb);obtain ⟨k,b'⟩:=p;simp only at hp2;subst hp2;have hc:=((hm.mem k _).1 hp1).2.1;have hmem:b'.1∈l2:=by
    rcases Nat.eq_zero_or_pos (l2.count b'.1) with h0 | h0
    ·exact absurd h0 hc
    ·exact List.count_pos_iff.1 h0
   have:=(lv_vs hd h s_ l2 hl hv _ hmem).1.len;omega
  refine hK3 _ _ ?_;refine wp_seq_k fun K7 hK7=>?_;refine rg ?_;refine st 25 (zt (o_t 6 rfl) rfl rfl) rfl rfl hL fun a s e_ hL=>?_;refine zj9 (L':=[(6,Pd.row En.SBranch s0.w.heap.size 144 og r_)]) 26 (fun v0=>zik v0 hsrt) hL (o_t 25 rfl) (zs:=[.func 122]) (.cons o_isf .nil) rfl rfl rfl rfl (.turn (t:=6) rfl .nil) fun a s hL=>?_;refine en' ?_;show K7 a s.w;refine hK7 _ _ ?_;refine wp_seq_k fun K8 hK8=>?_;refine rg ?_;refine st 27 (zt (o_t 6 rfl) rfl rfl) rfl rfl hL fun a s e_ hL=>?_;refine st 4 (zbi (o_t 27 rfl) rfl rfl) rfl rfl hL fun a s e_ hL=>?_;refine en' ?_;show K8 a s.w;refine hK8 _ _ ?_;exact wp_ret (zif rfl hL rfl)
 have hmlen:m.length≤2147483648:=by
  have hp:=(hm.can (List.Perm.refl (m.map (·.2)))).2;have e:=hcan.uniq hp;have:=(zgc (m.map (·.2))).length_eq;rw [e] at hr31;rw [List.length_map] at this;omega
 refine lpg (fun k a s=>∃(rem:List (Str × SBranch)) (cur:Option (Str × SBranch)) (og:Option Nat) (out:List SBranch),rem.length+1=k∧Has N0 28 s0 a s [(6,Pd.row En.SBranch s0.w.heap.size 144 og out),(16,Pd.iter En.str kvStr En.SBranch s0.w.heap.size r rem cur)]∧(∀b,og=some b→¬ some r=some b)∧(out++rem.map (·.2)).Perm (m.map (·.2)))
  (m.length+1) ⟨m,none,none,[],rfl,hL.keep (.cons (t:=6) rfl (fun _ _ h_=>h_) (.cons (t:=16) rfl (fun _ _ h_=>h_) .nil)),(fun b hb=>by cases hb),by simp⟩ ?_
 rintro k a s ⟨rem,cur,og,out,hrk,hL,hdis,hperm⟩ KL hKL;refine wp_seq_k fun K5 hK5=>?_;refine rg ?_;refine st_next (L':=[(6,Pd.row En.SBranch s0.w.heap.size 144 og out)]) 17 hL (x:=16) rfl rfl rfl rfl rfl (by decide) (.cons (t:=6) rfl hdis .nil) (fun a hrem hL=>?_) (fun a s p rem' hp hL=>?_)
 ·subst hrem;refine st 18 (t_nx (o_t 17 rfl) rfl rfl) rfl rfl hL fun a s e_ hL=>?_;refine en' ?_;show K5 a s.w;refine hK5 _ _ ?_;refine wp_seq_k fun K6 hK6=>?_;refine cnd hL rfl (fun hb3_=>by cases hb3_) (fun _=>?_);refine wp_exit ?_;exact J a s og out (hL.keep (.cons (t:=6) rfl (fun _ _ h_=>h_) .nil)) (by simpa using hperm)
 refine st 18 (t_nx (o_t 17 rfl) rfl rfl) rfl rfl hL fun a s e_ hL=>?_;refine en' ?_;show K5 a s.w;refine hK5 _ _ ?_;refine wp_seq_k fun K6 hK6=>?_;refine cnd hL rfl (fun _=>?_) (fun hb3_=>by cases hb3_);refine wp_skip ?_;show K6 a s.w;refine hK6 _ _ ?_;refine wp_block ?_;refine wp_seq_k fun K9 hK9=>?_;refine rg ?_;refine st 19 (t_entry (o_t 16 rfl) (zd7 Tryz.underlying9) rfl rfl) rfl rfl hL fun a s e_ hL=>?_;refine st 20 (zm4 (o_t 19 rfl) rfl rfl) rfl rfl hL fun a s e_ hL=>?_;have l6:=hL.rlt 6 rfl;have lr:=hL.ilt 16 rfl r rfl;refine zba En.SBranch (z:=(([],0):SBranch)) 8 hL zjq rfl rfl rfl rfl fun a s g8 hg8 hL=>?_;have d6:∀b,og=some b→¬ some g8=some b:=fun b hb e=>by cases e;have:=l6 g8 hb;omega
 refine zpg (L':=[(6,Pd.row En.SBranch s0.w.heap.size 144 og out),(16,Pd.iter En.str kvStr En.SBranch s0.w.heap.size r rem' (some p))]) 8 hL rfl (o_t 20 rfl) ty144 rfl rfl rfl (.cons (t:=6) rfl d6 (.cons (t:=16) rfl (fun b hb e=>by cases hb;cases e;omega) .nil)) fun s hL=>?_;refine en' ?_;show K9 a s.w;refine hK9 _ _ ?_;refine rg ?_;have hpl:=hp.length_eq;simp only [List.length_cons] at hpl;have hol:out.length+(rem.length:Nat)=m.length:=by
  have:=hperm.length_eq;simpa using this
 refine st 21 (zt (o_t 6 rfl) rfl rfl) rfl rfl hL fun a s e_ hL=>?_;refine st 22 (zlc ty144 (o_t 8 rfl) rfl rfl) rfl rfl hL fun a s e_ hL=>?_;refine st 23 (t_lit (xs:=[.tmp 22]) (.cons (o_t 22 rfl) .nil) Tryz.underlying141 ty144 rfl rfl (by decide) rfl rfl) rfl rfl hL fun a s e_ hL=>?_;have lr:=hL.ilt 16 rfl r rfl;refine zdo (L':=[(16,Pd.iter En.str kvStr En.SBranch s0.w.heap.size r rem' (some p))]) 24 hL (o_t 21 rfl) (o_t 23 rfl) Tryz.underlying141 ty144 (by simp;omega) rfl rfl rfl rfl (.cons (t:=16) rfl (fun b hb e=>hdis b e hb) .nil) fun a s og' hg' hL=>?_;refine st 6 (zbi (o_t 24 rfl) rfl rfl) rfl rfl hL fun a s e_ hL=>?_;refine en' ?_;refine hKL (k-1) a s (by omega) ⟨rem',some p,og',out++[p.2],by omega,hL.keep (.cons (t:=6) rfl (fun _ _ h_=>h_) (.cons (t:=16) rfl (fun _ _ h_=>h_) .nil)),fun b hb e=>?_, ?_⟩
 ·rcases hg' b hb with h3 | h3
  ·exact hdis b h3 e
  ·cases e;omega
 ·refine List.Perm.trans ?_ hperm;have h5:=hp.map (·.2);rw [List.map_cons] at h5;rw [List.append_assoc,List.singleton_append];exact (h5.symm.append_left out)
open Go.Shelf Go.Sort
theorem zlg (v0:Value) {x r:List SBranch} (h:zjt x r):Fm Tryz.prog 107 (fun b=>v0.ownBlock=some b) [Pd.prow En.SBranch 144 v0 x,Pd.is (.func (.func 108) #[] #[])] (fun _ s' _=>(Pd.prow En.SBranch 144 v0 r).p s' v0):=fm_branch (zdz Tryz.func108 rfl (by rfl)) h.1 h.2.2.1 h.2.2.2 (fun a ha b hb=>@next_On_1_ok true dLe _ _ _ ⟨_,zgn (h.2.1 a ha),rfl⟩) v0
end Go.Proofs.YtkbboemafklkkaaGreatDoor.V
namespace Go.Proofs.YtkbboemafklkkaaGreatDoor.V
open Go
set_option linter.unusedVariables false
set_option maxRecDepth 100000
set_option maxHeartbeats 2000000
set_option synthInstance.maxSize 100000
set_option synthInstance.maxHeartbeats 200000
theorem zkl {nv_:SNode} {ahead_:Int} {r_:(List SItem)} (h:zja nv_ ahead_ r_):Fn Tryz.prog 240 [(Pd.rep En.SNode nv_),(Pi ahead_)] (Ro En.SItem 114 r_):=by
 unfold zja at h;refine zbp Tryz.func240 J Tryz.ntmps240 (by rfl) (by simp) fun s0 a L=>?_;refine rs (sA 1 L fun a s L=>?_);refine sno En.SItem 114 L fun a s L=>?_;refine es (rs ?_);refine sA 2 L fun a s L=>?_;refine sv (zbm (x:=(1,nv_.2.1,0,0)) (ps:=[(0,.const (.int .i64 1)),(1,.tmp 6)]) zf2 J zly (.cons (i:=0) op J (zv (zn _ _ _)) (.cons (i:=1) op J (zj (zv (zn _ _ _)) J) .nil)) J J) L fun a s L=>?_;refine sA 1 L fun a s L=>?_;refine sv (zbm (x:=(5,0,ahead_,0)) (ps:=[(0,.const (.int .i64 5)),(2,.tmp 8)]) zf2 J zly (.cons (i:=0) op J (zv (zn _ _ _)) (.cons (i:=2) op J (zj (zj (zv (zn _ _ _)) J) J) .nil)) J J) L fun a s L=>?_;refine zfd (xs:=[.tmp 7,.tmp 9]) 10 L (.cons op (.cons op .nil)) Ud.h Tq.h J J (by decide) J J J J fun a s g1 hg_ L=>?_;refine sA 1 L fun a s L=>?_;refine es ?_;subst h;exact wp_ret (zif J L J)
theorem zlm {s_:Sstep_next} {r_:((List SItem) × Bool)} (h:zg3 s_ r_):Fn Tryz.prog 238 [(Pd.rep En.Sstep_next s_)] (Ro2 En.SItem 114 r_.1 (Pd.rep En.bool r_.2)):=by
 unfold zg3 at h;refine zbp Tryz.func238 J Tryz.ntmps238 (by rfl) (by simp) fun s0 a L=>?_;refine rs (sA 1 L fun a s L=>?_);refine sno En.SItem 114 L fun a s L=>?_;refine sA 1 L fun a s L=>?_;refine es (wp_seq_k fun K1 H1=>?_);refine rA 3 L fun a s L=>?_;refine wp_block (rA 2 L fun a s L=>?_);refine cn L h (fun h=>?_) fun h=>?_
 ·obtain ⟨r2,h3,h⟩:=h;refine rs (sA 5 L fun a s L=>?_);refine zet 14 L (zkl h3) opz J J J J fun a s og4 hg_ L=>?_;refine sA 2 L fun a s L=>?_;refine es ?_;subst h;exact wp_ret (zmg J L J J)
 ·refine rA 2 L fun a s L=>?_;refine cn L h (fun h=>?_) fun h=>?_
  ·refine rs ?_;refine sA 6 L fun a s L=>?_;refine sv (zbm (x:=(4,s_.2.1.2.1,s_.2.2,0)) (ps:=[(0,.const (.int .i64 4)),(1,.tmp 19),(2,.tmp 22)]) zf2 J zly (.cons (i:=0) op J (zv (zn _ _ _)) (.cons (i:=1) op J (zj (zv (zn _ _ _)) J) (.cons (i:=2) op J (zj (zj (zv (zn _ _ _)) J) J) .nil))) J J) L fun a s L=>?_;refine zfd (xs:=[.tmp 23]) 24 L (.cons op .nil) Ud.h Tq.h J J (by decide) J J J J fun a s g5 hg_ L=>?_;refine sA 2 L fun a s L=>?_;refine es ?_;subst h;exact wp_ret (zmg J L J J)
  ·refine wp_skip (H1 _ _ ?_);obtain ⟨r6,h7,h⟩:=h;refine rs (sl 6 (p1 (ziv h7)) L fun a s L=>?_);refine sno En.SItem 114 L fun a s L=>?_;refine sA 1 L fun a s L=>?_;refine es ?_;subst h;exact wp_ret (zmg J L J J)
theorem zll {s_:Sstep_next} {r_:((List SItem) × Bool)} (h:zg2 s_ r_):Fn Tryz.prog 239 [(Pd.rep En.Sstep_next s_)] (Ro2 En.SItem 114 r_.1 (Pd.rep En.bool r_.2)):=by
 unfold zg2 at h;refine zbp Tryz.func239 J Tryz.ntmps239 (by rfl) (by simp) fun s0 a L=>?_;refine rs (sA 1 L fun a s L=>?_);refine sno En.SItem 114 L fun a s L=>?_;refine sA 1 L fun a s L=>?_;refine es (rs ?_);refine sA 2 L fun a s L=>?_;refine zba En.SItem (z:=(0,0,0,0)) 4 L zf2 J J J J fun a s g1 hg_ L=>?_;refine sB 4 L fun s L=>?_;refine es ?_;obtain ⟨h2,h⟩:=h;refine rs (sA 4 L fun a s L=>?_);refine zc6 4 L J op op (zj (zj (zv (zn _ _ _)) J) J) Tq.h J J J ka fun s L=>?_;refine es (wp_seq_k fun K3 H3=>?_);obtain ⟨b4,h5,h⟩:=h;refine ra 7 (p1 h5) L fun a s L=>?_;refine cn L h (fun h=>?_) fun h=>?_
 ·obtain ⟨c6,h7,h⟩:=h;refine wp_seq ?_;replace L:=L.kk (L':=[(1,(Pd.ptr En.Sstep_next s_))]);refine rda zc1 12 [(Pd.ptr En.SNode s_.1),(Pd.ptr En.str s_.1.2.2.2.2.2.2),(Pd.rep En.str s_.1.2.2.2.2.2.2),(Pd.ptr En.SItem s_.2.1),(Pd.ptr (En.int .i64) s_.2.1.2.2.1),(Pi s_.2.1.2.2.1),(Pd.rep (En.int .u8) c6),(Pd.ptr (En.int .u8) s_.2.2),(Pd.rep (En.int .u8) s_.2.2),(Pd.rep En.bool (c6==s_.2.2)),(Pd.row En.SItem s0.w.heap.size 114 none ([]:(List SItem))),(Pd.rep En.bool (c6==s_.2.2))] L (by kernel_rfl) J J ?_ ?_
  ·refine zbf.cons (zlw (off:=0) (O 1 J) U223 J (zbg (zy _ _)) J ty40 J J) ?_;refine zbf.cons (zlw (off:=9) (O 18 J) U40 J (zp (zp (zp (zp (zp (zp (zy _ _) J) J) J) J) J) J) J ty9 J J) ?_;refine zbf.cons (zci ty9 (O 19 J) J J) ?_;refine zbf.cons (zlw (off:=10) (O 1 J) U223 J (zp (zbg (zy _ _)) J) J zie J J) ?_;refine zbf.cons (zlw (off:=2) (O 21 J) U114 J (zp (zp (zbg (zy _ _)) J) J) J ty3 J J) ?_;refine zbf.cons (zci ty3 (O 22 J) J J) ?_;refine zbf.cons (t_sidx (O 20 J) (O 23 J) h7 U9 J J) ?_;refine zbf.cons (zlw (off:=14) (O 1 J) U223 J (zp (zp (zy _ _) J) J) J ty5 J J) ?_;refine zbf.cons (zci ty5 (O 25 J) J J) ?_;refine zbf.cons (t_eqi (O 24 J) (O 26 J) J J) ?_;refine zbf.cons (zbi (o_nil (E:=En.SItem) (N:=s0.w.heap.size) (te:=114)) J J) ?_;refine zbf.cons (zbi (O 27 J) J J) ?_;exact zbf.nil
  intro a s _ L;replace L:=L.kk (L':=[(2,(Pd.row En.SItem s0.w.heap.size 114 none ([]:(List SItem)))),(3,(Pd.rep En.bool (c6==s_.2.2)))]);refine dp ?_;refine es ?_;subst h;exact wp_ret (zmg J L J J)
 ·refine wp_skip (H3 _ _ ?_);obtain ⟨c10,h11,h⟩:=h;refine wp_seq ?_;obtain ⟨K8,H8,nK8,L⟩:=L.mark 999983;have lt9:∀k,(some g1)=some k→k<K8:=by rw [H8];exact L.blt 4 rfl
  replace L:=L.kk (L':=[(999983,Pd.ge K8),(1,(Pd.ptr En.Sstep_next s_)),(4,(Pd.box En.SItem s0.w.heap.size g1 (s_.2.1.1,s_.2.1.2.1,s_.2.1.2.2.1+1,s_.2.1.2.2.2)))]);refine rda zc1 14 [(Pd.rep En.SItem (s_.2.1.1,s_.2.1.2.1,s_.2.1.2.2.1+1,s_.2.1.2.2.2)),(Pd.erow En.SItem s0.w.heap.size K8 114 [(s_.2.1.1,s_.2.1.2.1,s_.2.1.2.2.1+1,s_.2.1.2.2.2)]),(Pd.ptr En.SNode s_.1),(Pd.ptr En.str s_.1.2.2.2.2.2.2),(Pd.rep En.str s_.1.2.2.2.2.2.2),(Pd.ptr En.SItem s_.2.1),(Pd.ptr (En.int .i64) s_.2.1.2.2.1),(Pi s_.2.1.2.2.1),(Pd.rep (En.int .u8) c10),(Pd.ptr (En.int .u8) s_.2.2),(Pd.rep (En.int .u8) s_.2.2),(Pd.rep En.bool (c10==s_.2.2)),(Pd.erow En.SItem s0.w.heap.size K8 114 [(s_.2.1.1,s_.2.1.2.1,s_.2.1.2.2.1+1,s_.2.1.2.2.2)]),(Pd.rep En.bool (c10==s_.2.2))] L (by kernel_rfl) J J ?_ ?_
  ·refine zbf.cons (zlc zie (O 4 J) J J) ?_;refine zbf.cons (t_litx (xs:=[.tmp 28]) (K:=K8) (m:=999983) J nK8 (.cons (O 28 J) .nil) U61 zie J J (by decide) J J) ?_;refine zbf.cons (zlw (off:=0) (O 1 J) U223 J (zbg (zy _ _)) J ty40 J J) ?_;refine zbf.cons (zlw (off:=9) (O 30 J) U40 J (zp (zp (zp (zp (zp (zp (zy _ _) J) J) J) J) J) J) J ty9 J J) ?_;refine zbf.cons (zci ty9 (O 31 J) J J) ?_;refine zbf.cons (zlw (off:=10) (O 1 J) U223 J (zp (zbg (zy _ _)) J) J zie J J) ?_;refine zbf.cons (zlw (off:=2) (O 33 J) U114 J (zp (zp (zbg (zy _ _)) J) J) J ty3 J J) ?_;refine zbf.cons (zci ty3 (O 34 J) J J) ?_;refine zbf.cons (t_sidx (O 32 J) (O 35 J) h11 U9 J J) ?_;refine zbf.cons (zlw (off:=14) (O 1 J) U223 J (zp (zp (zy _ _) J) J) J ty5 J J) ?_;refine zbf.cons (zci ty5 (O 37 J) J J) ?_;refine zbf.cons (t_eqi (O 36 J) (O 38 J) J J) ?_;refine zbf.cons (zbi (O 29 J) J J) ?_;refine zbf.cons (zbi (O 39 J) J J) ?_;exact zbf.nil
  intro a s _ L;obtain ⟨og12,hg_,L⟩:=L.openr 2 rfl;have d13:=Dis.new hg_ lt9;replace L:=L.kk (L':=[(2,(Pd.row En.SItem s0.w.heap.size 114 og12 [(s_.2.1.1,s_.2.1.2.1,s_.2.1.2.2.1+1,s_.2.1.2.2.2)])),(3,(Pd.rep En.bool (c10==s_.2.2)))]);refine dp ?_;refine es ?_;subst h;exact wp_ret (zmg J L J J)
theorem zln {s_:Sstep_next} {r_:((List SItem) × Bool)} (h:zg4 s_ r_):Fn Tryz.prog 236 [(Pd.rep En.Sstep_next s_)] (Ro2 En.SItem 114 r_.1 (Pd.rep En.bool r_.2)):=by
 unfold zg4 at h;refine zbp Tryz.func236 J Tryz.ntmps236 (by rfl) (by simp) fun s0 a L=>?_;refine rs (sA 1 L fun a s L=>?_);refine sno En.SItem 114 L fun a s L=>?_;refine sA 1 L fun a s L=>?_;refine es ?_;obtain ⟨h1,h2,r3,h4,h⟩:=h;refine rs (sA 10 L fun a s L=>?_);refine zet 14 L (zkl h4) opz J J J J fun a s og5 hg_ L=>?_;refine sA 2 L fun a s L=>?_;refine es ?_;subst h;exact wp_ret (zmg J L J J)
theorem dyn0_ok {f_:Option Nat} {x0_:Sstep_next} {r_:((List SItem) × Bool)} (h:dyn0 f_ x0_ r_):∃f,f_=some f∧Fn Tryz.prog f [Pd.rep En.Sstep_next x0_] (Rq (Pd.tup2 (Pd.rep (En.slice En.SItem) r_.1) (Pd.rep En.bool r_.2))):=by
 rcases h with ⟨e,h⟩ | ⟨e,h⟩ | ⟨e,h⟩
 ·exact ⟨238,e,((zlm h).frz2 (Pd.rep_stable _ _)).tup⟩
 ·exact ⟨239,e,((zll h).frz2 (Pd.rep_stable _ _)).tup⟩
 ·exact ⟨236,e,((zln h).frz2 (Pd.rep_stable _ _)).tup⟩
theorem next_Read_ok {d_:SDesc} {s_:(List SItem)} {cv_:Int} {r_:((List SItem) × Bool)} (h:zkm d_ s_ cv_ r_):Fn Tryz.prog 106 [(Pd.rep En.SDesc d_),(Pd.rep (En.slice En.SItem) s_),(Pd.rep (En.int .u8) cv_)] (Ro2 En.SItem 114 r_.1 (Pd.rep En.bool r_.2)):=by
 unfold zkm at h;refine zbp Tryz.func106 J Tryz.ntmps106 (by rfl) (by simp) fun s0 a L=>?_;refine rs (sA 1 L fun a s L=>?_);refine sno En.SItem 114 L fun a s L=>?_;refine sA 1 L fun a s L=>?_;refine es (wp_seq_k fun K1 H1=>?_);refine rA 3 L fun a s L=>?_;refine cn L h (fun h=>?_) fun h=>?_
 ·refine rs ?_;refine sno En.SItem 114 L fun a s L=>?_;refine sA 1 L fun a s L=>?_;refine es ?_;subst h;exact wp_ret (zmg J L J J)
 ·refine wp_skip (H1 _ _ ?_);obtain ⟨h2,r3,h4,h⟩:=h;refine ra 8 (pp (((zre h4).frz2 (Pd.rep_stable _ _)).tup) trivial) L fun a s L=>?_;obtain ⟨e5,h6,h⟩:=h;refine wp_seq (rda zc1 11 [(Pd.rep (En.fmap (En.int .i64) kvI64 En.fid) gfm0),(Pd.rep (En.slice En.SItem) s_),(Pd.ptr En.SItem e5),(Pd.ptr (En.int .i64) e5.1),(Pi e5.1),(Pd.tup2 (Pd.rep En.fid (zd6 gfm0 e5.1 none)) (Pd.rep En.bool (zhh gfm0 e5.1))),(Pd.tup2 (Pd.rep En.fid (zd6 gfm0 e5.1 none)) (Pd.rep En.bool (zhh gfm0 e5.1))),(Pd.rep En.fid (zd6 gfm0 e5.1 none)),(Pd.rep En.bool (zhh gfm0 e5.1)),(Pd.rep En.fid (zd6 gfm0 e5.1 none)),(Pd.rep En.bool (zhh gfm0 e5.1))] L (by kernel_rfl) J J ?_ ?_)
  ·refine zbf.cons (zci (⟨⟨_,_,J,J,J,J,by decide⟩,_,J,J⟩:Ty Tryz.prog 220 (En.fmap (En.int .i64) kvI64 En.fid)) (o_gm (g:=0) (by simp [gmap])) J J) ?_;refine zbf.cons (zt (O 1 J) J J) ?_;refine zbf.cons (t_idx (O 25 J) oI h6 U62 zie J J) ?_;refine zbf.cons (zlw (off:=0) (O 26 J) U114 J (zbg (zy _ _)) J ty3 J J) ?_;refine zbf.cons (zci ty3 (O 27 J) J J) ?_;refine zbf.cons (t_mgetfok (z:=none) (O 24 J) (O 28 J) U220 (key_i64 U3) (⟨_,[.nilFunc],J,by rfl,fun _ _=>J⟩:TyV Tryz.prog 218 En.fid none) J J) ?_;refine zbf.cons (zt (O 29 J) J J) ?_;refine zbf.cons (t_ext0 (O 23 J) J J) ?_;refine zbf.cons (zm4 (O 23 J) J J) ?_;refine zbf.cons (zbi (O 30 J) J J) ?_;refine zbf.cons (zbi (O 31 J) J J) ?_;exact zbf.nil
  intro a s _ L;replace L:=L.kk (L':=[(1,(Pd.rep (En.slice En.SItem) s_)),(2,(Pd.rep (En.int .u8) cv_)),(3,(Pd.ptr En.SDesc d_)),(8,(Pd.rep (En.slice En.SItem) r3.1)),(9,(Pd.rep En.bool r3.2)),(10,(Pd.rep En.fid (zd6 gfm0 e5.1 none))),(11,(Pd.rep En.bool (zhh gfm0 e5.1)))]);refine dp ?_;refine es (wp_seq_k fun K7 H7=>?_);refine rA 6 L fun a s L=>?_;refine cn L h (fun h=>?_) fun h=>?_
  ·refine rs ?_;refine sno En.SItem 114 L fun a s L=>?_;refine sA 1 L fun a s L=>?_;refine es ?_;subst h;exact wp_ret (zmg J L J J)
  ·refine wp_skip (H7 _ _ ?_);obtain ⟨e8,h9,e10,h11,e12,h13,r14,h15,h⟩:=h;refine wp_seq (rda zc1 20 [(Pd.rep En.fid (zd6 gfm0 e5.1 none)),(Pd.ptr (En.slice En.SNode) d_),(Pd.rep (En.slice En.SNode) d_),(Pd.rep (En.slice En.SItem) s_),(Pd.ptr En.SItem e8),(Pd.ptr (En.int .i64) e8.2.1),(Pi e8.2.1),(Pd.ptr En.SNode e10),(Pd.rep En.SNode e10),(Pd.rep (En.slice En.SItem) s_),(Pd.ptr En.SItem e12),(Pd.rep En.SItem e12),(Pd.rep (En.int .u8) cv_),(Pd.rep En.Sstep_next (e10,e12,cv_)),(Pd.tup2 (Pd.rep (En.slice En.SItem) r14.1) (Pd.rep En.bool r14.2)),(Pd.tup2 (Pd.rep (En.slice En.SItem) r14.1) (Pd.rep En.bool r14.2)),(Pd.rep (En.slice En.SItem) r14.1),(Pd.rep En.bool r14.2),(Pd.rep (En.slice En.SItem) r14.1),(Pd.rep En.bool r14.2)] L (by kernel_rfl) J J ?_ ?_)
   ·refine zbf.cons (zt (O 10 J) J J) ?_;refine zbf.cons (zlw (off:=0) (O 3 J) U24 J (zki (zy _ _)) J ty22 J J) ?_;refine zbf.cons (zci ty22 (O 40 J) J J) ?_;refine zbf.cons (zt (O 1 J) J J) ?_;refine zbf.cons (t_idx (O 42 J) oI h9 U62 zie J J) ?_;refine zbf.cons (zlw (off:=1) (O 43 J) U114 J (zp (zbg (zy _ _)) J) J ty3 J J) ?_;refine zbf.cons (zci ty3 (O 44 J) J J) ?_;refine zbf.cons (t_idx (O 41 J) (O 45 J) h11 U22 ty40 J J) ?_;refine zbf.cons (zci ty40 (O 46 J) J J) ?_;refine zbf.cons (zt (O 1 J) J J) ?_;refine zbf.cons (t_idx (O 48 J) oI h13 U62 zie J J) ?_;refine zbf.cons (zci zie (O 49 J) J J) ?_;refine zbf.cons (zt (O 2 J) J J) ?_;refine zbf.cons (zbm (x:=(e10,e12,cv_)) (ps:=[(0,.tmp 47),(1,.tmp 50),(2,.tmp 51)]) tyz223 J stt223 (.cons (i:=0) (O 47 J) J (zv (zn _ _ _)) (.cons (i:=1) (O 50 J) J (zj (zv (zn _ _ _)) J) (.cons (i:=2) (O 51 J) J (zj (zj (zn _ _ _) J) J) .nil))) J J) ?_;refine zbf.cons (t_callid (dyn0_ok h15) (O 39 J) (xs:=[.tmp 52]) (.cons (O 52 J) .nil) J J) ?_;refine zbf.cons (zt (O 53 J) J J) ?_;refine zbf.cons (t_ext0 (O 38 J) J J) ?_;refine zbf.cons (zm4 (O 38 J) J J) ?_;refine zbf.cons (zbi (O 54 J) J J) ?_;refine zbf.cons (zbi (O 55 J) J J) ?_;exact zbf.nil
   intro a s _ L;replace L:=L.kk (L':=[(8,(Pd.rep (En.slice En.SItem) r3.1)),(12,(Pd.rep (En.slice En.SItem) r14.1)),(13,(Pd.rep En.bool r14.2))]);refine dp ?_;refine es (wp_seq_k fun K16 H16=>?_);refine rA 2 L fun a s L=>?_;refine cn L h (fun h=>?_) fun h=>?_
   ·refine rs ?_;refine sno En.SItem 114 L fun a s L=>?_;refine sA 1 L fun a s L=>?_;refine es ?_;subst h;exact wp_ret (zmg J L J J)
   ·refine wp_skip (H16 _ _ ?_);obtain ⟨r17,h18,h⟩:=h;refine rs (sA 3 L fun a s L=>?_);refine zet 61 L (zc8 h18) opz J J J J fun a s og19 hg_ L=>?_;refine sA 2 L fun a s L=>?_;refine es ?_;subst h;exact wp_ret (zmg J L J J)
theorem next_On_ok {d_:SDesc} {s_:(List SItem)} {cv_:Int} {r_:(List SBranch)} (h:zbn d_ s_ cv_ r_):Fn Tryz.prog 80 [(Pd.rep En.SDesc d_),(Pd.rep (En.slice En.SItem) s_),(Pd.rep (En.int .u8) cv_)] (Ro En.SBranch 144 r_):=by
 unfold zbn at h;refine zbp Tryz.func80 J Tryz.ntmps80 (by rfl) (by simp) fun s0 a L=>?_;refine rs (sA 1 L fun a s L=>?_);refine sno En.SBranch 144 L fun a s L=>?_;refine es (rs ?_);refine zi3 15 En.str kvStr (En.int .i64) L J J J J fun a s g1 hg_ L=>?_;refine sA 1 L fun a s L=>?_;refine es (rs ?_);refine sno En.SBranch 144 L fun a s L=>?_;refine es (wp_seq_k fun K2 H2=>?_);obtain ⟨r3,h4,h⟩:=h;refine ra 5 (p1 ((zg6 h4).frz)) L fun a s L=>?_;refine wp_block ?_;have J9:∀(many5:(List (Str × Int))) (out7:(List SBranch)) (og6:Option Nat) (og8:Option Nat) (a:Act) (s:St),Has N0 76 s0 a s [(7,(Pd.map En.str kvStr (En.int .i64) s0.w.heap.size og6 many5)),(8,(Pd.row En.SBranch s0.w.heap.size 144 og8 out7))]→Dis og6 og8→((zbn.j2 r_) many5 out7)→K2 a s.w:=by
  intro many5 out7 og6 og8 a s L d10 h;unfold zbn.j2 at h;show K2 a s.w;refine H2 _ _ (wp_seq_k fun K11 H11=>?_);refine rA 3 L fun a s L=>?_;refine wp_block ?_;have J14:∀(out12:(List SBranch)) (og13:Option Nat) (a:Act) (s:St),Has N0 76 s0 a s [(8,(Pd.row En.SBranch s0.w.heap.size 144 og13 out12))]→((zbn.j1 r_) out12)→K11 a s.w:=by
   intro out12 og13 a s L h;unfold zbn.j1 at h;show K11 a s.w;refine H11 _ _ ?_;obtain ⟨r15,h16,h⟩:=h;refine rs (sA 1 L fun a s L=>?_);refine zj9 74 (fun v0=>zlg v0 h16) L op (zs:=[.func 108]) (.cons o_isf .nil) J J J J kw fun a s L=>?_;refine es (rA 2 L fun a s L=>?_);subst h;exact wp_ret (zif J L J)
  obtain ⟨k20,h⟩:=h;refine lpn (fun k21 a s=>∃(out17:(List SBranch)) (v19:Int) (og18:Option Nat),Has N0 76 s0 a s [(7,(Pd.map En.str kvStr (En.int .i64) s0.w.heap.size og6 many5)),(8,(Pd.row En.SBranch s0.w.heap.size 144 og18 out17)),(56,(Pi (out7.length:Int))),(57,(Pi v19))]∧Dis og6 og18∧zbn.l1 many5 out7 (zbn.j1 r_) k21 out17 v19) k20 ⟨out7,0,og8,L.kk,d10,h⟩ ?_;rintro k21 a s ⟨out17,v19,og18,L,d23,h⟩ KL22 hKL22;unfold zbn.l1 at h;refine rA 1 L fun a s L=>?_;refine wp_seq_k fun K24 H24=>cn L h (fun h=>?_) fun h=>?_
  ·refine wp_skip (H24 _ _ ?_);refine wp_seq_k fun K25 H25=>wp_block (rA 2 L fun a s L=>?_);obtain ⟨e26,h27,r28,h29,e30,h31,h⟩:=h;refine rg (sl 9 (pp h27 (p1 (zh2 h29))) L fun a s L=>?_);refine sv (zpb op op Ud.h (zd7 Ud.h) tyv3 J J) L fun a s L=>?_;refine sl 2 (p1 h31) L fun a s L=>?_;refine st_stor (off:=1) 8 L J h31 op op (zj (zn _ _ _) J) Tq.h J J J kw fun s L=>?_;refine en' (H25 _ _ ?_);obtain ⟨h32,h⟩:=h;refine rg (sA 2 L fun a s L=>?_);refine en' ?_;exact hKL22 a s ⟨(out17.set (v19:Int).toNat (e30.1,(zd6 many5 r28 0))),(v19+1),og18,L.kk,d23,h⟩
  ·refine wp_exit ?_;exact J14 out17 og18 a s (L.kk) h
 obtain ⟨k38,h⟩:=h;refine lpn (fun k39 a s=>∃(many33:(List (Str × Int))) (out35:(List SBranch)) (v37:Int) (og34:Option Nat) (og36:Option Nat),Has N0 76 s0 a s [(2,(Pd.rep (En.int .u8) cv_)),(3,(Pd.ptr En.SDesc d_)),(7,(Pd.map En.str kvStr (En.int .i64) s0.w.heap.size og34 many33)),(8,(Pd.row En.SBranch s0.w.heap.size 144 og36 out35)),(18,(Pd.rep (En.slice En.SBranch) r3)),(19,(Pi (r3.length:Int))),(20,(Pi v37))]∧Dis og34 og36∧zbn.l2 d_ cv_ r3 (zbn.j2 r_) k39 many33 out35 v37) k38 ⟨([]:(List (Str × Int))),([]:(List SBranch)),0,(some g1),none,L.kk,(Dis.symm Dis.none),h⟩ ?_;rintro k39 a s ⟨many33,out35,v37,og34,og36,L,d41,h⟩ KL40 hKL40;unfold zbn.l2 at h;refine rA 1 L fun a s L=>?_;refine wp_seq_k fun K42 H42=>cn L h (fun h=>?_) fun h=>?_
 ·refine wp_skip (H42 _ _ ?_);refine wp_seq_k fun K43 H43=>wp_block ?_;obtain ⟨e44,h45,h⟩:=h;refine rs (sl 2 (p1 h45) L fun a s L=>?_);have lt_d48:=L.rlt 8 rfl;have lt_d47:=L.mlt 7 rfl;refine zba En.SBranch (z:=([],0)) 10 L zjq J J J J fun a s g46 hg_ L=>?_;have d47:=Dis.newg hg_ lt_d47;have d48:=Dis.newg hg_ lt_d48;refine sB 10 L fun s L=>?_;refine es ?_;obtain ⟨r49,h50,h⟩:=h;refine ra 10 (pp (((next_Read_ok h50).frz2 (Pd.rep_stable _ _)).tup) trivial) L fun a s L=>?_;refine wp_seq_k fun K51 H51=>rA 2 L fun a s L=>?_;refine cn L h (fun h=>?_) fun h=>?_
  ·refine wp_exit ?_;show K43 a s.w;refine H43 _ _ ?_;obtain ⟨h52,h⟩:=h;refine rg (sA 2 L fun a s L=>?_);refine en' ?_;exact hKL40 a s ⟨many33,out35,(v37+1),og34,og36,L.kk,d41,h⟩
  ·refine wp_skip (H51 _ _ ?_);obtain ⟨r53,h54,h⟩:=h;refine ra 3 (p1 (zh2 h54)) L fun a s L=>?_;refine wp_seq_k fun K55 H55=>rs (sA 2 L fun a s L=>?_);refine sv (zpb op op Ud.h (zd7 Ud.h) tyv3 J J) L fun a s L=>?_;refine sA 1 L fun a s L=>?_;refine es ?_;have J58:∀(out56:(List SBranch)) (og57:Option Nat) (a:Act) (s:St),Has N0 76 s0 a s [(2,(Pd.rep (En.int .u8) cv_)),(3,(Pd.ptr En.SDesc d_)),(7,(Pd.map En.str kvStr (En.int .i64) s0.w.heap.size og34 many33)),(8,(Pd.row En.SBranch s0.w.heap.size 144 og57 out56)),(10,(Pd.box En.SBranch s0.w.heap.size g46 e44)),(13,(Pd.rep En.str r53)),(18,(Pd.rep (En.slice En.SBranch) r3)),(19,(Pi (r3.length:Int))),(20,(Pi v37))]→Dis og34 og57→Dis og34 (some g46)→Dis og57 (some g46)→((zbn.j3 (zbn.l2 d_ cv_ r3 (zbn.j2 r_) k39) many33 v37 e44 r53) out56)→K55 a s.w:=by
    intro out56 og57 a s L d59 d60 d61 h;unfold zbn.j3 at h;show K55 a s.w;refine H55 _ _ ?_;obtain ⟨h62,h⟩:=h;refine rg (sA 4 L fun a s L=>?_);refine sv (zpb op op Ud.h (zd7 Ud.h) tyv3 J J) L fun a s L=>?_;refine sA 4 L fun a s L=>?_;refine zgr L op op op Ud.h (zd7 Ud.h) (.inl J) J J kw fun s L=>?_;refine en' (H43 _ _ ?_);obtain ⟨h63,h⟩:=h;refine rg (sA 2 L fun a s L=>?_);refine en' ?_;exact hKL40 a s ⟨(zfv many33 r53 (min ((zd6 many33 r53 0)+e44.2) 2)),out56,(v37+1),og34,og57,L.kk,d59,h⟩
   refine cn L h (fun h=>?_) fun h=>?_
   ·obtain ⟨h64,h⟩:=h;refine rg (sA 2 L fun a s L=>?_);refine sv (zbm (x:=(r49.1,0)) (ps:=[(0,.tmp 41)]) zjq J stt144 (.cons (i:=0) op J (zv (zn _ _ _)) .nil) J J) L fun a s L=>?_;refine sA 1 L fun a s L=>?_;have lt_og65_0:=L.mlt 7 rfl;have lt_og65_1:=L.blt 10 rfl;refine zdo 44 L op op Ud.h Tq.h h64 J J J J ka fun a s og65 hg_ L=>?_;have d66:=Dis.app hg_ (Dis.symm d41) lt_og65_0;have d67:=Dis.app hg_ (Dis.symm d48) lt_og65_1;refine sA 1 L fun a s L=>?_;refine en' ?_;exact J58 (out35++[(r49.1,0)]) og65 a s (L.kk) (Dis.symm d66) (Dis.symm d47) d67 h
   ·refine wp_skip ?_;exact J58 out35 og36 a s (L.kk) d41 (Dis.symm d47) (Dis.symm d48) h
 ·refine wp_exit ?_;exact J9 many33 out35 og34 og36 a s (L.kk) d41 h
theorem next_Ends_ok {d_:SDesc} {s_:(List SItem)} {r_:Int} (h:zcr d_ s_ r_):Fn Tryz.prog 67 [(Pd.rep En.SDesc d_),(Pd.rep (En.slice En.SItem) s_)] (Rq (Pi r_)):=by
 unfold zcr at h;refine zbp Tryz.func67 J Tryz.ntmps67 (by rfl) (by simp) fun s0 a L=>?_;refine rA 2 L fun a s L=>?_;refine wp_seq_k fun K1 H1=>?_;obtain ⟨r2,h3,h⟩:=h;refine ra 5 (p1 ((zg6 h3).frz)) L fun a s L=>?_;refine wp_block ?_;have J4:∀(a:Act) (s:St),Has N0 22 s0 a s []→((zcr.j1 r_))→K1 a s.w:=by
  intro a s L h;unfold zcr.j1 at h;show K1 a s.w;refine H1 _ _ (rA 1 L fun a s L=>?_);subst h;exact wp_ret (zdw J L J)
 obtain ⟨k6,h⟩:=h;refine lpn (fun k7 a s=>∃(v5:Int),Has N0 22 s0 a s [(9,(Pd.rep (En.slice En.SBranch) r2)),(10,(Pi (r2.length:Int))),(11,(Pi v5))]∧zcr.l1 r2 r_ (zcr.j1 r_) k7 v5) k6 ⟨0,L.kk,h⟩ ?_;rintro k7 a s ⟨v5,L,h⟩ KL8 hKL8;unfold zcr.l1 at h;refine rA 1 L fun a s L=>?_;refine wp_seq_k fun K9 H9=>cn L h (fun h=>?_) fun h=>?_
 ·refine wp_skip (H9 _ _ ?_);refine wp_seq_k fun K10 H10=>wp_block ?_;obtain ⟨e11,h12,h⟩:=h;refine rs (sl 2 (p1 h12) L fun a s L=>?_);refine zba En.SBranch (z:=([],0)) 6 L zjq J J J J fun a s g13 hg_ L=>?_;refine sB 6 L fun s L=>?_;refine es (rA 4 L fun a s L=>?_);refine cn L h (fun h=>?_) fun h=>?_
  ·refine rA 3 L fun a s L=>?_;subst h;exact wp_ret (zdw J L J)
  ·refine wp_skip (H10 _ _ ?_);obtain ⟨h14,h⟩:=h;refine rg (sA 2 L fun a s L=>?_);refine en' ?_;exact hKL8 a s ⟨(v5+1),L.kk,h⟩
 ·refine wp_exit ?_;exact J4 a s (L.kk) h
theorem znv  {r_:(List Cl)} (h:zbs  r_):Fn Tryz.prog 128 [] (Ro En.cls 38 r_):=by
 unfold zbs at h;refine zbp Tryz.func128 J Tryz.ntmps128 (by rfl) (by simp) fun s0 a L=>?_;refine rs (sno En.cls 38 L fun a s L=>?_);refine es (rs ?_);refine sno En.cls 38 L fun a s L=>?_;refine es (wp_seq_k fun K1 H1=>?_);refine rA 1 L fun a s L=>?_;refine wp_block ?_;have J4:∀(out2:(List Cl)) (og3:Option Nat) (a:Act) (s:St),Has N0 16 s0 a s [(1,(Pd.row En.cls s0.w.heap.size 38 og3 out2))]→((zbs.j1 r_) out2)→K1 a s.w:=by
  intro out2 og3 a s L h;unfold zbs.j1 at h;show K1 a s.w;refine H1 _ _ (rA 2 L fun a s L=>?_);subst h;exact wp_ret (zif J L J)
 obtain ⟨k8,h⟩:=h;refine lpn (fun k9 a s=>∃(out5:(List Cl)) (v7:Int) (og6:Option Nat),Has N0 16 s0 a s [(1,(Pd.row En.cls s0.w.heap.size 38 og6 out5)),(3,(Pi v7))]∧zbs.l1 (zbs.j1 r_) k9 out5 v7) k8 ⟨([]:(List Cl)),0,none,L.kk,h⟩ ?_;rintro k9 a s ⟨out5,v7,og6,L,h⟩ KL10 hKL10;unfold zbs.l1 at h;refine rA 1 L fun a s L=>?_;refine wp_seq_k fun K11 H11=>cn L h (fun h=>?_) fun h=>?_
 ·refine wp_skip (H11 _ _ ?_);refine wp_seq_k fun K12 H12=>wp_block (rA 2 L fun a s L=>?_);obtain ⟨r13,h14,h15,h⟩:=h;refine rg (sl 7 (p1 (zoe h14)) L fun a s L=>?_);refine zdo 13 L op op Ud.h Tq.h h15 J J J J ka fun a s og16 hg_ L=>?_;refine sA 1 L fun a s L=>?_;refine en' (H12 _ _ ?_);obtain ⟨h17,h⟩:=h;refine rg (sA 2 L fun a s L=>?_);refine en' ?_;exact hKL10 a s ⟨(out5++[r13]),(v7+1),og16,L.kk,h⟩
 ·refine wp_exit ?_;exact J4 out5 og6 a s (L.kk) h
theorem znx {d_:SDesc} {s_:(List SItem)} {r_:(List Cl)} (h:zbh d_ s_ r_):Fn Tryz.prog 105 [(Pd.rep En.SDesc d_),(Pd.rep (En.slice En.SItem) s_)] (Ro En.cls 38 r_):=by
 unfold zbh at h;refine zbp Tryz.func105 J Tryz.ntmps105 (by rfl) (by simp) fun s0 a L=>?_;refine rs (sA 1 L fun a s L=>?_);refine sno En.cls 38 L fun a s L=>?_;refine es (rs ?_);refine sno En.cls 38 L fun a s L=>?_;refine es (wp_seq_k fun K1 H1=>?_);obtain ⟨r2,h3,h⟩:=h;refine ra 5 (p1 ((zg6 h3).frz)) L fun a s L=>?_;refine wp_block ?_;have J6:∀(out4:(List Cl)) (og5:Option Nat) (a:Act) (s:St),Has N0 64 s0 a s [(5,(Pd.row En.cls s0.w.heap.size 38 og5 out4))]→((zbh.j1 r_) out4)→K1 a s.w:=by
  intro out4 og5 a s L h;unfold zbh.j1 at h;show K1 a s.w;refine H1 _ _ (rA 2 L fun a s L=>?_);subst h;exact wp_ret (zif J L J)
 obtain ⟨k10,h⟩:=h;refine lpn (fun k11 a s=>∃(out7:(List Cl)) (v9:Int) (og8:Option Nat),Has N0 64 s0 a s [(2,(Pd.ptr En.SDesc d_)),(5,(Pd.row En.cls s0.w.heap.size 38 og8 out7)),(12,(Pd.rep (En.slice En.SBranch) r2)),(13,(Pi (r2.length:Int))),(14,(Pi v9))]∧zbh.l1 d_ r2 (zbh.j1 r_) k11 out7 v9) k10 ⟨([]:(List Cl)),0,none,L.kk,h⟩ ?_;rintro k11 a s ⟨out7,v9,og8,L,h⟩ KL12 hKL12;unfold zbh.l1 at h;refine rA 1 L fun a s L=>?_;refine wp_seq_k fun K13 H13=>cn L h (fun h=>?_) fun h=>?_
 ·refine wp_skip (H13 _ _ ?_);refine wp_seq_k fun K14 H14=>wp_block ?_;obtain ⟨e15,h16,h⟩:=h;refine rs (sl 2 (p1 h16) L fun a s L=>?_);have lt_d18:=L.rlt 5 rfl;refine zba En.SBranch (z:=([],0)) 7 L zjq J J J J fun a s g17 hg_ L=>?_;have d18:=Dis.newg hg_ lt_d18;refine sB 7 L fun s L=>?_;refine es (wp_seq_k fun K19 H19=>?_);refine rA 4 L fun a s L=>?_;refine cn L h (fun h=>?_) fun h=>?_
  ·refine wp_exit ?_;show K14 a s.w;refine H14 _ _ ?_;obtain ⟨h20,h⟩:=h;refine rg (sA 2 L fun a s L=>?_);refine en' ?_;exact hKL12 a s ⟨out7,(v9+1),og8,L.kk,h⟩
  ·refine wp_skip (H19 _ _ ?_);obtain ⟨e21,h22,h⟩:=h;refine rs (sl 4 (p1 h22) L fun a s L=>?_);have lt_d25:=L.blt 7 rfl;have lt_d24:=L.rlt 5 rfl;refine zba En.SItem (z:=(0,0,0,0)) 8 L zf2 J J J J fun a s g23 hg_ L=>?_;have d24:=Dis.newg hg_ lt_d24;have d25:=Dis.newg hg_ lt_d25;refine sB 8 L fun s L=>?_;refine es ?_;obtain ⟨e26,h27,h⟩:=h;refine rs (sl 6 (p1 h27) L fun a s L=>?_);have lt_d30:=L.blt 8 rfl;have lt_d29:=L.rlt 5 rfl;refine zba En.SNode (z:=(0,0,0,0,0,(0#256),([]:Str))) 9 L zme J J J J fun a s g28 hg_ L=>?_;have d29:=Dis.newg hg_ lt_d29;have d30:=Dis.newg hg_ lt_d30;replace L:=L.dr (some g17);refine sB 9 L fun s L=>?_;refine es (wp_block ?_);refine rA 4 L fun a s L=>?_;refine cn L h (fun h=>?_) fun h=>?_
   ·obtain ⟨c31,h32,c33,h34,r35,h36,h37,h⟩:=h;refine rdx 13 (pp h32 (pp h34 (p1 (zoe h36)))) L fun a s L=>?_;refine zdo 52 L op op Ud.h Tq.h h37 J J J J ka fun a s og38 hg_ L=>?_;refine sA 1 L fun a s L=>?_;refine en' (H14 _ _ ?_);obtain ⟨h39,h⟩:=h;refine rg (sA 2 L fun a s L=>?_);refine en' ?_;exact hKL12 a s ⟨(out7++[r35]),(v9+1),og38,L.kk,h⟩
   ·refine rA 4 L fun a s L=>?_;refine cn L h (fun h=>?_) fun h=>?_
    ·obtain ⟨h40,h⟩:=h;refine rg (sA 4 L fun a s L=>?_);refine zdo 61 L op op Ud.h Tq.h h40 J J J J ka fun a s og41 hg_ L=>?_;refine sA 1 L fun a s L=>?_;refine en' (H14 _ _ ?_);obtain ⟨h42,h⟩:=h;refine rg (sA 2 L fun a s L=>?_);refine en' ?_;exact hKL12 a s ⟨(out7++[e26.2.2.2.2.2.1]),(v9+1),og41,L.kk,h⟩
    ·obtain ⟨r43,h44,h45,h⟩:=h;refine rg (sl 2 (p1 ((znv h44).frz)) L fun a s L=>?_);refine zdo 34 L op op Ud.h Tq.h h45 J J J J ka fun a s og46 hg_ L=>?_;refine sA 1 L fun a s L=>?_;refine en' (H14 _ _ ?_);obtain ⟨h47,h⟩:=h;refine rg (sA 2 L fun a s L=>?_);refine en' ?_;exact hKL12 a s ⟨(out7++r43),(v9+1),og46,L.kk,h⟩
 ·refine wp_exit ?_;exact J6 out7 og8 a s (L.kk) h
open Go.Shelf Go.Sort
theorem put_block1 {β:Type} [Inhabited β] (enc:β→Value) {w:World} {b:Nat} {cur:Array Value} {te:TypeId} {F:Array β} (m:Nat) (os:Array Obj) (hb:w.heap[b]?=some (.cells cur te (0,0))):
  (Sort.grow (putRow enc (Sort.ahead w m) b 0 F) os).heap[b]?=some (.cells (putCells enc 0 F cur) te (0,0)):=by
 have hlt:=(Array.getElem?_eq_some_iff.1 hb).1;unfold Sort.grow putRow mapBlock;simp only;rw [Array.getElem?_append_left (by simpa [Sort.ahead] using hlt),Array.getElem?_modify,if_pos rfl];show Option.map _ (w.heap[b]?)=_;rw [hb];rfl
theorem zpm {β:Type} [Inhabited β] (enc:β→Value) {w:World} {b c:Nat} {F:Array β} (m:Nat) (os:Array Obj) (hc:c<w.heap.size) (hne:c≠b):(Sort.grow (putRow enc (Sort.ahead w m) b 0 F) os).heap[c]?=w.heap[c]?:=by
 unfold Sort.grow putRow mapBlock;simp only;rw [Array.getElem?_append_left (by simpa [Sort.ahead] using hc),Array.getElem?_modify,if_neg (Ne.symm hne)];rfl
theorem size1 {β:Type} [Inhabited β] (enc:β→Value) (w:World) (b m:Nat) (F:Array β) (os:Array Obj):w.heap.size≤(sortWorld enc w b 0 m F os).heap.size:=by
 unfold sortWorld Sort.grow putRow mapBlock;simp [Sort.ahead]
theorem fm_sort1 {P:Program} {ρ:Ren} (L:Go.Proofs.SlLaysF.n6 P ρ) (L0:Go.Proofs.SlLaysF0.n6 P ρ) {α:Type} {E:En α} {E':VD.En α} {te:TypeId} {g:FuncId} {cf:α→α→Int} (hE:Ty P te E) (hA:E.agg=false) (hA':E'.agg=false) (hR:∀{w S cs x},E.R w S cs x→E'.R w S cs x)
  (hf:∀(args:Array Value) (w:World),(callFunc (ρ.f 6) args).run P w = .ok (.enter (ρ.f 6) args) w) (eg:∀(args:Array Value) (w:World),(callFunc g args).run P w = .ok (.enter g args) w) (hO:SWO (Go.Proofs.ltOf cf)) {xs:List α} (hlen:xs.length≤2147483648)
  (hc:∀x∈xs,∀y∈xs,VD.Fn P g [VD.Pd.rep E' x,VD.Pd.rep E' y] (VD.Rq (VD.Pd.rep (VD.En.int .i64) (cf x y)))) (v0:Value):
  Fm P (ρ.f 6) (fun b=>v0.ownBlock=some b) [Pd.prow E te v0 xs,Pd.is (.func (.func g) #[] #[])] (fun _ s' _=>∃ys:List α,ys.Perm xs∧ys.Pairwise (fun a b=>¬ cf b a<0)∧(Pd.prow E te v0 ys).p s' v0):=by
 refine ⟨hf,fun s vs hgl hX hv=>?_⟩
 match vs,hv with
 | [v,fv],⟨⟨hv0,hrow⟩,hfv,_⟩=>
 have hfv:fv = .func (.func g) #[] #[]:=hfv;subst hfv;subst hv0;obtain ⟨h1,h2,h3,css,hEl,how⟩:=hrow
 by_cases hx0:xs=[]
 ·subst hx0;obtain ⟨p,cap,rfl⟩:∃p cap,v = .slice p 0 cap:=by
   rcases how.2 with ⟨e,_⟩ | ⟨b,cap,cur,e,_⟩
   ·exact ⟨none,0,e⟩
   ·exact ⟨_,cap,e⟩
  refine (Go.Proofs.AnyF.slices_SortFunc_none L0 p cap _ s.w).mono fun e w' ⟨he,hw⟩=>?_;subst he;subst hw;exact ⟨_,s,rfl,rfl,Fr.refl hX,[],.refl _,List.Pairwise.nil,rfl,h1,h2,h3,css,hEl,how⟩
 have hpos:0<xs.length:=List.length_pos_iff.2 hx0;rcases how.2 with ⟨e,hn⟩ | ⟨b,cap,cur,hvb,hN,hgb,hnc,hcm,hcs,htk⟩
 ·omega
 subst hvb;have hXb:s.X b:=h2 b rfl;have hblt:b<s.w.heap.size:=s.lt b hXb;have hsz1:E.sz=1:=E.sc hA
 let α':={p:List Value × α // E.R s.w (zfa s) p.1 p.2∧p.2∈xs}
 have hel:∀i:Fin xs.length,E.R s.w (zfa s) (css[i.1]'(by rw [hEl.1];exact i.2)) xs[i.1]∧xs[i.1]∈xs:=fun i=>⟨hEl.2 i.1 _ _ (List.getElem?_eq_getElem _) (List.getElem?_eq_getElem _),List.getElem_mem _⟩
 let d:Array α':=Array.ofFn fun i:Fin xs.length=>⟨(css[i.1]'(by rw [hEl.1];exact i.2),xs[i.1]),hel i⟩
 have hdn:d.size=xs.length:=by simp [d]
 haveI:Inhabited α':=⟨d[0]'(by rw [hdn];exact hpos)⟩
 let enc:α'→Value:=fun p=>p.1.1.headD undef
 have hsing:∀p:α',p.1.1=[enc p]:=fun p=>by
  have hl:=E.len p.2.1;rw [hsz1] at hl;obtain ⟨u,hu⟩:=List.length_eq_one_iff.1 hl;show p.1.1=[p.1.1.headD undef];rw [hu];rfl
 have hone:OneCell enc:=fun x=>E.one x.2.1 (enc x) (by rw [hsing x];simp);have hdl:d.toList.map (fun p=>p.1.1)=css:=by
  apply List.ext_getElem?;intro i;simp only [d,List.getElem?_map,Array.toList_ofFn,List.getElem?_ofFn]
  by_cases hi:i<xs.length
  ·rw [dif_pos hi,Option.map_some,List.getElem?_eq_getElem (by rw [hEl.1];exact hi)]
  ·rw [dif_neg hi,Option.map_none,List.getElem?_eq_none (by rw [hEl.1];omega)]
 have hdx:d.toList.map (fun p=>p.1.2)=xs:=by
  apply List.ext_getElem?;intro i;simp only [d,List.getElem?_map,Array.toList_ofFn,List.getElem?_ofFn]
  by_cases hi:i<xs.length
  ·rw [dif_pos hi,Option.map_some,List.getElem?_eq_getElem hi]
  ·rw [dif_neg hi,Option.map_none,List.getElem?_eq_none (by omega)]
 have hfl:∀q:List α',(q.map (fun p=>p.1.1)).flatten=q.map enc:=fun q=>by
  induction q with
  | nil=>rfl
  | cons p q ih=>rw [List.map_cons,List.flatten_cons,ih,hsing p];rfl
 have hflat:∀(q:Array α') (j:Nat),j<q.size→(q.toList.map (fun p=>p.1.1)).flatten[j]?=some (enc q[j]!):=by
  intro q j hj;rw [hfl,List.getElem?_map,Array.getElem?_toList,Array.getElem?_eq_getElem hj,getElem!_pos q j hj];rfl
 have hH:Holds enc s.w b 0 d:=by
  intro j hj;have hf:=hflat d j hj;rw [hdl] at hf;have hcj:cur[j]?=some (enc d[j]!):=by
   rw [← htk,List.getElem?_take] at hf;split at hf
   ·simpa using hf
   ·cases hf
  refine ⟨?_, ?_⟩
  ·rw [Nat.zero_add,cell_of_row s.w b j cur te (0,0) hgb];exact hcj
  ·unfold World.frozen?;simp [hgb]
 have hO':SWO (Go.Proofs.ltOf fun p q:α'=>cf p.1.2 q.1.2):=⟨fun x=>hO.irrefl x.1.2,fun x y z=>hO.trans x.1.2 y.1.2 z.1.2,fun x y z=>hO.ntrans x.1.2 y.1.2 z.1.2⟩;have hcmp:Go.Proofs.CmpLays1 P g #[] enc (fun p q:α'=>cf p.1.2 q.1.2) b 0 d.size s.w:=by
  intro m os dk hdk x y;have hsz:s.w.heap.size≤(sortWorld enc s.w b 0 m dk os).heap.size:=size1 enc s.w b m dk os;have hoth:∀c,c<s.w.heap.size→c≠b→(sortWorld enc s.w b 0 m dk os).heap[c]?=s.w.heap[c]?:=fun c hc hne=>zpm enc m os hc hne
  let sd:VD.St:=⟨sortWorld enc s.w b 0 m dk os,fun c=>c=b,fun c hc=>by subst hc;omega⟩
  have hgd:VD.Gl sd:=by
   have key:∀c o,¬ s.X c→s.w.heap[c]?=some o→c≠b∧sd.w.heap[c]?=some o:=fun c o k1 k2=>by
    have hpb:c≠b:=fun e=>k1 (e ▸ hXb);exact ⟨hpb,(hoth c (Array.getElem?_eq_some_iff.1 k2).1 hpb).trans k2⟩
   refine ⟨fun p hp=>?_,fun p hp=>?_⟩
   ·obtain ⟨k1,t,fr,k2⟩:=hgl.1 p hp;obtain ⟨k3,k4⟩:=key _ _ k1 k2;exact ⟨k3,t,fr,k4⟩
   ·obtain ⟨k1,m',t,fr,es,clock,ys,k2,k3,k4,k5,k6⟩:=hgl.2 p hp;obtain ⟨j1,j2⟩:=key _ _ k1 k2;obtain ⟨j3,j4⟩:=key _ _ k3 k4;exact ⟨j1,m',t,fr,es,clock,ys,j2,j3,j4,k5,k6⟩
  have hfoot:∀c,zfa s c→zfa sd c:=fun c hc=>⟨Nat.lt_of_lt_of_le hc.1 hsz,fun e=>hc.2 (e ▸ hXb)⟩;have conv:∀z:α',E'.R sd.w (zfa sd) z.1.1 z.1.2:=fun z=>E'.mono hfoot (E'.move (fun c hc=>hoth c hc.1 (fun e=>hc.2 (e ▸ hXb))) (hR z.2.1))
  have:=cmp_grow (hc _ x.2.2 _ y.2.2) sd hgd (conv x) (conv y);have hval:∀z:α',E'.val z.1.1=enc z:=fun z=>by unfold En.val;rw [hA'];rfl
  rw [hval,hval] at this;exact this
 have hmain:=Go.Proofs.Any.slices_SortFunc L enc hone (fun p q:α'=>cf p.1.2 q.1.2) hO' g #[] b 0 cap d s.w eg hcmp hH hblt (by rw [hdn];omega);rw [hdn] at hmain;refine hmain.mono fun e w' ⟨he,d',m,os,hP,hS,hw⟩=>?_;subst he;subst hw;have hd'n:d'.size=xs.length:=hP.1.trans hdn;have hsz:s.w.heap.size≤(sortWorld enc s.w b 0 m d' os).heap.size:=size1 enc s.w b m d' os
 let s':St:=⟨sortWorld enc s.w b 0 m d' os,s.X,fun c hc=>Nat.lt_of_lt_of_le (s.lt c hc) hsz⟩
 have hmv:Mv (fun c=>(Value.slice (some ⟨b,0,none⟩) xs.length cap).ownBlock=some c) s s':=
  ⟨trivial,rfl,rfl,rfl,hsz,fun c hc hne=>zpm enc m os hc (fun e=>hne (by rw [e];rfl)),fun c hc=>hX c hc,fun c hc=>.inl hc⟩
 refine ⟨_,s',rfl,rfl,⟨hmv,fun c hc=>hc⟩,d'.toList.map (fun p=>p.1.2), ?_, ?_,rfl,rfl,fun c hc=>h2 c hc,by simp [hd'n];exact h3,d'.toList.map (fun p=>p.1.1),⟨by simp,fun i cs x hi hx=>?_⟩, ?_⟩
 ·have hp:=(hP.2.2).map (fun p:α'=>p.1.2);have e1:(d'.extract 0 xs.length).toList=d'.toList:=by rw [← hd'n];simp
  have e2:(d.extract 0 xs.length).toList=d.toList:=by rw [← hdn];simp
  rw [e1,e2,hdx] at hp;exact hp
 ·rw [List.pairwise_iff_getElem];intro i j hi hj hij;simp only [List.length_map,Array.length_toList] at hi hj;have:=hS i j (Nat.zero_le _) hij (by omega);unfold Go.Proofs.ltOf at this;rw [getElem!_pos d' i hi,getElem!_pos d' j hj] at this;simpa using this
 ·simp only [List.getElem?_map,Array.getElem?_toList] at hi hx;cases hq:d'[i]? with
  | none=>rw [hq] at hi;cases hi
  | some q=>
   rw [hq] at hi hx;simp only [Option.map_some,Option.some.injEq] at hi hx;subst hi;subst hx;exact E.go hmv q.2.1
 ·have hfll:(d'.toList.map (fun p=>p.1.1)).flatten.length=d'.size:=by rw [hfl];simp
  have hle:d'.size≤cur.size:=by rw [hcs,hd'n,hsz1];omega
  refine ⟨by rw [hfll,hsz1];simp,.inr ⟨b,cap,_,by simp [hd'n],Nat.zero_le _,put_block1 enc m os hgb,by simp [hd'n];exact hnc,hcm,by simp [putCells];exact hcs, ?_⟩⟩;apply List.ext_getElem?;intro j;rw [List.getElem?_take];simp only [List.length_map,Array.length_toList];split
  ·rename_i hj
   have hj':j<d'.size:=by rw [hsz1] at hj;omega
   rw [hflat d' j hj',Array.getElem?_toList];unfold putCells;rw [Array.getElem?_mapIdx,Array.getElem?_eq_getElem (by omega)];simp only [Option.map_some];rw [if_pos ⟨Nat.zero_le _,by omega⟩,Nat.sub_zero]
  ·rename_i hj
   rw [List.getElem?_eq_none (by rw [hfll];rw [hsz1] at hj;omega)]
theorem swo_state:SWO (Go.Proofs.ltOf fun x y:List SItem=>zek x y):=swo_cmp (fun x=>ziu _) (fun x y=>zfy _ _) fun x y z h1 h2=>cmpS_le h1 h2
theorem zor:∀{y r:List (List SItem)},y.Perm r→y.Pairwise (fun a b=>¬ zek b a<0)→r.Pairwise (fun a b=>zek a b<0)→y=r:=fun {y r} hp hs hr=>by
 have hn:r.Nodup:=hr.imp fun {a b} h e=>by subst e;exact zg0 h
 have hny:y.Nodup:=hp.nodup_iff.2 hn;have hy:y.Pairwise (fun a b=>zek a b<0):=(hs.and hny).imp fun {a b} h=>by
  have h3:=zfy b a;have h4:zek a b≠0:=fun e=>h.2 (zd8.1 e);omega
 have:=zka (B:=y.map fun t=>((t,0):SBranch)) (C:=r.map fun t=>((t,0):SBranch)) (List.pairwise_map.2 hy) (List.pairwise_map.2 hr) fun x=>by
  simp only [List.mem_map];constructor
  ·rintro ⟨t,ht,rfl⟩;exact ⟨t,hp.mem_iff.1 ht,rfl⟩
  ·rintro ⟨t,ht,rfl⟩;exact ⟨t,hp.mem_iff.2 ht,rfl⟩
 have h2:=congrArg (List.map (·.1)) this;simpa [List.map_map,Function.comp_def] using h2
theorem zjk (v0:Value) {x r:List (List SItem)} (h:zfe x r):Fm Tryz.prog 81 (fun b=>v0.ownBlock=some b) [Pd.prow (En.slice En.SItem) 62 v0 x,Pd.is (.func (.func 82) #[] #[])] (fun _ s' _=>(Pd.prow (En.slice En.SItem) 62 v0 r).p s' v0):=by
 have h0:=fm_sort1 slsortT slsortS (E:=En.slice En.SItem) (E':=En.slice En.SItem) (te:=62) (g:=82) (cf:=fun a b:List SItem=>zek a b) ty62 rfl rfl (fun h=>h) (zdz Tryz.func81 rfl (by rfl)) (zdz Tryz.func82 rfl (by rfl)) swo_state h.2.1 (fun a ha b hb=>@zgm true dLe _ _ _ (zgn (h.1 a ha))) v0;refine ⟨h0.call,fun s vs hg hM hv=>(h0.run s vs hg hM hv).mono fun e w' ⟨v,s',he,hw,hfr,ys,hp,hs,hrow⟩=>⟨v,s',he,hw,hfr, ?_⟩⟩;rw [← zor (hp.trans h.2.2.1.symm) hs h.2.2.2];exact hrow
end Go.Proofs.YtkbboemafklkkaaGreatDoor.V
namespace Go.Proofs.YtkbboemafklkkaaGreatDoor.V
open Go
set_option linter.unusedVariables false
set_option maxRecDepth 100000
set_option maxHeartbeats 2000000
set_option synthInstance.maxSize 100000
set_option synthInstance.maxHeartbeats 200000
theorem zou {s_:(List SItem)} {cap0_:SDesc} {r_:Bool} (h:zhu s_ cap0_ r_):Fn Tryz.prog 76 [(Pd.rep (En.slice En.SItem) s_),(Pd.ptr En.SDesc cap0_)] (Rq (Pd.rep En.bool r_)):=by
 unfold zhu at h;refine zbp Tryz.func76 J Tryz.ntmps76 (by rfl) (by simp) fun s0 a L=>?_;refine rA 1 L fun a s L=>?_;obtain ⟨r1,h2,h⟩:=h;refine ra 5 (p1 (next_Ends_ok h2)) L fun a s L=>?_;subst h;exact wp_ret (zdw J L J)
theorem zfq {d_:SDesc} {l_:(List (List SItem))} {r_:Bool} (h:zey d_ l_ r_):Fn Tryz.prog 50 [(Pd.rep En.SDesc d_),(Pd.rep (En.slice (En.slice En.SItem)) l_)] (Rq (Pd.rep En.bool r_)):=by
 unfold zey at h;refine zbp Tryz.func50 J Tryz.ntmps50 (by rfl) (by simp) fun s0 a L=>?_;refine rA 2 L fun a s L=>?_;obtain ⟨r1,h2,h⟩:=h;refine rs (sA 1 L fun a s L=>?_);refine sv (t_q (Pd.rep EnF135 (fun q_=>zhu q_.1 d_ q_.2)) (zm3 (cs:=[.tmp 2]) (.cons op .nil) (zdz Tryz.func76 J (by rfl)) (zfp zit zj7) (fun q_ h_=>zou h_) J J)) L fun a s L=>?_;refine sl 2 (p1 (zdv h2)) L fun a s L=>?_;refine es ?_;subst h;exact wp_ret (zdw J L J)
theorem zge {d_:SDesc} {l_:(List (List SItem))} {r_:(List Cl)} (h:zbo d_ l_ r_):Fn Tryz.prog 79 [(Pd.rep En.SDesc d_),(Pd.rep (En.slice (En.slice En.SItem)) l_)] (Ro En.cls 38 r_):=by
 unfold zbo at h;refine zbp Tryz.func79 J Tryz.ntmps79 (by rfl) (by simp) fun s0 a L=>?_;refine rs (sA 1 L fun a s L=>?_);refine sno En.cls 38 L fun a s L=>?_;refine es (rs ?_);refine sno En.cls 38 L fun a s L=>?_;refine es (wp_seq_k fun K1 H1=>?_);refine rA 3 L fun a s L=>?_;refine wp_block ?_;have J4:∀(out2:(List Cl)) (og3:Option Nat) (a:Act) (s:St),Has N0 21 s0 a s [(5,(Pd.row En.cls s0.w.heap.size 38 og3 out2))]→((zbo.j1 r_) out2)→K1 a s.w:=by
  intro out2 og3 a s L h;unfold zbo.j1 at h;show K1 a s.w;refine H1 _ _ (rA 2 L fun a s L=>?_);subst h;exact wp_ret (zif J L J)
 obtain ⟨k8,h⟩:=h;refine lpn (fun k9 a s=>∃(out5:(List Cl)) (v7:Int) (og6:Option Nat),Has N0 21 s0 a s [(2,(Pd.ptr En.SDesc d_)),(5,(Pd.row En.cls s0.w.heap.size 38 og6 out5)),(8,(Pd.rep (En.slice (En.slice En.SItem)) l_)),(9,(Pi (l_.length:Int))),(10,(Pi v7))]∧zbo.l1 d_ l_ (zbo.j1 r_) k9 out5 v7) k8 ⟨([]:(List Cl)),0,none,L.kk,h⟩ ?_;rintro k9 a s ⟨out5,v7,og6,L,h⟩ KL10 hKL10;unfold zbo.l1 at h;refine rA 1 L fun a s L=>?_;refine wp_seq_k fun K11 H11=>cn L h (fun h=>?_) fun h=>?_
 ·refine wp_skip (H11 _ _ ?_);refine wp_seq_k fun K12 H12=>wp_block ?_;obtain ⟨e13,h14,h⟩:=h;refine ra 3 (p1 h14) L fun a s L=>?_;obtain ⟨r15,h16,h17,h⟩:=h;refine rg (sl 4 (p1 ((znx h16).frz)) L fun a s L=>?_);refine st_appB 18 32 L op op Ud.h Tq.h (by decide) ⟨_,J,by decide⟩ h17 J J J J ka fun a s og18 hg_ L=>?_;refine sA 1 L fun a s L=>?_;refine en' (H12 _ _ ?_);obtain ⟨h19,h⟩:=h;refine rg (sA 2 L fun a s L=>?_);refine en' ?_;exact hKL10 a s ⟨(out5++r15),(v7+1),og18,L.kk,h⟩
 ·refine wp_exit ?_;exact J4 out5 og6 a s (L.kk) h
theorem zl0 {l_:(List Cl)} {r_:(List Cl)} (h:zcq l_ r_):Fn Tryz.prog 78 [(Pd.rep (En.slice En.cls) l_)] (Ro En.cls 38 r_):=by
 unfold zcq at h;refine zbp Tryz.func78 J Tryz.ntmps78 (by rfl) (by simp) fun s0 a L=>?_;refine rs (sno En.cls 38 L fun a s L=>?_);refine es (rs ?_);refine zi3 7 En.cls kvCls En.bool L J J J J fun a s g1 hg_ L=>?_;refine sA 1 L fun a s L=>?_;refine es (rs ?_);refine sno En.cls 38 L fun a s L=>?_;refine es (wp_seq_k fun K2 H2=>?_);refine rA 3 L fun a s L=>?_;refine wp_block ?_;have J5:∀(out3:(List Cl)) (og4:Option Nat) (a:Act) (s:St),Has N0 26 s0 a s [(4,(Pd.row En.cls s0.w.heap.size 38 og4 out3))]→((zcq.j1 r_) out3)→K2 a s.w:=by
  intro out3 og4 a s L h;unfold zcq.j1 at h;show K2 a s.w;refine H2 _ _ (rA 2 L fun a s L=>?_);subst h;exact wp_ret (zif J L J)
 obtain ⟨k11,h⟩:=h;refine lpn (fun k12 a s=>∃(met6:(List (Cl × Bool))) (out8:(List Cl)) (v10:Int) (og7:Option Nat) (og9:Option Nat),Has N0 26 s0 a s [(3,(Pd.map En.cls kvCls En.bool s0.w.heap.size og7 met6)),(4,(Pd.row En.cls s0.w.heap.size 38 og9 out8)),(8,(Pd.rep (En.slice En.cls) l_)),(9,(Pi (l_.length:Int))),(10,(Pi v10))]∧Dis og7 og9∧zcq.l1 l_ (zcq.j1 r_) k12 met6 out8 v10) k11 ⟨([]:(List (Cl × Bool))),([]:(List Cl)),0,(some g1),none,L.kk,(Dis.symm Dis.none),h⟩ ?_;rintro k12 a s ⟨met6,out8,v10,og7,og9,L,d14,h⟩ KL13 hKL13;unfold zcq.l1 at h;refine rA 1 L fun a s L=>?_;refine wp_seq_k fun K15 H15=>cn L h (fun h=>?_) fun h=>?_
 ·refine wp_skip (H15 _ _ ?_);refine wp_seq_k fun K16 H16=>wp_block ?_;obtain ⟨e17,h18,h⟩:=h;refine rs (sl 2 (p1 h18) L fun a s L=>?_);have lt_d21:=L.rlt 4 rfl;have lt_d20:=L.mlt 3 rfl;refine zba En.cls (z:=(0#256)) 6 L zmz J J J J fun a s g19 hg_ L=>?_;have d20:=Dis.newg hg_ lt_d20;have d21:=Dis.newg hg_ lt_d21;refine sB 6 L fun s L=>?_;refine es (wp_seq_k fun K22 H22=>?_);refine rs (sA 2 L fun a s L=>?_);refine sv (zpb op op Ud.h zq8 tyv4 J J) L fun a s L=>?_;refine sA 1 L fun a s L=>?_;refine es (cn L h (fun h=>?_) fun h=>?_)
  ·obtain ⟨h23,h⟩:=h;refine rg (sA 3 L fun a s L=>?_);have lt_og24_0:=L.mlt 3 rfl;have lt_og24_1:=L.blt 6 rfl;refine zdo 21 L op op Ud.h Tq.h h23 J J J J ka fun a s og24 hg_ L=>?_;have d25:=Dis.app hg_ (Dis.symm d14) lt_og24_0;have d26:=Dis.app hg_ (Dis.symm d21) lt_og24_1;refine sA 1 L fun a s L=>?_;refine en' (H22 _ _ ?_);refine rg (sA 2 L fun a s L=>?_);refine zgr L op op o_b Ud.h zq8 (.inl J) J J kw fun s L=>?_;refine en' (H16 _ _ ?_);obtain ⟨h27,h⟩:=h;refine rg (sA 2 L fun a s L=>?_);refine en' ?_;exact hKL13 a s ⟨(zfv met6 e17 true),(out8++[e17]),(v10+1),og7,og24,L.kk,(Dis.symm d25),h⟩
  ·refine wp_skip (H22 _ _ ?_);refine rg (sA 2 L fun a s L=>?_);refine zgr L op op o_b Ud.h zq8 (.inl J) J J kw fun s L=>?_;refine en' (H16 _ _ ?_);obtain ⟨h28,h⟩:=h;refine rg (sA 2 L fun a s L=>?_);refine en' ?_;exact hKL13 a s ⟨(zfv met6 e17 true),out8,(v10+1),og7,og9,L.kk,d14,h⟩
 ·refine wp_exit ?_;exact J5 out8 og9 a s (L.kk) h
theorem zhc {d_:SDesc} {l_:(List (List SItem))} {cv_:Int} {r_:(List (List SItem))} (h:zb2 d_ l_ cv_ r_):Fn Tryz.prog 52 [(Pd.rep En.SDesc d_),(Pd.rep (En.slice (En.slice En.SItem)) l_),(Pd.rep (En.int .u8) cv_)] (Ro (En.slice En.SItem) 62 r_):=by
 unfold zb2 at h;refine zbp Tryz.func52 J Tryz.ntmps52 (by rfl) (by simp) fun s0 a L=>?_;refine rs (sA 1 L fun a s L=>?_);refine sno (En.slice En.SItem) 62 L fun a s L=>?_;refine es (rs ?_);refine zi3 15 En.str kvStr (En.slice En.SItem) L J J J J fun a s g1 hg_ L=>?_;refine sA 1 L fun a s L=>?_;refine es (wp_seq_k fun K2 H2=>?_);refine rA 3 L fun a s L=>?_;refine wp_block ?_;have J5:∀(found3:(List (Str × (List SItem)))) (og4:Option Nat) (a:Act) (s:St),Has N0 52 s0 a s [(7,(Pd.map En.str kvStr (En.slice En.SItem) s0.w.heap.size og4 found3))]→((zb2.j1 r_) found3)→K2 a s.w:=by
  intro found3 og4 a s L h;unfold zb2.j1 at h;show K2 a s.w;refine H2 _ _ (rs ?_);refine sno (En.slice En.SItem) 62 L fun a s L=>?_;refine es (wp_seq_k fun K6 H6=>?_);refine wp_seq_k fun K7 H7=>?_;obtain ⟨q1,q2,q3,q4⟩:=h;refine rg ?_;obtain ⟨s2,hw,L⟩:=L.freezem (L':=[(12,Pd.row (En.slice En.SItem) s0.w.heap.size 62 none [])]) 7 rfl (.cons (t:=12) rfl no_own .nil);rw [← hw];clear hw;generalize s2=s at *;refine sw 39 (zt (O 7 J) J J) L fun a s L=>?_;refine zp8 40 L (O 39 J) U140 J J J J fun a s r hr L=>?_;refine en' ?_;show K7 a s.w;refine H7 _ _ ?_;refine wp_block ?_;have JJ:∀(a:Act) (s:St) (og:Option Nat) (out:List (List SItem)),Has N0 52 s0 a s [(12,Pd.row (En.slice En.SItem) s0.w.heap.size 62 og out)]→out.Perm (found3.map (·.2))→K6 a s.w:=by
   intro a s og out L hp;have hsrt:zfe out r_:=⟨fun b hb=>q1 b (hp.mem_iff.1 hb),by rw [hp.length_eq];exact q2,q3.trans hp.symm,q4⟩;refine H6 _ _ (wp_seq_k fun K7 H7=>?_);refine rg (sw 49 (zt (O 12 J) J J) L fun a s L=>?_);refine zj9 (L':=[(12,Pd.row (En.slice En.SItem) s0.w.heap.size 62 og r_)]) 50 (fun v0=>zjk v0 hsrt) L (O 49 J) (zs:=[.func 82]) (.cons o_isf .nil) J J J J (.turn (t:=12) J .nil) fun a s L=>?_;refine en' ?_;show K7 a s.w;refine H7 _ _ ?_;refine wp_seq_k fun K8 H8=>rg (sw 51 (zt (O 12 J) J J) L fun a s L=>?_);refine sw 6 (zbi (O 51 J) J J) L fun a s L=>?_;refine en' ?_;show K8 a s.w;refine H8 _ _ ?_;exact wp_ret (zif J L J)
  have hmlen:found3.length≤2147483648:=by simpa using q2
  refine lpg (fun k a s=>∃(rem:List (Str × List SItem)) (cur:Option (Str × List SItem)) (og:Option Nat) (out:List (List SItem)),rem.length+1=k∧Has N0 52 s0 a s [(12,Pd.row (En.slice En.SItem) s0.w.heap.size 62 og out),(40,Pd.iter En.str kvStr (En.slice En.SItem) s0.w.heap.size r rem cur)]∧(∀b,og=some b→¬ some r=some b)∧(out++rem.map (·.2)).Perm (found3.map (·.2)))
   (found3.length+1) ⟨found3,none,none,[],rfl,L.keep (.cons (t:=12) rfl (fun _ _ h_=>h_) (.cons (t:=40) rfl (fun _ _ h_=>h_) .nil)),(fun b hb=>by cases hb),by simp⟩ ?_
  rintro k a s ⟨rem,cur,og,out,hrk,L,hdis,hperm⟩ KL hKL;refine wp_seq_k fun K5 H5=>rg (st_next (L':=[(12,Pd.row (En.slice En.SItem) s0.w.heap.size 62 og out)]) 41 L (x:=40) J J J J J (by decide) (.cons (t:=12) J hdis .nil) (fun a hrem L=>?_) (fun a s p rem' hp L=>?_))
  ·subst hrem;refine sw 42 (t_nx (O 41 J) J J) L fun a s L=>?_;refine en' ?_;show K5 a s.w;refine H5 _ _ ?_;refine wp_seq_k fun K6 H6=>cnd L J (fun hb3_=>by cases hb3_) (fun _=>?_);refine wp_exit ?_;exact JJ a s og out (L.keep (.cons (t:=12) J (fun _ _ h_=>h_) .nil)) (by simpa using hperm)
  refine sw 42 (t_nx (O 41 J) J J) L fun a s L=>?_;refine en' ?_;show K5 a s.w;refine H5 _ _ ?_;refine wp_seq_k fun K6 H6=>cnd L J (fun _=>?_) (fun hb3_=>by cases hb3_);refine wp_skip ?_;show K6 a s.w;refine H6 _ _ ?_;refine wp_block (wp_seq_k fun K9 H9=>?_);refine rg (sw 43 (t_entry (O 40 J) (zd7 U9) J J) L fun a s L=>?_);refine sw 44 (zm4 (O 43 J) J J) L fun a s L=>?_;refine sw 14 (zbi (O 44 J) J J) L fun a s L=>?_;refine en' ?_;show K9 a s.w;refine H9 _ _ ?_;refine rg ?_;have hpl:=hp.length_eq;simp only [List.length_cons] at hpl;have hol:out.length+(rem.length:Nat)=found3.length:=by
   have:=hperm.length_eq;simpa using this
  refine sw 45 (zt (O 12 J) J J) L fun a s L=>?_;refine sw 46 (zt (O 14 J) J J) L fun a s L=>?_;refine sw 47 (t_lit (xs:=[.tmp 46]) (.cons (O 46 J) .nil) U78 ty62 J J (by decide) J J) L fun a s L=>?_;have lr:=L.ilt 40 rfl r rfl;refine zdo (L':=[(40,Pd.iter En.str kvStr (En.slice En.SItem) s0.w.heap.size r rem' (some p))]) 48 L (O 45 J) (O 47 J) U78 ty62 (by simp;omega) J J J J (.cons (t:=40) J (fun b hb e=>hdis b e hb) .nil) fun a s og' hg' L=>?_;refine sw 12 (zbi (O 48 J) J J) L fun a s L=>?_;refine en' ?_;refine hKL (k-1) a s (by omega) ⟨rem',some p,og',out++[p.2],by omega,L.keep (.cons (t:=12) J (fun _ _ h_=>h_) (.cons (t:=40) J (fun _ _ h_=>h_) .nil)),fun b hb e=>?_, ?_⟩
  ·rcases hg' b hb with h3 | h3
   ·exact hdis b h3 e
   ·cases e;omega
  ·refine List.Perm.trans ?_ hperm;have h5:=hp.map (·.2);rw [List.map_cons] at h5;rw [List.append_assoc,List.singleton_append];exact (h5.symm.append_left out)
 obtain ⟨k11,h⟩:=h;refine lpn (fun k12 a s=>∃(found8:(List (Str × (List SItem)))) (v10:Int) (og9:Option Nat),Has N0 52 s0 a s [(2,(Pd.rep (En.int .u8) cv_)),(3,(Pd.ptr En.SDesc d_)),(7,(Pd.map En.str kvStr (En.slice En.SItem) s0.w.heap.size og9 found8)),(16,(Pd.rep (En.slice (En.slice En.SItem)) l_)),(17,(Pi (l_.length:Int))),(18,(Pi v10))]∧zb2.l1 d_ l_ cv_ (zb2.j1 r_) k12 found8 v10) k11 ⟨([]:(List (Str × (List SItem)))),0,(some g1),L.kk,h⟩ ?_;rintro k12 a s ⟨found8,v10,og9,L,h⟩ KL13 hKL13;unfold zb2.l1 at h;refine rA 1 L fun a s L=>?_;refine wp_seq_k fun K14 H14=>cn L h (fun h=>?_) fun h=>?_
 ·refine wp_skip (H14 _ _ ?_);refine wp_seq_k fun K15 H15=>wp_block ?_;obtain ⟨e16,h17,h⟩:=h;refine ra 3 (p1 h17) L fun a s L=>?_;obtain ⟨r18,h19,h⟩:=h;refine ra 6 (p1 ((next_On_ok h19).frz)) L fun a s L=>?_;refine wp_block ?_;have J22:∀(found20:(List (Str × (List SItem)))) (og21:Option Nat) (a:Act) (s:St),Has N0 52 s0 a s [(2,(Pd.rep (En.int .u8) cv_)),(3,(Pd.ptr En.SDesc d_)),(7,(Pd.map En.str kvStr (En.slice En.SItem) s0.w.heap.size og21 found20)),(16,(Pd.rep (En.slice (En.slice En.SItem)) l_)),(17,(Pi (l_.length:Int))),(18,(Pi v10))]→((zb2.j2 (zb2.l1 d_ l_ cv_ (zb2.j1 r_) k12) v10) found20)→K15 a s.w:=by
   intro found20 og21 a s L h;unfold zb2.j2 at h;show K15 a s.w;refine H15 _ _ ?_;obtain ⟨h23,h⟩:=h;refine rg (sA 2 L fun a s L=>?_);refine en' ?_;exact hKL13 a s ⟨found20,(v10+1),og21,L.kk,h⟩
  obtain ⟨k27,h⟩:=h;refine lpn (fun k28 a s=>∃(found24:(List (Str × (List SItem)))) (v26:Int) (og25:Option Nat),Has N0 52 s0 a s [(2,(Pd.rep (En.int .u8) cv_)),(3,(Pd.ptr En.SDesc d_)),(7,(Pd.map En.str kvStr (En.slice En.SItem) s0.w.heap.size og25 found24)),(16,(Pd.rep (En.slice (En.slice En.SItem)) l_)),(17,(Pi (l_.length:Int))),(18,(Pi v10)),(25,(Pd.rep (En.slice En.SBranch) r18)),(26,(Pi (r18.length:Int))),(27,(Pi v26))]∧zb2.l2 r18 (zb2.j2 (zb2.l1 d_ l_ cv_ (zb2.j1 r_) k12) v10) k28 found24 v26) k27 ⟨found8,0,og9,L.kk,h⟩ ?_;rintro k28 a s ⟨found24,v26,og25,L,h⟩ KL29 hKL29;unfold zb2.l2 at h;refine rA 1 L fun a s L=>?_;refine wp_seq_k fun K30 H30=>cn L h (fun h=>?_) fun h=>?_
  ·refine wp_skip (H30 _ _ ?_);refine wp_seq_k fun K31 H31=>wp_block ?_;obtain ⟨e32,h33,h⟩:=h;refine rs (sl 2 (p1 h33) L fun a s L=>?_);have lt_d35:=L.mlt 7 rfl;refine zba En.SBranch (z:=([],0)) 11 L zjq J J J J fun a s g34 hg_ L=>?_;have d35:=Dis.newg hg_ lt_d35;refine sB 11 L fun s L=>?_;refine es ?_;obtain ⟨r36,h37,h⟩:=h;refine rdx 6 (p1 (zh2 h37)) L fun a s L=>?_;refine zgr L op op op Ud.h (zd7 Ud.h) (.inl J) J J kw fun s L=>?_;refine en' (H31 _ _ ?_);obtain ⟨h38,h⟩:=h;refine rg (sA 2 L fun a s L=>?_);refine en' ?_;exact hKL29 a s ⟨(zfv found24 r36 e32.1),(v26+1),og25,L.kk,h⟩
  ·refine wp_exit ?_;exact J22 found24 og25 a s (L.kk) h
 ·refine wp_exit ?_;exact J5 found8 og9 a s (L.kk) h
theorem zkb {d_:SDesc} {l_:(List (List SItem))} {r_:(List Int)} (h:zhe d_ l_ r_):Fn Tryz.prog 51 [(Pd.rep En.SDesc d_),(Pd.rep (En.slice (En.slice En.SItem)) l_)] (Ro (En.int .u8) 5 r_):=by
 unfold zhe at h;refine zbp Tryz.func51 J Tryz.ntmps51 (by rfl) (by simp) fun s0 a L=>?_;refine rs (sA 1 L fun a s L=>?_);refine sno (En.int .u8) 5 L fun a s L=>?_;refine es ?_;obtain ⟨r1,h2,r3,h4,r5,h6,h⟩:=h;refine rs (sl 4 (pp ((zge h2).frz) (p1 ((zl0 h4).frz))) L fun a s L=>?_);refine zet 9 L (zjr h6) opz J J J J fun a s og7 hg_ L=>?_;refine sA 1 L fun a s L=>?_;refine es ?_;subst h;exact wp_ret (zif J L J)
theorem zhs {d_:SDesc} {r_:(List (List SItem))} (h:zf9 d_ r_):Fn Tryz.prog 54 [(Pd.rep En.SDesc d_)] (Ro (En.slice En.SItem) 62 r_):=by
 unfold zf9 at h;refine zbp Tryz.func54 J Tryz.ntmps54 (by rfl) (by simp) fun s0 a L=>?_;refine rs (sA 1 L fun a s L=>?_);refine sno (En.slice En.SItem) 62 L fun a s L=>?_;refine es ?_;obtain ⟨r1,h2,h⟩:=h;refine rs (sl 2 (p1 ((zrd h2).frz)) L fun a s L=>?_);refine zfd (xs:=[.tmp 4]) 5 L (.cons op .nil) Ud.h Tq.h J J (by decide) J J J J fun a s g3 hg_ L=>?_;refine sA 1 L fun a s L=>?_;refine es ?_;subst h;exact wp_ret (zif J L J)
set_option maxRecDepth 100000
set_option maxHeartbeats 2000000
set_option synthInstance.maxSize 100000
set_option synthInstance.maxHeartbeats 200000
theorem zgq {l_:(List Smade_scantling_apart_thing_search)} {i_:Int} {r_:(List Int)} (h:zw l_ i_ r_):Fn Tryz.prog 90 [(Pd.rep (En.slice En.Smade_scantling_apart_thing_search) l_),(Pi i_)] (Ro (En.int .u8) 5 r_):=by
 unfold zw at h;refine zbp Tryz.func90 J Tryz.ntmps90 (by rfl) (by simp) fun s0 a L=>?_;refine rs (sno (En.int .u8) 5 L fun a s L=>?_);refine es (rs ?_);refine sno (En.int .u8) 5 L fun a s L=>?_;refine es (wp_seq_k fun K1 H1=>?_);refine wp_block ?_;have J4:∀(out2:(List Int)) (og3:Option Nat) (a:Act) (s:St),Has N0 28 s0 a s [(5,(Pd.row (En.int .u8) s0.w.heap.size 5 og3 out2))]→((zw.j1 r_) out2)→K1 a s.w:=by
  intro out2 og3 a s L h;unfold zw.j1 at h;show K1 a s.w;refine H1 _ _ ?_;obtain ⟨r5,h6,h⟩:=h;refine rs (sA 1 L fun a s L=>?_);refine zj9 26 (fun v0=>zgd v0 h6) L op opz J J J J kw fun a s L=>?_;refine es (rA 2 L fun a s L=>?_);subst h;exact wp_ret (zif J L J)
 obtain ⟨k10,h⟩:=h;refine lpn (fun k11 a s=>∃(i7:Int) (out8:(List Int)) (og9:Option Nat),Has N0 28 s0 a s [(0,(Pd.rep (En.slice En.Smade_scantling_apart_thing_search) l_)),(1,(Pi i7)),(5,(Pd.row (En.int .u8) s0.w.heap.size 5 og9 out8))]∧zw.l1 l_ (zw.j1 r_) k11 i7 out8) k10 ⟨i_,([]:(List Int)),none,L.kk,h⟩ ?_;rintro k11 a s ⟨i7,out8,og9,L,h⟩ KL12 hKL12;unfold zw.l1 at h;refine wp_seq_k fun K13 H13=>?_;obtain ⟨e14,h15,h⟩:=h;refine ra 6 (p1 h15) L fun a s L=>?_;refine cn L h (fun h=>?_) fun h=>?_
 ·refine wp_skip (H13 _ _ ?_);refine wp_seq_k fun K16 H16=>wp_block ?_;obtain ⟨e17,h18,h19,h⟩:=h;refine rg (sl 7 (p1 h18) L fun a s L=>?_);refine zdo 24 L op op Ud.h Tq.h h19 J J J J ka fun a s og20 hg_ L=>?_;refine sA 1 L fun a s L=>?_;refine en' (H16 _ _ ?_);obtain ⟨e21,h22,h⟩:=h;refine rg (sl 6 (p1 h22) L fun a s L=>?_);refine en' ?_;exact hKL12 a s ⟨e21.2.1,(out8++[e17.2.2]),og20,L.kk,h⟩
 ·refine wp_exit ?_;exact J4 out8 og9 a s (L.kk) h
theorem ze7 {s_:SSpace_scantling_apart_thing_search} {budget_:Int} {r_:SFound_scantling_apart_thing_search} (h:ze s_ budget_ r_):Fn Tryz.prog 61 [(Pd.rep En.SSpace_scantling_apart_thing_search s_),(Pi budget_)] (Rq (Pd.rep En.SFound_scantling_apart_thing_search r_)):=by
 unfold ze at h;refine zbp Tryz.func61 J Tryz.ntmps61 (by rfl) (by simp) fun s0 a L=>?_;refine rs (sA 1 L fun a s L=>?_);refine zba En.SFound_scantling_apart_thing_search (z:=((0,[],[],0,0,0,0),([],[],0))) 4 L tyz102 J J J J fun a s g1 hg_ L=>?_;refine es (rs ?_);refine sA 2 L fun a s L=>?_;refine sv (zbm (x:=(s_.1,(-1),0)) (ps:=[(0,.tmp 13),(1,.const (.int .i64 (-1))),(2,.const (.int .u8 0))]) tyz159 J stt159 (.cons (i:=0) op J (zv (zn _ _ _)) (.cons (i:=1) op J (zj (zv (zn _ _ _)) J) (.cons (i:=2) op J (zj (zj (zn _ _ _) J) J) .nil))) J J) L fun a s L=>?_;have lt_d3:=L.blt 4 rfl;refine zfd (xs:=[.tmp 14]) 15 L (.cons op .nil) Ud.h Tq.h J J (by decide) J J J J fun a s g2 hg_ L=>?_;have d3:=Dis.newg hg_ lt_d3;refine sA 1 L fun a s L=>?_;refine es ?_;obtain ⟨r7,h8,h⟩:=h;refine rs ?_;have lt_d6:=L.rlt 15 rfl;have lt_d5:=L.blt 4 rfl;refine zi3 16 En.str kvStr En.bool L J J J J fun a s g4 hg_ L=>?_;have d5:=Dis.newg hg_ lt_d5;have d6:=Dis.newg hg_ lt_d6;refine sA 4 L fun a s L=>?_;refine sv (zfc (q:=(s_.1,r7)) op h8 opz (fun _ _ _ h_=>h_) J J) L fun a s L=>?_;refine zgr L op op o_b Ud.h (zd7 Ud.h) (.inr J) J J kw fun s L=>?_;refine sA 2 L fun a s L=>?_;refine es (wp_seq_k fun K9 H9=>?_);refine rA 1 L fun a s L=>?_;refine wp_block ?_;have J13:∀(v10:SFound_scantling_apart_thing_search) (list11:(List Smade_scantling_apart_thing_search)) (og12:Option Nat) (a:Act) (s:St),Has N0 87 s0 a s [(4,(Pd.box En.SFound_scantling_apart_thing_search s0.w.heap.size g1 v10)),(5,(Pd.row En.Smade_scantling_apart_thing_search s0.w.heap.size 159 og12 list11))]→Dis (some g1) og12→((ze.j1 r_) v10 list11)→K9 a s.w:=by
  intro v10 list11 og12 a s L d14 h;unfold ze.j1 at h;show K9 a s.w;refine H9 _ _ (rs ?_);refine sA 2 L fun a s L=>?_;refine sv (zbm (x:=(1,[],[],0,0,0,(list11.length:Int))) (ps:=[(0,.const (.int .i64 1)),(6,.tmp 84)]) zlb J stt31 (.cons (i:=0) op J (zv (zn _ _ _)) (.cons (i:=6) op J (zj (zj (zj (zj (zj (zj (zn _ _ _) J) J) J) J) J) J) .nil)) J J) L fun a s L=>?_;refine sv (zbm (x:=((1,[],[],0,0,0,(list11.length:Int)),([],[],0))) (ps:=[(0,.tmp 85)]) tyz102 J stt102 (.cons (i:=0) op J (zv (zn _ _ _)) .nil) J J) L fun a s L=>?_;refine sB 4 L fun s L=>?_;refine es ?_;subst h;exact wp_ret (retb J ty102 L J)
 obtain ⟨k21,h⟩:=h;refine lpn (fun k22 a s=>∃(v15:SFound_scantling_apart_thing_search) (list16:(List Smade_scantling_apart_thing_search)) (seen18:(List (Str × Bool))) (i20:Int) (og17:Option Nat) (og19:Option Nat),Has N0 87 s0 a s [(1,(Pi budget_)),(2,(Pd.ptr En.SSpace_scantling_apart_thing_search s_)),(4,(Pd.box En.SFound_scantling_apart_thing_search s0.w.heap.size g1 v15)),(5,(Pd.row En.Smade_scantling_apart_thing_search s0.w.heap.size 159 og17 list16)),(6,(Pd.map En.str kvStr En.bool s0.w.heap.size og19 seen18)),(7,(Pi i20))]∧Dis (some g1) og17∧Dis (some g1) og19∧Dis og17 og19∧ze.l1 s_ budget_ r_ (ze.j1 r_) k22 v15 list16 seen18 i20) k21 ⟨((0,[],[],0,0,0,0),([],[],0)),[(s_.1,(-1),0)],(zfv ([]:(List (Str × Bool))) r7 true),0,(some g2),(some g4),L.kk,(Dis.symm d3),(Dis.symm d5),(Dis.symm d6),h⟩ ?_;rintro k22 a s ⟨v15,list16,seen18,i20,og17,og19,L,d24,d25,d26,h⟩ KL23 hKL23;unfold ze.l1 at h;refine wp_seq_k fun K27 H27=>rA 4 L fun a s L=>?_;refine cn L h (fun h=>?_) fun h=>?_
 ·refine wp_skip (H27 _ _ ?_);refine wp_seq_k fun K28 H28=>wp_block (wp_seq_k fun K29 H29=>?_);refine rA 3 L fun a s L=>?_;refine cn L h (fun h=>?_) fun h=>?_
  ·refine rs ?_;refine sA 2 L fun a s L=>?_;refine sv (zbm (x:=(3,[],[],0,0,0,(max budget_ 0))) (ps:=[(0,.const (.int .i64 3)),(6,.tmp 33)]) zlb J stt31 (.cons (i:=0) op J (zv (zn _ _ _)) (.cons (i:=6) op J (zj (zj (zj (zj (zj (zj (zn _ _ _) J) J) J) J) J) J) .nil)) J J) L fun a s L=>?_;refine sv (zbm (x:=((3,[],[],0,0,0,(max budget_ 0)),([],[],0))) (ps:=[(0,.tmp 34)]) tyz102 J stt102 (.cons (i:=0) op J (zv (zn _ _ _)) .nil) J J) L fun a s L=>?_;refine sB 4 L fun s L=>?_;refine es ?_;subst h;exact wp_ret (retb J ty102 L J)
  ·refine wp_skip (H29 _ _ ?_);obtain ⟨e30,h31,h⟩:=h;refine rs (sl 5 (p1 h31) L fun a s L=>?_);have lt_d35:=L.mlt 6 rfl;have lt_d34:=L.rlt 5 rfl;have lt_d33:=L.blt 4 rfl;refine zba En.Sthing_apart (z:=([],[],0)) 8 L zm0 J J J J fun a s g32 hg_ L=>?_;have d33:=Dis.newg hg_ lt_d33;have d34:=Dis.newg hg_ lt_d34;have d35:=Dis.newg hg_ lt_d35;refine sB 8 L fun s L=>?_;refine es (wp_seq_k fun K36 H36=>?_);obtain ⟨r37,h38,h⟩:=h;refine rs (sA 3 L fun a s L=>?_);refine sv (zfc (q:=(e30.1,r37)) op h38 opz (fun _ _ _ h_=>h_) J J) L fun a s L=>?_;refine es (cn L h (fun h=>?_) fun h=>?_)
   ·refine fzc 5 L fun s L=>?_;obtain ⟨r39,h40,h41,h⟩:=h;refine wp_seq (rda zc1 8 [(Pd.rep (En.slice En.Smade_scantling_apart_thing_search) list16),(Pi i20),(Pd.rep (En.slice (En.int .u8)) r39),(Pi i20),(Pi (i20+1)),(Pd.rep En.SVerdict (2,r39,[],0,0,0,i20+1)),(Pd.rep En.Sthing_apart e30.1),(Pd.rep En.SFound_scantling_apart_thing_search ((2,r39,[],0,0,0,i20+1),e30.1))] L (by kernel_rfl) J J ?_ ?_)
    ·refine zbf.cons (zt (O 5 J) J J) ?_;refine zbf.cons (zt (O 7 J) J J) ?_;refine zbf.cons (ze8 ((zgq h40).frz) (xs:=[.tmp 45,.tmp 46]) (.cons (O 45 J) (.cons (O 46 J) .nil)) J J) ?_;refine zbf.cons (zt (O 7 J) J J) ?_;refine zbf.cons (t_add (O 48 J) oI h41 J J) ?_;refine zbf.cons (zbm (x:=(2,r39,[],0,0,0,i20+1)) (ps:=[(0,.const (.int .i64 2)),(1,.tmp 47),(6,.tmp 49)]) zlb J stt31 (.cons (i:=0) oI J (zv (zn _ _ _)) (.cons (i:=1) (O 47 J) J (zj (zv (zn _ _ _)) J) (.cons (i:=6) (O 49 J) J (zj (zj (zj (zj (zj (zj (zn _ _ _) J) J) J) J) J) J) .nil))) J J) ?_;refine zbf.cons (zlc ty100 (O 8 J) J J) ?_;refine zbf.cons (zbm (x:=((2,r39,[],0,0,0,i20+1),e30.1)) (ps:=[(0,.tmp 50),(1,.tmp 51)]) tyz102 J stt102 (.cons (i:=0) (O 50 J) J (zv (zn _ _ _)) (.cons (i:=1) (O 51 J) J (zj (zn _ _ _) J) .nil)) J J) ?_;exact zbf.nil
    intro a s _ L;replace L:=L.kk (L':=[(4,(Pd.box En.SFound_scantling_apart_thing_search s0.w.heap.size g1 v15)),(52,(Pd.rep En.SFound_scantling_apart_thing_search ((2,r39,[],0,0,0,i20+1),e30.1)))]);refine dp ?_;refine sB 4 L fun s L=>?_;refine es ?_;subst h;exact wp_ret (retb J ty102 L J)
   ·refine wp_skip (H36 _ _ ?_);obtain ⟨r42,h43,h⟩:=h;refine rs (sA 3 L fun a s L=>?_);refine sv (zfc (q:=(e30.1,r42)) op h43 opz (fun _ _ _ h_=>h_) J J) L fun a s L=>?_;refine sA 2 L fun a s L=>?_;refine es (wp_block ?_);have J48:∀(list44:(List Smade_scantling_apart_thing_search)) (seen46:(List (Str × Bool))) (og45:Option Nat) (og47:Option Nat) (a:Act) (s:St),Has N0 87 s0 a s [(1,(Pi budget_)),(2,(Pd.ptr En.SSpace_scantling_apart_thing_search s_)),(4,(Pd.box En.SFound_scantling_apart_thing_search s0.w.heap.size g1 v15)),(5,(Pd.row En.Smade_scantling_apart_thing_search s0.w.heap.size 159 og45 list44)),(6,(Pd.map En.str kvStr En.bool s0.w.heap.size og47 seen46)),(7,(Pi i20))]→Dis (some g1) og45→Dis (some g1) og47→Dis og45 og47→((ze.j2 (ze.l1 s_ budget_ r_ (ze.j1 r_) k22) v15 i20) list44 seen46)→K28 a s.w:=by
     intro list44 seen46 og45 og47 a s L d49 d50 d51 h;unfold ze.j2 at h;show K28 a s.w;refine H28 _ _ ?_;obtain ⟨h52,h⟩:=h;refine rg (sA 3 L fun a s L=>?_);refine en' ?_;exact hKL23 a s ⟨v15,list44,seen46,(i20+1),og45,og47,L.kk,d49,d50,d51,h⟩
    obtain ⟨k58,h⟩:=h;refine lpn (fun k59 a s=>∃(list53:(List Smade_scantling_apart_thing_search)) (seen55:(List (Str × Bool))) (v57:Int) (og54:Option Nat) (og56:Option Nat),Has N0 87 s0 a s [(1,(Pi budget_)),(2,(Pd.ptr En.SSpace_scantling_apart_thing_search s_)),(4,(Pd.box En.SFound_scantling_apart_thing_search s0.w.heap.size g1 v15)),(5,(Pd.row En.Smade_scantling_apart_thing_search s0.w.heap.size 159 og54 list53)),(6,(Pd.map En.str kvStr En.bool s0.w.heap.size og56 seen55)),(7,(Pi i20)),(56,(Pd.rep (En.slice En.SOn_scantling_apart_thing_search) r42)),(57,(Pi (r42.length:Int))),(58,(Pi v57))]∧Dis (some g1) og54∧Dis (some g1) og56∧Dis og54 og56∧ze.l2 s_ i20 r42 (ze.j2 (ze.l1 s_ budget_ r_ (ze.j1 r_) k22) v15 i20) k59 list53 seen55 v57) k58 ⟨list16,seen18,0,og17,og19,L.kk,d24,d25,d26,h⟩ ?_;rintro k59 a s ⟨list53,seen55,v57,og54,og56,L,d61,d62,d63,h⟩ KL60 hKL60;unfold ze.l2 at h;refine rA 1 L fun a s L=>?_;refine wp_seq_k fun K64 H64=>cn L h (fun h=>?_) fun h=>?_
    ·refine wp_skip (H64 _ _ ?_);refine wp_seq_k fun K65 H65=>wp_block ?_;obtain ⟨e66,h67,h⟩:=h;refine rs (sl 2 (p1 h67) L fun a s L=>?_);have lt_d71:=L.mlt 6 rfl;have lt_d70:=L.rlt 5 rfl;have lt_d69:=L.blt 4 rfl;refine zba En.SOn_scantling_apart_thing_search (z:=(0,([],[],0))) 10 L zo9 J J J J fun a s g68 hg_ L=>?_;have d69:=Dis.newg hg_ lt_d69;have d70:=Dis.newg hg_ lt_d70;have d71:=Dis.newg hg_ lt_d71;refine sB 10 L fun s L=>?_;refine es ?_;obtain ⟨r72,h73,h⟩:=h;refine rs (sA 4 L fun a s L=>?_);refine sv (zfc (q:=(e66.2,r72)) op h73 opz (fun _ _ _ h_=>h_) J J) L fun a s L=>?_;refine sA 1 L fun a s L=>?_;refine es (rs ?_);refine sA 2 L fun a s L=>?_;refine sv (zpb op op Ud.h (zd7 Ud.h) tyv4 J J) L fun a s L=>?_;refine sA 1 L fun a s L=>?_;refine es (cn L h (fun h=>?_) fun h=>?_)
     ·refine rs ?_;refine sA 2 L fun a s L=>?_;refine zgr L op op o_b Ud.h (zd7 Ud.h) (.inl J) J J kw fun s L=>?_;refine es ?_;obtain ⟨h74,h⟩:=h;refine rg (sA 6 L fun a s L=>?_);refine sv (zbm (x:=(e66.2,i20,e66.1)) (ps:=[(0,.tmp 75),(1,.tmp 76),(2,.tmp 78)]) tyz159 J stt159 (.cons (i:=0) op J (zv (zn _ _ _)) (.cons (i:=1) op J (zj (zv (zn _ _ _)) J) (.cons (i:=2) op J (zj (zj (zn _ _ _) J) J) .nil))) J J) L fun a s L=>?_;refine sA 1 L fun a s L=>?_;have lt_og75_0:=L.blt 4 rfl;have lt_og75_1:=L.mlt 6 rfl;refine zdo 81 L op op Ud.h Tq.h h74 J J J J ka fun a s og75 hg_ L=>?_;have d76:=Dis.app hg_ (Dis.symm d61) lt_og75_0;have d77:=Dis.app hg_ d63 lt_og75_1;refine sA 1 L fun a s L=>?_;refine en' (H65 _ _ ?_);obtain ⟨h78,h⟩:=h;refine rg (sA 2 L fun a s L=>?_);refine en' ?_;exact hKL60 a s ⟨(list53++[(e66.2,i20,e66.1)]),(zfv seen55 r72 true),(v57+1),og75,og56,L.kk,(Dis.symm d76),d62,d77,h⟩
     ·refine wp_skip (H65 _ _ ?_);obtain ⟨h79,h⟩:=h;refine rg (sA 2 L fun a s L=>?_);refine en' ?_;exact hKL60 a s ⟨list53,seen55,(v57+1),og54,og56,L.kk,d61,d62,d63,h⟩
    ·refine wp_exit ?_;exact J48 list53 seen55 og54 og56 a s (L.kk) d61 d62 d63 h
 ·refine wp_exit ?_;exact J13 v15 list16 og17 a s (L.kk) d24 h
set_option maxRecDepth 100000
set_option maxHeartbeats 2000000
set_option synthInstance.maxSize 100000
set_option synthInstance.maxHeartbeats 200000
theorem zo2 {d_:SDesc} {ev_:SDesc} {a_:(List (List SItem))} {b_:(List (List SItem))} {r_:(List Int)} (h:zh4 d_ ev_ a_ b_ r_):Fn Tryz.prog 116 [(Pd.rep En.SDesc d_),(Pd.rep En.SDesc ev_),(Pd.rep (En.slice (En.slice En.SItem)) a_),(Pd.rep (En.slice (En.slice En.SItem)) b_)] (Ro (En.int .u8) 5 r_):=by
 unfold zh4 at h;refine zbp Tryz.func116 J Tryz.ntmps116 (by rfl) (by simp) fun s0 a L=>?_;refine rs (sA 2 L fun a s L=>?_);refine sno (En.int .u8) 5 L fun a s L=>?_;refine es ?_;obtain ⟨r1,h2,r3,h4,r5,h6,r7,h8,r9,h10,h⟩:=h;refine wp_seq (rdx 9 (pp ((zge h2).frz) (pp ((zge h4).frz) (pp ((zei h6).frz) (p1 ((zl0 h8).frz))))) L fun a s L=>?_);refine zet 18 L (zjr h10) opz J J J J fun a s og11 hg_ L=>?_;refine sA 1 L fun a s L=>?_;refine es ?_;subst h;exact wp_ret (zif J L J)
section
variable {u : Bool} [Dr u]
def Pd.e0:Pd:=⟨fun _ v=>∃ad,v = .slice ad 0 0,fun _=>False,fun _ _ h=>h⟩
section
variable {P : Program} {ops : Array Oper} {o : Oper} {L : Lst}
theorem o_e0 {L:Lst}:Opn L (.const (.slice none 0 0)) Pd.e0:=o_c fun s=>⟨none,rfl⟩
theorem t_to00 {α:Type} {E:En α} {xs:List α} {y z z':Operand} {t te:TypeId} (hy:Opn L y (Pd.rep (En.slice E) xs)) (hz:Opn L z (Pd.rep (En.int .i64) 0)) (hz':Opn L z' (Pd.rep (En.int .i64) 0)) (ht:P.underlying t=some (.slice te)) (hE:Ty P te E)
  (ho:o.op = .slice t y none (some z) (some z')) (hg:o.guard=none):T P ops o L Pd.e0:=
 T.pure hg fun M n s0 ac s hL=>by
  obtain ⟨ad,cap,hv,h1,h2,h3,h4⟩:=zbx.1 (hy M n s0 ac s hL);have hiv:=(z8.1 (hz M n s0 ac s hL)).1;have hiv':=(z8.1 (hz' M n s0 ac s hL)).1;refine ⟨.slice ad 0 0, ?_,ad,rfl⟩;unfold execOp;rw [ho];simp [hv,hiv,hiv',Instr.sliceAt,run_underlying ht,Instr.slice,Instr.sliceBounds,Instr.sliceBound,asIntOf,zbw hE]
theorem t_upto3 {α:Type} {E:En α} {xs:List α} {i:Int} {y z z':Operand} {t te:TypeId} (hy:Opn L y (Pd.rep (En.slice E) xs)) (hz:Opn L z (Pd.rep (En.int .i64) i)) (hz':Opn L z' (Pd.rep (En.int .i64) i)) (hi:0≤i∧i≤(xs.length:Int)) (ht:P.underlying t=some (.slice te)) (hE:Ty P te E)
  (ho:o.op = .slice t y none (some z) (some z')) (hg:o.guard=none):T P ops o L (Pd.rep (En.slice E) (xs.take i.toNat)):=
 T.pure hg fun M n s0 ac s hL=>by
  obtain ⟨ad,cap,hv,h1,h2,h3,h4⟩:=zbx.1 (hy M n s0 ac s hL);have hiv:=(z8.1 (hz M n s0 ac s hL)).1;have hiv':=(z8.1 (hz' M n s0 ac s hL)).1;have hlen:(xs.take i.toNat).length=i.toNat:=by rw [List.length_take];omega
  refine ⟨.slice (if i.toNat=0 then ad else ad.map (·.add (0*E.sz))) i.toNat i.toNat, ?_,zbx.2 ⟨_,_,by rw [hlen],by rw [hlen];omega,fun hn=>?_,by rw [hlen];omega,fun hne=>?_⟩⟩
  ·unfold execOp;rw [ho];simp only [hv,hiv,hiv',Option.map_some,Option.map_none,Instr.sliceAt,Sem.run_bind,run_underlying ht,Result.andThen_ok,Instr.slice,Instr.sliceBounds,Instr.sliceBound,asIntOf,Sem.run_pure];rw [if_pos (by omega)];simp only [Sem.run_pure,Result.andThen_ok];rw [if_pos (by omega)];simp [zbw hE]
  ·split at hn
   ·assumption
   ·cases ad with
    | none=>have:=h2 rfl;omega
    | some a=>cases hn
  ·have hlt:0<i.toNat:=by
    rcases Nat.eq_zero_or_pos i.toNat with h | h
    ·rw [h] at hne;simp at hne
    ·exact h
   obtain ⟨b,off,css,e1,hb,hEl,hc⟩:=h4 (by intro h;rw [h] at hi;simp at hi;omega);refine ⟨b,off,css.take i.toNat, ?_,hb,els_take hEl _,fun j u hu=>hc j u (flat_take _ hu)⟩;rw [if_neg (by omega),e1];simp [zep]
end
end
section
variable {P : Program} {ops : Array Oper} {o : Oper} {L : Lst}
theorem run_app_e0 {α:Type} {E:En α} {t te:TypeId} (ht:P.underlying t=some (.slice te)) (hE:Ty P te E) {ys:List α} {s:St} {ad:Option Addr} {u:Value} (hu:SlV E s.w (zfa s) u ys) (hne:ys≠[]) (hlen:ys.length≤2147483648) (ty:TypeId):
  (Builtin.append_ #[t,t] ty #[.slice ad 0 0,u]).run P s.w=(Builtin.append_ #[t,t] ty #[.slice none 0 0,u]).run P s.w:=by
 obtain ⟨i,z,hi,hsz,hz,hzs,hby⟩:=hE.info;obtain ⟨ad',cap,rfl,h1,h2,h3,h4⟩:=hu;obtain ⟨b,off,css,rfl,hb,hEl,hc⟩:=h4 hne;have hpos:0<ys.length:=List.length_pos_iff.2 hne;have hdl:css.flatten.length=ys.length*E.sz:=by rw [zf5 hEl.lens,hEl.1]
 have hnews:∀j u,css.flatten[j]?=some u→s.w.cell? ((⟨b,off,none⟩:Addr).add j)=some u:=fun j u hu=>by rw [zep];exact hc j u hu
 have hby':ys.length*i.bytes≤140737488355328:=by
  have:=Nat.mul_le_mul hlen hby;omega
 cases ad with
 | none=>rfl
 | some a0=>
  rw [run_append_grow (P:=P) s.w t ty te i z ht hi hz a0 0 0 [] (by simp) (by simp) ⟨b,off,none⟩ ys.length cap css.flatten (by rw [hsz];exact hdl) hnews (by omega) (by omega) (by rw [Nat.zero_add,nextslicecap_zero hpos];omega)];rw [run_append_nil (P:=P) s.w t ty te i z ht hi hz ⟨b,off,none⟩ ys.length cap css.flatten (by rw [hsz];exact hdl) hnews hpos (by omega) (by omega)];simp
theorem st_appe {Q:Exit→Act→World→Prop} {rest:List Oper} {M:Nat→Prop} {n:Nat} {s0:St} {a:Act} {s:St} {α:Type} {E:En α} {te t:TypeId} {ys:List α} {x y:Operand} (d:Nat)
  (hL:Has M n s0 a s L) (hx:Opn L x Pd.e0) (hy:Opn L y (Pd.rep (En.slice E) ys)) (ht:P.underlying t=some (.slice te)) (hE:Ty P te E) (hlen:ys.length≤2147483648)
  (ho:o.op = .call { callee:=.builtin .append,args:=#[x,y],argTypes:=#[t,t] }) (hg:o.guard=none) (hd:o.dst=some d) (hn:Nat.blt d n=true)
  (k:∀a' s',Has M n s0 a' s' ((d,Pd.rep (En.slice E) ys)::L)→wpList P ops Q rest a' s'.w):wpList P ops Q (o::rest) a s.w:=by
 obtain ⟨ad,hx0⟩:=hx M n s0 a s hL;have h2:=zbx.1 (hy M n s0 a s hL)
 by_cases hne:ys=[]
 ·subst hne;obtain ⟨i,z,hi,hsz,hz,hzs,hby⟩:=hE.info;have hr:(Builtin.append_ #[t,t] o.type #[.slice ad 0 0,a.eval y]).run P s.w = .ok (.slice ad 0 0) s.w:=by
   obtain ⟨ad',cap,hv,k1,k2,k3,k4⟩:=h2;rw [hv];cases ad' with
   | none=>cases ad <;> simp [Builtin.append_,run_underlying ht,sizeOf,typeInfo,hi,Builtin.lenOf,Builtin.firstCells,storeCells]
   | some b=>
    have hf:=run_firstCells_some (P:=P) s.w i.size 0 b 0 cap [] (by simp) (by simp);cases ad <;> simp [Builtin.append_,run_underlying ht,sizeOf,typeInfo,hi,Builtin.lenOf,hf,storeCells]
  refine wpList_plain hg fun K hK=>?_;unfold Oper.wp execOp;simp only [ho,resolve,invoke,builtin,Sem.run_bind,Sem.run_pure,Result.andThen_ok,List.map_toArray,List.map_cons,List.map_nil,hx0,hr];refine hK _ _ ?_;simp only [hd];exact k _ s (hL.put' hn (zbx.2 ⟨ad,0,rfl,Nat.le_refl _,fun _=>rfl,Nat.zero_le _,fun h=>absurd rfl h⟩))
 ·have hn0:(Pd.row E s0.w.heap.size te none ([]:List α)).p s (.slice none 0 0):=zqx _ _ _ _;obtain ⟨v',s',og',hr,e,hq,hf⟩:=run_app ht hE hn0 h2 hL.ent.mv.size (by simpa using hlen) o.type;rw [← run_app_e0 ht hE (ad:=ad) h2 hne hlen o.type] at hr;have ex:Ex s ⟨s'.w,fun b=>s'.X b∧og'≠some b,fun b hb=>s'.lt b hb.1⟩:=
   ⟨⟨e.mv.dr,e.mv.os,e.mv.tape,e.mv.output,e.mv.size,fun b hb _=>e.mv.blk b hb (by simp),fun _ h=>h.elim,fun b hb=>e.mv.xx b hb.1⟩,fun b hb=>⟨e.keep b hb (by simp),fun h=>(hf b h).elim (fun h=>by cases h) fun h=>by have:=s.lt b hb;omega⟩⟩
  refine wpList_plain hg fun K hK=>?_;unfold Oper.wp execOp;simp only [ho,resolve,invoke,builtin,Sem.run_bind,Sem.run_pure,Result.andThen_ok,List.map_toArray,List.map_cons,List.map_nil,hx0,hr];refine hK _ _ ?_;simp only [hd];have hq':(Pd.rep (En.slice E) ys).p ⟨s'.w,fun b=>s'.X b∧og'≠some b,fun b hb=>s'.lt b hb.1⟩ v':=by
   rw [List.nil_append] at hq;exact zbx.2 (zqw hq rfl fun b hb=>hb)
  exact k _ ⟨s'.w,fun b=>s'.X b∧og'≠some b,fun b hb=>s'.lt b hb.1⟩ (hL.put ex hn hq')
end
end Go.Proofs.YtkbboemafklkkaaGreatDoor.V
namespace Go.Proofs.YtkbboemafklkkaaGreatDoor.V
open Go
set_option linter.unusedVariables false
section
variable {P : Program} {ops : Array Oper} {Q : Exit → Act → World → Prop} {a : Act} {w : World} {f : Nat} {listed : Array Bool}
def Qn (Q:Exit→Act→World→Prop) (K:Act→World→Prop):Exit→Act→World→Prop
 | .normal,a,w=>K a w
 | e,a,w=>Q e a w
theorem upon_n {o:Oper} {K K':Act→World→Prop} (hK:∀a w,K' a w→K a w) (r:Result Next) (h:o.upon P a K' (Qn Q K) r):o.upon P a K Q r:=by
 cases r with
 | ok n w'=>
  cases n <;> simp only [Oper.upon] at h ⊢ <;>
   first
    | exact hK _ _ h
    | exact Calls.mono h (fun e w'' he=>by cases e <;> first | exact hK _ _ he | exact he)
    | exact Rows.mono h (fun _ _ he=>hK _ _ he)
 | halt x w'=>cases x <;> simp only [Oper.upon] at h ⊢ <;> exact h
theorem op_of {i:Nat} {o:Oper} {K:Act→World→Prop} (hi:ops[i]?=some o) (h:wpList P ops (Qn Q K) [o] a w):wpOp P ops Q i K a w:=by
 unfold wpOp;rw [hi];simp only [wpList] at h ⊢;split
 ·rename_i hw
  rw [if_pos hw] at h;exact h.imp (fun h=>upon_n (fun _ _ h=>h) _ h) id
 ·rename_i hw
  rw [if_neg hw] at h;exact h
theorem ol {K:Act→World→Prop} (h:K a w):wpList P ops (Qn Q K) [] a w:=h
theorem anS {l:List Oper} {id:Nat} {M:Nat→Prop} {n:Nat} {s0 s:St} {L:Lst} (N:Nat) (LF:Lst) (hf:P.follows .mixedOrders=true) (hL:Has M n s0 a s L) (hN:Nat.beq l.toArray.size N=true) (hJ:∀a' s',Has M n s0 a' s' LF→wpList P l.toArray Q [] a' s'.w)
  (h:(∀a' s',Has M n s0 a' s' LF→wpList P l.toArray Q [] a' s'.w)→∀s',Ex s s'→Has M n s0 a s' L→wpAny P .any l.toArray Q N (Array.replicate N false) a s'.w):(Code.region id l.toArray true).wp P Q a s.w:=
 rdf N hf hL (Nat.eq_of_beq_eq_true hN) (h hJ)
theorem an0 (hr:Region.ready .any ops listed=[]) (h:wpList P ops Q [] a w):wpAny P .any ops Q 0 listed a w:=⟨hr,h⟩
theorem an1 {i:Nat} {o:Oper} (hr:Region.ready .any ops listed=[i]) (hi:ops[i]?=some o) (h:wpList P ops (Qn Q (wpAny P .any ops Q f (listed.setIfInBounds i true))) [o] a w):wpAny P .any ops Q (f+1) listed a w:=
 wpAny_all hr (by simp) fun j hj=>by rw [List.mem_singleton.1 hj];exact op_of hi h
theorem an2 {i j:Nat} {o p:Oper} (hr:Region.ready .any ops listed=[i,j]) (hi:ops[i]?=some o) (hj:ops[j]?=some p) (h:wpList P ops (Qn Q (wpAny P .any ops Q f (listed.setIfInBounds i true))) [o] a w)
  (k:wpList P ops (Qn Q (wpAny P .any ops Q f (listed.setIfInBounds j true))) [p] a w):wpAny P .any ops Q (f+1) listed a w:=
 wpAny_all hr (by simp) fun q hq=>by
  rcases List.mem_cons.1 hq with e | hq
  ·rw [e];exact op_of hi h
  ·rw [List.mem_singleton.1 hq];exact op_of hj k
end
section
variable {P : Program} {ops : Array Oper} {o : Oper} {L : Lst}
theorem y_fao {α β:Type} {E:En α} {E':En β} {a:α} {y:β} {x:Operand} {t:TypeId} {fs:Array Field} {f off N o':Nat} {og:Option Nat} {fd:Field} (hx:Opn L x (Pd.optr E N og o' a)) (ht:P.underlying t=some (.struct fs)) (hf:fs[f]?=some fd) (hp:Prt E off E' a y) (hq:fd.offset=off) (hE:Ty P fd.type E')
  (ho:o.op = .fieldAddr t x f) (hg:o.guard=none):TY P o L (Pd.optr E' N og (o'+off) y):=
 ⟨hg,fun M n s0 ac s hL=>by
  obtain ⟨g,h1,hv,h2,h3,h4,cs,hc,hR⟩:=hx M n s0 ac s hL;refine ⟨.pointer (some ⟨g,o'+fd.offset,none⟩),fun w=>?_,g,h1,by rw [hq],h2,h3,h4,_,hc.sub off E'.sz,hp.get _ _ _ hR⟩;unfold execOp;rw [ho];simp only [hv,Sem.run_bind,zgh ht hf hE,Result.andThen_ok,Sem.run_pure]⟩
theorem y_fab {α β:Type} {E:En α} {E':En β} {a:α} {y:β} {x:Operand} {t:TypeId} {fs:Array Field} {f off N g:Nat} {fd:Field} (hx:Opn L x (Pd.box E N g a)) (ht:P.underlying t=some (.struct fs)) (hf:fs[f]?=some fd) (hp:Prt E off E' a y) (hq:fd.offset=off) (hE:Ty P fd.type E')
  (ho:o.op = .fieldAddr t x f) (hg:o.guard=none):TY P o L (Pd.optr E' N (some g) off y):=
 ⟨hg,fun M n s0 ac s hL=>by
  obtain ⟨hv,h2,h4,cs,t',hc,hR⟩:=hx M n s0 ac s hL;have hcs:zeg s.w g (0+off) ((cs.drop off).take E'.sz):=(zcn hc).sub off E'.sz;refine ⟨.pointer (some ⟨g,0+fd.offset,none⟩),fun w=>?_,g,rfl,by rw [hq,Nat.zero_add],h2,(Array.getElem?_eq_some_iff.1 hc).1,h4,_,by rw [Nat.zero_add] at hcs;exact hcs,hp.get _ _ _ hR⟩;unfold execOp;rw [ho];simp only [hv,Sem.run_bind,zgh ht hf hE,Result.andThen_ok,Sem.run_pure]⟩
theorem y_max {k:IntKind} {x y:Int} {u v:Operand} {ats:Array TypeId} (hx:Opn L u (Pd.rep (En.int k) x)) (hy:Opn L v (Pd.rep (En.int k) y)) (ho:o.op = .call { callee:=.builtin .max,args:=#[u,v],argTypes:=ats }) (hg:o.guard=none):
  TY P o L (Pd.rep (En.int k) (max x y)):=
 ⟨hg,fun M n s0 a s hL=>by
  obtain ⟨h1,h2⟩:=z8.1 (hx M n s0 a s hL);obtain ⟨h3,h4⟩:=z8.1 (hy M n s0 a s hL);refine ⟨.int k (max x y),fun w=>?_,z8.2 ⟨rfl,by unfold InR at *;omega⟩⟩;unfold execOp;rw [ho];simp only [resolve,invoke,builtin,Builtin.max_,Sem.run_bind,Sem.run_pure,Result.andThen_ok];simp [h1,h3,Builtin.max2]
  by_cases h:x≤y
  ·simp [Int.max_eq_right h];omega
  ·have h':y≤x:=by omega
   simp [Int.max_eq_left h'];omega⟩
end
end Go.Proofs.YtkbboemafklkkaaGreatDoor.V
namespace Go.Proofs.YtkbboemafklkkaaGreatDoor.V
open Go
set_option linter.unusedVariables false
def zdm.l1 (d_:SDesc) (w_:(List Int)) (r_:((List Int) × Bool)) (X1:Prop):Nat→(List (List SItem))→Int→Prop
 | 0,_,_=>False
 | k_0+1,l3,i4=>∃r10:Bool,zey d_ l3 r10∧((r10)=true→((0:Int)≤i4∧i4≤(w_.length:Int))∧((w_.take (i4:Int).toNat).length≤2147483648)∧r_=((w_.take (i4:Int).toNat),true))∧((r10)=false→(((i4==(w_.length:Int)))=true→r_=(([]:(List Int)),false))∧(((i4==(w_.length:Int)))=false→∃e15:Int,at? w_ i4=some e15∧∃r17:(List (List SItem)),zb2 d_ l3 e15 r17∧(InR .i64 (i4+1))∧zdm.l1 d_ w_ r_ X1 k_0 r17 (i4+1)))
def zdm (d_:SDesc) (w_:(List Int)) (r_:((List Int) × Bool)):Prop:=∃r1:(List (List SItem)),zf9 d_ r1∧∃k5,zdm.l1 d_ w_ r_ True k5 r1 0
set_option maxRecDepth 100000
set_option maxHeartbeats 2000000
set_option synthInstance.maxSize 100000
set_option synthInstance.maxHeartbeats 200000
theorem zkj {d_:SDesc} {w_:(List Int)} {r_:((List Int) × Bool)} (h:zdm d_ w_ r_):Fn Tryz.prog 28 [(Pd.rep En.SDesc d_),(Pd.rep (En.slice (En.int .u8)) w_)] (Rq2 (Pd.rep (En.slice (En.int .u8)) r_.1) (Pd.rep En.bool r_.2)):=by
 unfold zdm at h;refine zbp Tryz.func28 J Tryz.ntmps28 (by rfl) (by simp) fun s0 a L=>?_;refine rs (sA 1 L fun a s L=>?_);refine snr (En.int .u8) L fun a s L=>?_;refine sA 1 L fun a s L=>?_;refine es ?_;obtain ⟨r1,h2,h⟩:=h;refine ra 3 (p1 ((zhs h2).frz)) L fun a s L=>?_;refine rA 1 L fun a s L=>?_;refine wp_block ?_;obtain ⟨k5,h⟩:=h;refine lpn (fun k6 a s=>∃(l3:(List (List SItem))) (i4:Int),Has N0 33 s0 a s [(1,(Pd.rep (En.slice (En.int .u8)) w_)),(2,(Pd.ptr En.SDesc d_)),(6,(Pd.rep (En.slice (En.slice En.SItem)) l3)),(7,(Pi i4))]∧zdm.l1 d_ w_ r_ True k6 l3 i4) k5 ⟨r1,0,L.kk,h⟩ ?_;rintro k6 a s ⟨l3,i4,L,h⟩ KL7 hKL7;unfold zdm.l1 at h;refine wp_seq_k fun K8 H8=>wp_block (wp_seq_k fun K9 H9=>?_);obtain ⟨r10,h11,h⟩:=h;refine ra 3 (p1 (zfq h11)) L fun a s L=>?_;refine cn L h (fun h=>?_) fun h=>?_
 ·obtain ⟨h12,h13,h⟩:=h;refine wp_seq (rda zc1 6 [(Pd.rep (En.slice (En.int .u8)) w_),Pd.e0,(Pd.rep (En.slice (En.int .u8)) w_),(Pi i4),(Pi i4),(Pd.rep (En.slice (En.int .u8)) (w_.take (i4:Int).toNat))] L (by kernel_rfl) J J ?_ ?_)
  ·refine zbf.cons (zt (O 1 J) J J) ?_;refine zbf.cons (t_to00 (O 15 J) oI oI U25 ty5 J J) ?_;refine zbf.cons (zt (O 1 J) J J) ?_;refine zbf.cons (zt (O 7 J) J J) ?_;refine zbf.cons (zt (O 7 J) J J) ?_;refine zbf.cons (t_upto3 (O 17 J) (O 18 J) (O 19 J) h12 U25 ty5 J J) ?_;exact zbf.nil
  intro a s _ L;replace L:=L.kk (L':=[(16,Pd.e0),(20,(Pd.rep (En.slice (En.int .u8)) (w_.take (i4:Int).toNat)))]);refine dp ?_;refine st_appe 21 L op op Ud.h Tq.h h13 J J J J fun a s L=>?_;refine sA 2 L fun a s L=>?_;refine es ?_;subst h;exact wp_ret (ret2 J L J J)
 ·refine wp_skip (H9 _ _ ?_);refine wp_seq_k fun K14 H14=>rA 4 L fun a s L=>?_;refine cn L h (fun h=>?_) fun h=>?_
  ·refine rs ?_;refine snr (En.int .u8) L fun a s L=>?_;refine sA 1 L fun a s L=>?_;refine es ?_;subst h;exact wp_ret (ret2 J L J J)
  ·refine wp_skip (H14 _ _ ?_);obtain ⟨e15,h16,r17,h18,h⟩:=h;refine rdx 7 (pp h16 (p1 ((zhc h18).frz))) L fun a s L=>?_;refine sA 1 L fun a s L=>?_;refine en' (H8 _ _ ?_);obtain ⟨h19,h⟩:=h;refine rg (sA 3 L fun a s L=>?_);refine en' ?_;exact hKL7 a s ⟨r17,(i4+1),L.kk,h⟩
def z7.j1 (r_:(List SOn_scantling_apart_thing_search)) (out8:(List SOn_scantling_apart_thing_search)):Prop:=r_=out8
def z7.j2 (L1_:(List SOn_scantling_apart_thing_search)→Int→Prop) (r3:Bool) (v13:Int) (e19:Int) (r21:(List (List SItem))) (out28:(List SOn_scantling_apart_thing_search)):Prop:=((r3)=true→(out28.length+[(e19,(r21,([]:(List (List SItem))),2))].length≤2147483648)∧(InR .i64 (v13+1))∧L1_ (out28++[(e19,(r21,([]:(List (List SItem))),2))]) (v13+1))∧((r3)=false→(InR .i64 (v13+1))∧L1_ out28 (v13+1))
def z7.l1 (p_:Sboth_apart) (x_:Sthing_apart) (r1:Bool) (r3:Bool) (r6:(List Int)) (X1:(List SOn_scantling_apart_thing_search)→Prop):Nat→(List SOn_scantling_apart_thing_search)→Int→Prop
 | 0,_,_=>False
 | k_0+1,out11,v13=>((decide (v13<(r6.length:Int)))=true→∃e19:Int,at? r6 v13=some e19∧∃r21:(List (List SItem)),zb2 p_.1 x_.1 e19 r21∧∃r23:(List (List SItem)),zb2 p_.2 x_.2.1 e19 r23∧(out11.length+[(e19,(r21,r23,0))].length≤2147483648)∧((r1)=true→((out11++[(e19,(r21,r23,0))]).length+[(e19,(([]:(List (List SItem))),r23,1))].length≤2147483648)∧(z7.j2 (z7.l1 p_ x_ r1 r3 r6 X1 k_0) r3 v13 e19 r21) ((out11++[(e19,(r21,r23,0))])++[(e19,(([]:(List (List SItem))),r23,1))]))∧((r1)=false→(z7.j2 (z7.l1 p_ x_ r1 r3 r6 X1 k_0) r3 v13 e19 r21) (out11++[(e19,(r21,r23,0))])))∧((decide (v13<(r6.length:Int)))=false→X1 out11)
def z7 (p_:Sboth_apart) (x_:Sthing_apart) (r_:(List SOn_scantling_apart_thing_search)):Prop:=∃r1:Bool,zey p_.1 x_.1 r1∧∃r3:Bool,zey p_.2 x_.2.1 r3∧∃r6:(List Int),zh4 p_.1 p_.2 x_.1 x_.2.1 r6∧∃k14,z7.l1 p_ x_ r1 r3 r6 (z7.j1 r_) k14 ([]:(List SOn_scantling_apart_thing_search)) 0
def zee (cap0_:Sboth_apart) (cap1_:Sthing_apart) (r_:(List SOn_scantling_apart_thing_search)):Prop:=∃r1:(List SOn_scantling_apart_thing_search),z7 cap0_ cap1_ r1∧r_=r1
def zbe.j1 (r_:(List SOn_scantling_apart_thing_search)) (out4:(List SOn_scantling_apart_thing_search)):Prop:=r_=out4
def zbe.l1 (cap0_:Sboth_apart) (cap1_:Sthing_apart) (r2:(List Int)) (X1:(List SOn_scantling_apart_thing_search)→Prop):Nat→(List SOn_scantling_apart_thing_search)→Int→Prop
 | 0,_,_=>False
 | k_0+1,out7,v9=>((decide (v9<(r2.length:Int)))=true→∃e15:Int,at? r2 v9=some e15∧∃r17:(List (List SItem)),zb2 cap0_.2 cap1_.2.1 e15 r17∧(out7.length+[(e15,(([]:(List (List SItem))),r17,1))].length≤2147483648)∧(InR .i64 (v9+1))∧zbe.l1 cap0_ cap1_ r2 X1 k_0 (out7++[(e15,(([]:(List (List SItem))),r17,1))]) (v9+1))∧((decide (v9<(r2.length:Int)))=false→X1 out7)
def zbe (cap0_:Sboth_apart) (cap1_:Sthing_apart) (r_:(List SOn_scantling_apart_thing_search)):Prop:=∃r2:(List Int),zhe cap0_.2 cap1_.2.1 r2∧∃k10,zbe.l1 cap0_ cap1_ r2 (zbe.j1 r_) k10 ([]:(List SOn_scantling_apart_thing_search)) 0
def zbd.j1 (r_:(List SOn_scantling_apart_thing_search)) (out4:(List SOn_scantling_apart_thing_search)):Prop:=r_=out4
def zbd.l1 (cap0_:Sboth_apart) (cap1_:Sthing_apart) (r2:(List Int)) (X1:(List SOn_scantling_apart_thing_search)→Prop):Nat→(List SOn_scantling_apart_thing_search)→Int→Prop
 | 0,_,_=>False
 | k_0+1,out7,v9=>((decide (v9<(r2.length:Int)))=true→∃e15:Int,at? r2 v9=some e15∧∃r17:(List (List SItem)),zb2 cap0_.1 cap1_.1 e15 r17∧(out7.length+[(e15,(r17,([]:(List (List SItem))),2))].length≤2147483648)∧(InR .i64 (v9+1))∧zbd.l1 cap0_ cap1_ r2 X1 k_0 (out7++[(e15,(r17,([]:(List (List SItem))),2))]) (v9+1))∧((decide (v9<(r2.length:Int)))=false→X1 out7)
def zbd (cap0_:Sboth_apart) (cap1_:Sthing_apart) (r_:(List SOn_scantling_apart_thing_search)):Prop:=∃r2:(List Int),zhe cap0_.1 cap1_.1 r2∧∃k10,zbd.l1 cap0_ cap1_ r2 (zbd.j1 r_) k10 ([]:(List SOn_scantling_apart_thing_search)) 0
def zct (p_:Sboth_apart) (x_:Sthing_apart) (r_:(List SOn_scantling_apart_thing_search)):Prop:=(x_.2.2=0∧zee p_ x_ r_)∨(x_.2.2=1∧zbe p_ x_ r_)∨(x_.2.2=2∧zbd p_ x_ r_)
def zco (p_:Sboth_apart) (x_:Sthing_apart) (r_:Bool):Prop:=∃r1:Bool,zey p_.1 x_.1 r1∧∃r3:Bool,zey p_.2 x_.2.1 r3∧∃b5:Bool,b5=((((x_.2.2==0)&&r1)&&r3)||((x_.2.2==1)&&r3))∧r_=(b5||((x_.2.2==2)&&r1))
def zel (x_:Sthing_apart) (r_:Str):Prop:=∃r1:Str,zlz x_.2.2 r1∧∃r3:Str,zmo x_.1 r3∧(r1.length+r3.length≤9223372036854775807)∧((r1++r3).length+([124]:Str).length≤9223372036854775807)∧∃r7:Str,zmo x_.2.1 r7∧(((r1++r3)++([124]:Str)).length+r7.length≤9223372036854775807)∧r_=((r1++r3)++([124]:Str))++r7
def zbr (d_:SDesc) (ev_:SDesc) (budget_:Int) (r_:SVerdict):Prop:=∃r7:(List (List SItem)),zf9 d_ r7∧∃r9:(List (List SItem)),zf9 ev_ r9∧∃r11:SFound_scantling_apart_thing_search,ze ((r7,r9,0),(fun q_=>zel q_.1 q_.2),(fun q_=>zct (d_,ev_) q_.1 q_.2),(fun q_=>zco (d_,ev_) q_.1 q_.2)) budget_ r11∧(((r11.1.1 != 2))=true→r_=r11.1)∧(((r11.1.1 != 2))=false→(((r11.2.2.2==0))=true→(r11.1.2.1.length≤2147483648)∧r_=(r11.1.1,r11.1.2.1,r11.1.2.1,r11.1.2.2.2.1,(max r11.2.2.2 1),r11.1.2.2.2.2.2.1,r11.1.2.2.2.2.2.2))∧(((r11.2.2.2==0))=false→(((r11.2.2.2==1))=true→∃r22:((List Int) × Bool),zdm d_ r11.1.2.1 r22∧r_=(r11.1.1,r22.1,r11.1.2.1,r11.1.2.2.2.1,(max r11.2.2.2 1),r11.1.2.2.2.2.2.1,r11.1.2.2.2.2.2.2))∧(((r11.2.2.2==1))=false→∃r24:((List Int) × Bool),zdm ev_ r11.1.2.1 r24∧r_=(r11.1.1,r24.1,r11.1.2.1,r11.1.2.2.2.1,(max r11.2.2.2 1),r11.1.2.2.2.2.2.1,r11.1.2.2.2.2.2.2))))
def zgl  (r_:Bool):Prop:=∃r7:SVerdict,zbr [(3,0,0,0,0,(0#256),([97]:Str))] [(3,0,0,0,0,(0#256),([97,98]:Str))] 20 r7∧∃r13:SVerdict,zbr [(3,0,0,0,0,(0#256),([97,98]:Str))] [(3,0,0,0,0,(0#256),([97]:Str))] 20 r13∧∃r20:SVerdict,zbr [(3,0,0,0,0,(0#256),([97]:Str))] [(3,0,0,0,0,(0#256),([97]:Str))] 20 r20∧∃r27:SVerdict,zbr [(3,0,0,0,0,(0#256),([97]:Str))] [(3,0,0,0,0,(0#256),([99]:Str))] 20 r27∧∃r35:Bool,((((r7.1==2))=true)→zbt r7.2.1 [97] r35)∧∃r37:Bool,(((((r7.1==2)&&r35))=true)→zbt r7.2.2.1 [97,98] r37)∧∃b39:Bool,b39=((((r7.1==2)&&r35)&&r37)&&(r7.2.2.2.2.1==1))∧∃r41:Bool,((((b39&&(r13.2.2.2.2.1==2)))=true)→zbt r13.2.2.1 [97,98] r41)∧∃b43:Bool,b43=(((b39&&(r13.2.2.2.2.1==2))&&r41)&&(r20.1==2))∧∃r45:Bool,(((b43)=true)→zbt r20.2.1 r20.2.2.1 r45)∧∃b47:Bool,b47=(((b43&&r45)&&(r20.2.2.2.2.1==1))&&(r27.1==1))∧∃r49:SVerdict,(((b47)=true)→zbr [(3,0,0,0,0,(0#256),([97]:Str))] [(3,0,0,0,0,(0#256),([99]:Str))] 1 r49)∧∃r51:SVerdict,((((b47&&(r49.1==3)))=true)→zbr [(3,0,0,0,0,(0#256),([97]:Str))] [(3,0,0,0,0,(0#256),([99]:Str))] (-1) r51)∧r_=((b47&&(r49.1==3))&&(r51.2.2.2.2.2.2==0))
def zhk (d_:SDesc) (r_:Bool):Prop:=∃r1:Bool,zcx d_ r1∧∃r3:Int,((((r1&&(decide ((d_.length:Int)≤16))))=true)→zl d_ r3)∧∃b5:Bool,b5=((r1&&(decide ((d_.length:Int)≤16)))&&(decide (r3≤60)))∧∃r7:Bool,(((b5)=true)→zgi d_ r7)∧r_=(b5&&r7)
def zf0 (a_:SDesc) (b_:SDesc) (cv_:SDesc) (r_:Bool):Prop:=∃r2:Bool,zgl  r2∧∃r4:Bool,((((!r2))=false)→zhk a_ r4)∧∃r6:Bool,(((((!r2)||(!r4)))=false)→zhk b_ r6)∧∃r8:Bool,((((((!r2)||(!r4))||(!r6)))=false)→zhk cv_ r8)∧∃b10:Bool,b10=(((((!r2)||(!r4))||(!r6))||(!r8))||(decide (7<(a_.length:Int))))∧(((b10||(decide (7<(b_.length:Int)))))=true→∃r12:Bool,zgl  r12∧r_=r12)∧(((b10||(decide (7<(b_.length:Int)))))=false→∃r14:SDesc,zhf 5 a_ b_ r14∧∃r17:Int,zgw r14 cv_ 60 r17∧∃r19:SVerdict,zbr a_ cv_ r17 r19∧∃r23:SVerdict,zbr b_ cv_ r17 r23∧∃r28:SVerdict,zbr r14 cv_ r17 r28∧∃b35:Bool,b35=(((r28.1==1)&&((r19.1==2)||(r23.1==2)))||(((r19.1==1)&&(r23.1==1))&&(r28.1==2)))∧((b35)=true→r_=false)∧((b35)=false→∃r41:SDesc,zhf 5 a_ a_ r41∧∃r43:SVerdict,zbr r41 cv_ r17 r43∧∃b49:Bool,b49=((r43.2.2.1.length:Int)==(r19.2.2.1.length:Int))∧∃b51:Bool,b51=(((r43.1==3)||(r19.1==3))||((r43.1==r19.1)&&b49))∧r_=b51))
end Go.Proofs.YtkbboemafklkkaaGreatDoor.V
