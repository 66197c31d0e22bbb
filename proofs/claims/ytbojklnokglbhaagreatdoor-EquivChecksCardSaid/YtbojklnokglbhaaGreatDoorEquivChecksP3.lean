/-
  The texts that the law's proof needs, part 3.
-/
import Derived.Lib.ItoaNum
import Derived.Shelf.SlSortCmp.NoneTotal
import Derived.Shelf.SlSortCmp.WholeK
import Derived.Test.YtbojklnokglbhaaGreatDoorEquivChecksP2

namespace Go.Proofs.YtbojklnokglbhaaGreatDoor.V
open Go
set_option linter.unusedVariables false
set_option maxRecDepth 100000
set_option maxHeartbeats 2000000
set_option synthInstance.maxSize 100000
set_option synthInstance.maxHeartbeats 200000
theorem zjm {a_:Cl} {cv_:Int} {r_:Bool} (h:zga a_ cv_ r_):Fn Tryz.prog 105 [(Pd.rep En.cls a_),(Pd.rep (En.int .u8) cv_)] (Rq (Pd.rep En.bool r_)):=by
 unfold zga at h;refine zbk Tryz.func105 J Tryz.ntmps105 (by rfl) (by simp) fun s0 a L=>?_;refine rA 2 L fun a s L=>?_;obtain ⟨h1,b2,h3,h⟩:=h;refine ra 10 (p1 h3) L fun a s L=>?_;subst h;exact wp_ret (zdp J L J)
theorem ref01_Of_ok {l_:(List Bool)} {r_:Cl} (h:zbx l_ r_):Fn Tryz.prog 53 [(Pd.rep (En.slice En.bool) l_)] (Rq (Pd.rep En.cls r_)):=by
 unfold zbx at h;refine zbk Tryz.func53 J Tryz.ntmps53 (by rfl) (by simp) fun s0 a L=>?_;refine rs (z8 En.cls (z:=(0#256)) 2 L zky J J J J fun a s g1 hg_ L=>?_);refine es (rs ?_);have lt_d3:=L.blt 2 rfl;refine z8 En.cls (z:=(0#256)) 3 L zky J J J J fun a s g2 hg_ L=>?_;have d3:=Dis.newg hg_ lt_d3;refine es (wp_seq_k fun K4 H4=>?_);refine rA 1 L fun a s L=>?_;refine wp_block ?_;have J6:∀(a5:Cl) (a:Act) (s:St),Has N0 32 s0 a s [(2,(Pd.box En.cls s0.w.heap.size g1 (0#256))),(3,(Pd.box En.cls s0.w.heap.size g2 a5))]→Dis (some g1) (some g2)→((zbx.j1 r_) a5)→K4 a s.w:=by
  intro a5 a s L d7 h;unfold zbx.j1 at h;show K4 a s.w;refine H4 _ _ (rs ?_);refine sA 1 L fun a s L=>?_;refine sB 2 L fun s L=>?_;refine es ?_;subst h;exact wp_ret (zqw J zfw L J)
 obtain ⟨k10,h⟩:=h;refine lpn (fun k11 a s=>∃(a8:Cl) (w9:Int),Has N0 32 s0 a s [(0,(Pd.rep (En.slice En.bool) l_)),(2,(Pd.box En.cls s0.w.heap.size g1 (0#256))),(3,(Pd.box En.cls s0.w.heap.size g2 a8)),(4,(Pi w9))]∧Dis (some g1) (some g2)∧zbx.l1 l_ (zbx.j1 r_) k11 a8 w9) k10 ⟨(0#256),0,L.kk,(Dis.symm d3),h⟩ ?_;rintro k11 a s ⟨a8,w9,L,d13,h⟩ KL12 hKL12;unfold zbx.l1 at h;refine wp_seq_k fun K14 H14=>rA 2 L fun a s L=>?_;refine cn L h (fun h=>?_) fun h=>?_
 ·refine wp_skip (H14 _ _ ?_);refine wp_seq_k fun K15 H15=>wp_block (rA 1 L fun a s L=>?_);refine rA 1 L fun a s L=>?_;refine wp_block ?_;have J17:∀(a16:Cl) (a:Act) (s:St),Has N0 32 s0 a s [(0,(Pd.rep (En.slice En.bool) l_)),(2,(Pd.box En.cls s0.w.heap.size g1 (0#256))),(3,(Pd.box En.cls s0.w.heap.size g2 a16)),(4,(Pi w9))]→Dis (some g1) (some g2)→((zbx.j2 (zbx.l1 l_ (zbx.j1 r_) k11) w9) a16)→K15 a s.w:=by
   intro a16 a s L d18 h;unfold zbx.j2 at h;show K15 a s.w;refine H15 _ _ ?_;obtain ⟨h19,h⟩:=h;refine rg (sA 3 L fun a s L=>?_);refine en' ?_;exact hKL12 a s ⟨a16,(w9+1),L.kk,d18,h⟩
  obtain ⟨k23,h⟩:=h;refine lpn (fun k24 a s=>∃(a20:Cl) (bit21:Int) (i22:Int),Has N0 32 s0 a s [(0,(Pd.rep (En.slice En.bool) l_)),(2,(Pd.box En.cls s0.w.heap.size g1 (0#256))),(3,(Pd.box En.cls s0.w.heap.size g2 a20)),(4,(Pi w9)),(5,(Pd.rep (En.int .u64) bit21)),(6,(Pi i22))]∧Dis (some g1) (some g2)∧zbx.l2 l_ w9 (zbx.j2 (zbx.l1 l_ (zbx.j1 r_) k11) w9) k24 a20 bit21 i22) k23 ⟨a8,1,0,L.kk,d13,h⟩ ?_;rintro k24 a s ⟨a20,bit21,i22,L,d26,h⟩ KL25 hKL25;unfold zbx.l2 at h;refine wp_seq_k fun K27 H27=>rA 2 L fun a s L=>?_;refine cn L h (fun h=>?_) fun h=>?_
  ·refine wp_skip (H27 _ _ ?_);refine wp_seq_k fun K28 H28=>wp_block (wp_seq_k fun K29 H29=>?_);obtain ⟨h30,h31,e32,h33,h⟩:=h;refine ra 7 (p1 h33) L fun a s L=>?_;refine cn L h (fun h=>?_) fun h=>?_
   ·obtain ⟨h34,h35,h⟩:=h;refine rg (sA 7 L fun a s L=>?_);refine zee 3 L J op op (zqp h35) Tq.h J J J ka fun s L=>?_;refine en' (H29 _ _ ?_);refine rg (sA 3 L fun a s L=>?_);refine en' (H28 _ _ ?_);obtain ⟨h36,h⟩:=h;refine rg (sA 3 L fun a s L=>?_);refine en' ?_;exact hKL25 a s ⟨(Cl.setw a20 w9 (IntKind.wrap .u64 ((Cl.w a20 w9)+bit21))),(IntKind.wrap .u64 (bit21*2)),(i22+1),L.kk,d26,h⟩
   ·refine wp_skip (H29 _ _ ?_);refine rg (sA 3 L fun a s L=>?_);refine en' (H28 _ _ ?_);obtain ⟨h37,h⟩:=h;refine rg (sA 3 L fun a s L=>?_);refine en' ?_;exact hKL25 a s ⟨a20,(IntKind.wrap .u64 (bit21*2)),(i22+1),L.kk,d26,h⟩
  ·refine wp_exit ?_;exact J17 a20 a s (L.kk) d26 h
 ·refine wp_exit ?_;exact J6 a8 a s (L.kk) d13 h
theorem zja {from_:Int} {to_:Int} {r_:Cl} (h:zc6 from_ to_ r_):Fn Tryz.prog 24 [(Pd.rep (En.int .u8) from_),(Pd.rep (En.int .u8) to_)] (Rq (Pd.rep En.cls r_)):=by
 unfold zc6 at h;refine zbk Tryz.func24 J Tryz.ntmps24 (by rfl) (by simp) fun s0 a L=>?_;refine rs (z8 En.cls (z:=(0#256)) 4 L zky J J J J fun a s g1 hg_ L=>?_);refine es (rs ?_);have lt_d3:=L.blt 4 rfl;refine st_make En.bool (z:=false) (m:=256) 7 L op op (by decide) Ud.h Tq.h tyz4 J J J J fun a s g2 hg_ L=>?_;have d3:=Dis.newg hg_ lt_d3;refine sA 1 L fun a s L=>?_;refine es (wp_seq_k fun K4 H4=>?_);refine rA 3 L fun a s L=>?_;refine wp_block ?_;have J7:∀(l5:(List Bool)) (og6:Option Nat) (a:Act) (s:St),Has N0 21 s0 a s [(4,(Pd.box En.cls s0.w.heap.size g1 (0#256))),(5,(Pd.row En.bool s0.w.heap.size 4 og6 l5))]→Dis (some g1) og6→((zc6.j1 r_) l5)→K4 a s.w:=by
  intro l5 og6 a s L d8 h;unfold zc6.j1 at h;show K4 a s.w;refine H4 _ _ (fzc 5 L fun s L=>?_);obtain ⟨r9,h10,h⟩:=h;refine rs (sl 2 (p1 (ref01_Of_ok h10)) L fun a s L=>?_);refine sB 4 L fun s L=>?_;refine es ?_;subst h;exact wp_ret (zqw J zfw L J)
 obtain ⟨k14,h⟩:=h;refine lpn (fun k15 a s=>∃(l11:(List Bool)) (i13:Int) (og12:Option Nat),Has N0 21 s0 a s [(1,(Pd.rep (En.int .u8) to_)),(4,(Pd.box En.cls s0.w.heap.size g1 (0#256))),(5,(Pd.row En.bool s0.w.heap.size 4 og12 l11)),(6,(Pi i13))]∧Dis (some g1) og12∧zc6.l1 to_ (zc6.j1 r_) k15 l11 i13) k14 ⟨(List.replicate 256 false),from_,(some g2),L.kk,(Dis.symm d3),h⟩ ?_;rintro k15 a s ⟨l11,i13,og12,L,d17,h⟩ KL16 hKL16;unfold zc6.l1 at h;refine wp_seq_k fun K18 H18=>rA 4 L fun a s L=>?_;refine cn L h (fun h=>?_) fun h=>?_
 ·refine wp_skip (H18 _ _ ?_);refine wp_seq_k fun K19 H19=>wp_block ?_;obtain ⟨e20,h21,h⟩:=h;refine rg (sl 3 (p1 h21) L fun a s L=>?_);refine st_stor (off:=0) 5 L J h21 op o_b (zk _ _ _) Tq.h J J J kw fun s L=>?_;refine en' (H19 _ _ ?_);obtain ⟨h22,h⟩:=h;refine rg (sA 3 L fun a s L=>?_);refine en' ?_;exact hKL16 a s ⟨(l11.set (i13:Int).toNat true),(i13+1),og12,L.kk,d17,h⟩
 ·refine wp_exit ?_;exact J7 l11 og12 a s (L.kk) d17 h
theorem class_Add_ok {a_:Cl} {list_:(List Int)} {r_:Cl} (h:zde a_ list_ r_):Fn Tryz.prog 135 [(Pd.rep En.cls a_),(Pd.rep (En.slice (En.int .u8)) list_)] (Rq (Pd.rep En.cls r_)):=by
 unfold zde at h;refine zbk Tryz.func135 J Tryz.ntmps135 (by rfl) (by simp) fun s0 a L=>?_;refine rs (st_boxm 2 L op J J J J fun a s g1 hg_ L=>?_);have lt_d3:=L.blt 2 rfl;refine z8 En.cls (z:=(0#256)) 4 L zky J J J J fun a s g2 hg_ L=>?_;have d3:=Dis.newg hg_ lt_d3;refine es (wp_seq_k fun K4 H4=>?_);refine rA 3 L fun a s L=>?_;refine wp_block ?_;have J6:∀(a5:Cl) (a:Act) (s:St),Has N0 24 s0 a s [(2,(Pd.box En.cls s0.w.heap.size g1 a5)),(4,(Pd.box En.cls s0.w.heap.size g2 (0#256)))]→Dis (some g1) (some g2)→((zde.j1 r_) a5)→K4 a s.w:=by
  intro a5 a s L d7 h;unfold zde.j1 at h;show K4 a s.w;refine H4 _ _ (rs ?_);refine sA 1 L fun a s L=>?_;refine sB 4 L fun s L=>?_;refine es ?_;subst h;exact wp_ret (zqw J zfw L J)
 obtain ⟨k10,h⟩:=h;refine lpn (fun k11 a s=>∃(a8:Cl) (v9:Int),Has N0 24 s0 a s [(2,(Pd.box En.cls s0.w.heap.size g1 a8)),(4,(Pd.box En.cls s0.w.heap.size g2 (0#256))),(7,(Pd.rep (En.slice (En.int .u8)) list_)),(8,(Pi (list_.length:Int))),(9,(Pi v9))]∧Dis (some g1) (some g2)∧zde.l1 list_ (zde.j1 r_) k11 a8 v9) k10 ⟨a_,0,L.kk,(Dis.symm d3),h⟩ ?_;rintro k11 a s ⟨a8,v9,L,d13,h⟩ KL12 hKL12;unfold zde.l1 at h;refine rA 1 L fun a s L=>?_;refine wp_seq_k fun K14 H14=>cn L h (fun h=>?_) fun h=>?_
 ·refine wp_skip (H14 _ _ ?_);refine wp_seq_k fun K15 H15=>wp_block ?_;obtain ⟨e16,h17,h⟩:=h;refine ra 3 (p1 h17) L fun a s L=>?_;obtain ⟨h18,h19,h⟩:=h;refine rg (sA 9 L fun a s L=>?_);refine zee 2 L J op op (zqp h19) Tq.h J J J ka fun s L=>?_;refine en' (H15 _ _ ?_);obtain ⟨h20,h⟩:=h;refine rg (sA 2 L fun a s L=>?_);refine en' ?_;exact hKL12 a s ⟨(Cl.setw a8 (e16 / 64) (orI (Cl.w a8 (e16 / 64)) (shlI 1 (e16 % 64)))),(v9+1),L.kk,d13,h⟩
 ·refine wp_exit ?_;exact J6 a8 a s (L.kk) d13 h
theorem zom {from_:Int} {to_:Int} {r_:Cl} (h:zdu from_ to_ r_):Fn Tryz.prog 106 [(Pd.rep (En.int .u8) from_),(Pd.rep (En.int .u8) to_)] (Rq (Pd.rep En.cls r_)):=by
 unfold zdu at h;refine zbk Tryz.func106 J Tryz.ntmps106 (by rfl) (by simp) fun s0 a L=>?_;refine rs (z8 En.cls (z:=(0#256)) 4 L zky J J J J fun a s g1 hg_ L=>?_);refine es (rs ?_);have lt_d3:=L.blt 4 rfl;refine z8 En.cls (z:=(0#256)) 5 L zky J J J J fun a s g2 hg_ L=>?_;have d3:=Dis.newg hg_ lt_d3;refine es (wp_seq_k fun K4 H4=>?_);refine rA 1 L fun a s L=>?_;refine wp_block ?_;have J6:∀(a5:Cl) (a:Act) (s:St),Has N0 27 s0 a s [(4,(Pd.box En.cls s0.w.heap.size g1 (0#256))),(5,(Pd.box En.cls s0.w.heap.size g2 a5))]→Dis (some g1) (some g2)→((zdu.j1 r_) a5)→K4 a s.w:=by
  intro a5 a s L d7 h;unfold zdu.j1 at h;show K4 a s.w;refine H4 _ _ (rs ?_);refine sA 1 L fun a s L=>?_;refine sB 4 L fun s L=>?_;refine es ?_;subst h;exact wp_ret (zqw J zfw L J)
 obtain ⟨k10,h⟩:=h;refine lpn (fun k11 a s=>∃(a8:Cl) (v9:Int),Has N0 27 s0 a s [(0,(Pd.rep (En.int .u8) from_)),(1,(Pd.rep (En.int .u8) to_)),(4,(Pd.box En.cls s0.w.heap.size g1 (0#256))),(5,(Pd.box En.cls s0.w.heap.size g2 a8)),(8,(Pi v9))]∧Dis (some g1) (some g2)∧zdu.l1 from_ to_ (zdu.j1 r_) k11 a8 v9) k10 ⟨(0#256),0,L.kk,(Dis.symm d3),h⟩ ?_;rintro k11 a s ⟨a8,v9,L,d13,h⟩ KL12 hKL12;unfold zdu.l1 at h;refine rA 1 L fun a s L=>?_;refine wp_seq_k fun K14 H14=>cn L h (fun h=>?_) fun h=>?_
 ·refine wp_skip (H14 _ _ ?_);refine wp_seq_k fun K15 H15=>wp_block (rA 2 L fun a s L=>?_);refine rA 3 L fun a s L=>?_;obtain ⟨b16,h17,h⟩:=h;refine ra 8 (p1 h17) L fun a s L=>?_;refine cn L h (fun h=>?_) fun h=>?_
  ·obtain ⟨r18,h19,h⟩:=h;refine rg (sl 4 (p1 (class_Add_ok h19)) L fun a s L=>?_);refine sB 5 L fun s L=>?_;refine en' (H15 _ _ ?_);obtain ⟨h20,h⟩:=h;refine rg (sA 2 L fun a s L=>?_);refine en' ?_;exact hKL12 a s ⟨r18,(v9+1),L.kk,d13,h⟩
  ·refine wp_skip (H15 _ _ ?_);obtain ⟨h21,h⟩:=h;refine rg (sA 2 L fun a s L=>?_);refine en' ?_;exact hKL12 a s ⟨a8,(v9+1),L.kk,d13,h⟩
 ·refine wp_exit ?_;exact J6 a8 a s (L.kk) d13 h
theorem zmy {a_:Cl} {r_:Cl} (h:zdd a_ r_):Fn Tryz.prog 103 [(Pd.rep En.cls a_)] (Rq (Pd.rep En.cls r_)):=by
 unfold zdd at h;refine zbk Tryz.func103 J Tryz.ntmps103 (by rfl) (by simp) fun s0 a L=>?_;refine rs (st_boxm 1 L op J J J J fun a s g1 hg_ L=>?_);have lt_d3:=L.blt 1 rfl;refine z8 En.cls (z:=(0#256)) 2 L zky J J J J fun a s g2 hg_ L=>?_;have d3:=Dis.newg hg_ lt_d3;refine es (wp_seq_k fun K4 H4=>?_);refine rA 1 L fun a s L=>?_;refine wp_block ?_;have J6:∀(a5:Cl) (a:Act) (s:St),Has N0 15 s0 a s [(1,(Pd.box En.cls s0.w.heap.size g1 a5)),(2,(Pd.box En.cls s0.w.heap.size g2 (0#256)))]→Dis (some g1) (some g2)→((zdd.j1 r_) a5)→K4 a s.w:=by
  intro a5 a s L d7 h;unfold zdd.j1 at h;show K4 a s.w;refine H4 _ _ (rs ?_);refine sA 1 L fun a s L=>?_;refine sB 2 L fun s L=>?_;refine es ?_;subst h;exact wp_ret (zqw J zfw L J)
 obtain ⟨k10,h⟩:=h;refine lpn (fun k11 a s=>∃(a8:Cl) (v9:Int),Has N0 15 s0 a s [(1,(Pd.box En.cls s0.w.heap.size g1 a8)),(2,(Pd.box En.cls s0.w.heap.size g2 (0#256))),(4,(Pi v9))]∧Dis (some g1) (some g2)∧zdd.l1 (zdd.j1 r_) k11 a8 v9) k10 ⟨a_,0,L.kk,(Dis.symm d3),h⟩ ?_;rintro k11 a s ⟨a8,v9,L,d13,h⟩ KL12 hKL12;unfold zdd.l1 at h;refine rA 1 L fun a s L=>?_;refine wp_seq_k fun K14 H14=>cn L h (fun h=>?_) fun h=>?_
 ·refine wp_skip (H14 _ _ ?_);refine wp_seq_k fun K15 H15=>wp_block (rA 2 L fun a s L=>?_);obtain ⟨h16,h17,h⟩:=h;refine rg (sA 4 L fun a s L=>?_);refine sv (t_com op J J) L fun a s L=>?_;refine sA 1 L fun a s L=>?_;refine zee 1 L J op op (zqp h17) Tq.h J J J ka fun s L=>?_;refine en' (H15 _ _ ?_);obtain ⟨h18,h⟩:=h;refine rg (sA 2 L fun a s L=>?_);refine en' ?_;exact hKL12 a s ⟨(Cl.setw a8 v9 (xorI 18446744073709551615 (Cl.w a8 v9))),(v9+1),L.kk,d13,h⟩
 ·refine wp_exit ?_;exact J6 a8 a s (L.kk) d13 h
theorem zlv {a_:Cl} {b_:Cl} {r_:Cl} (h:zcz a_ b_ r_):Fn Tryz.prog 130 [(Pd.rep En.cls a_),(Pd.rep En.cls b_)] (Rq (Pd.rep En.cls r_)):=by
 unfold zcz at h;refine zbk Tryz.func130 J Tryz.ntmps130 (by rfl) (by simp) fun s0 a L=>?_;refine rs (st_boxm 2 L op J J J J fun a s g1 hg_ L=>?_);refine sA 1 L fun a s L=>?_;have lt_d3:=L.blt 2 rfl;refine z8 En.cls (z:=(0#256)) 4 L zky J J J J fun a s g2 hg_ L=>?_;have d3:=Dis.newg hg_ lt_d3;refine es (wp_seq_k fun K4 H4=>?_);refine rA 1 L fun a s L=>?_;refine wp_block ?_;have J6:∀(a5:Cl) (a:Act) (s:St),Has N0 19 s0 a s [(2,(Pd.box En.cls s0.w.heap.size g1 a5)),(4,(Pd.box En.cls s0.w.heap.size g2 (0#256)))]→Dis (some g1) (some g2)→((zcz.j1 r_) a5)→K4 a s.w:=by
  intro a5 a s L d7 h;unfold zcz.j1 at h;show K4 a s.w;refine H4 _ _ (rs ?_);refine sA 1 L fun a s L=>?_;refine sB 4 L fun s L=>?_;refine es ?_;subst h;exact wp_ret (zqw J zfw L J)
 obtain ⟨k10,h⟩:=h;refine lpn (fun k11 a s=>∃(a8:Cl) (v9:Int),Has N0 19 s0 a s [(2,(Pd.box En.cls s0.w.heap.size g1 a8)),(3,(Pd.ptr En.cls b_)),(4,(Pd.box En.cls s0.w.heap.size g2 (0#256))),(6,(Pi v9))]∧Dis (some g1) (some g2)∧zcz.l1 b_ (zcz.j1 r_) k11 a8 v9) k10 ⟨a_,0,L.kk,(Dis.symm d3),h⟩ ?_;rintro k11 a s ⟨a8,v9,L,d13,h⟩ KL12 hKL12;unfold zcz.l1 at h;refine rA 1 L fun a s L=>?_;refine wp_seq_k fun K14 H14=>cn L h (fun h=>?_) fun h=>?_
 ·refine wp_skip (H14 _ _ ?_);refine wp_seq_k fun K15 H15=>wp_block (rA 2 L fun a s L=>?_);obtain ⟨h16,h17,h18,h⟩:=h;refine rdx 8 trivial L fun a s L=>?_;refine zee 2 L J op op (zqp h18) Tq.h J J J ka fun s L=>?_;refine en' (H15 _ _ ?_);obtain ⟨h19,h⟩:=h;refine rg (sA 2 L fun a s L=>?_);refine en' ?_;exact hKL12 a s ⟨(Cl.setw a8 v9 (andI (Cl.w a8 v9) (Cl.w b_ v9))),(v9+1),L.kk,d13,h⟩
 ·refine wp_exit ?_;exact J6 a8 a s (L.kk) d13 h
theorem zpk {a_:Cl} {r_:Int} (h:zci a_ r_):Fn Tryz.prog 131 [(Pd.rep En.cls a_)] (Rq (Pi r_)):=by
 unfold zci at h;refine zbk Tryz.func131 J Tryz.ntmps131 (by rfl) (by simp) fun s0 a L=>?_;refine rA 2 L fun a s L=>?_;refine rA 1 L fun a s L=>?_;refine wp_seq_k fun K1 H1=>rA 1 L fun a s L=>?_;refine wp_block ?_;have J3:∀(n2:Int) (a:Act) (s:St),Has N0 16 s0 a s [(3,(Pi n2))]→((zci.j1 r_) n2)→K1 a s.w:=by
  intro n2 a s L h;unfold zci.j1 at h;show K1 a s.w;refine H1 _ _ (rA 2 L fun a s L=>?_);subst h;exact wp_ret (zdp J L J)
 obtain ⟨k6,h⟩:=h;refine lpn (fun k7 a s=>∃(n4:Int) (v5:Int),Has N0 16 s0 a s [(1,(Pd.ptr En.cls a_)),(3,(Pi n4)),(5,(Pi v5))]∧zci.l1 a_ (zci.j1 r_) k7 n4 v5) k6 ⟨0,0,L.kk,h⟩ ?_;rintro k7 a s ⟨n4,v5,L,h⟩ KL8 hKL8;unfold zci.l1 at h;refine rA 1 L fun a s L=>?_;refine wp_seq_k fun K9 H9=>cn L h (fun h=>?_) fun h=>?_
 ·refine wp_skip (H9 _ _ ?_);refine wp_seq_k fun K10 H10=>wp_block (rA 2 L fun a s L=>?_);obtain ⟨r11,h12,h⟩:=h;refine ra 4 (p1 (zjm h12)) L fun a s L=>?_;refine cn L h (fun h=>?_) fun h=>?_
  ·obtain ⟨h13,h⟩:=h;refine rg (sA 3 L fun a s L=>?_);refine en' (H10 _ _ ?_);obtain ⟨h14,h⟩:=h;refine rg (sA 2 L fun a s L=>?_);refine en' ?_;exact hKL8 a s ⟨(n4+1),(v5+1),L.kk,h⟩
  ·refine wp_skip (H10 _ _ ?_);obtain ⟨h15,h⟩:=h;refine rg (sA 2 L fun a s L=>?_);refine en' ?_;exact hKL8 a s ⟨n4,(v5+1),L.kk,h⟩
 ·refine wp_exit ?_;exact J3 n4 a s (L.kk) h
theorem zkg {a_:Cl} {r_:(Int × Bool)} (h:zca a_ r_):Fn Tryz.prog 71 [(Pd.rep En.cls a_)] (Rq2 (Pd.rep (En.int .u8) r_.1) (Pd.rep En.bool r_.2)):=by
 unfold zca at h;refine zbk Tryz.func71 J Tryz.ntmps71 (by rfl) (by simp) fun s0 a L=>?_;refine rA 3 L fun a s L=>?_;refine wp_seq_k fun K1 H1=>rA 1 L fun a s L=>?_;refine wp_block ?_;have J2:∀(a:Act) (s:St),Has N0 15 s0 a s []→((zca.j1 r_))→K1 a s.w:=by
  intro a s L h;unfold zca.j1 at h;show K1 a s.w;refine H1 _ _ (rA 2 L fun a s L=>?_);subst h;exact wp_ret (ret2 J L J J)
 obtain ⟨k4,h⟩:=h;refine lpn (fun k5 a s=>∃(v3:Int),Has N0 15 s0 a s [(1,(Pd.ptr En.cls a_)),(5,(Pi v3))]∧zca.l1 a_ r_ (zca.j1 r_) k5 v3) k4 ⟨0,L.kk,h⟩ ?_;rintro k5 a s ⟨v3,L,h⟩ KL6 hKL6;unfold zca.l1 at h;refine rA 1 L fun a s L=>?_;refine wp_seq_k fun K7 H7=>cn L h (fun h=>?_) fun h=>?_
 ·refine wp_skip (H7 _ _ ?_);refine wp_seq_k fun K8 H8=>wp_block (rA 2 L fun a s L=>?_);obtain ⟨r9,h10,h⟩:=h;refine ra 4 (p1 (zjm h10)) L fun a s L=>?_;refine cn L h (fun h=>?_) fun h=>?_
  ·refine rA 4 L fun a s L=>?_;subst h;exact wp_ret (ret2 J L J J)
  ·refine wp_skip (H8 _ _ ?_);obtain ⟨h11,h⟩:=h;refine rg (sA 2 L fun a s L=>?_);refine en' ?_;exact hKL6 a s ⟨(v3+1),L.kk,h⟩
 ·refine wp_exit ?_;exact J2 a s (L.kk) h
theorem zjc {a_:Cl} {cv_:Int} {r_:Bool} (h:zc0 a_ cv_ r_):Fn Tryz.prog 77 [(Pd.rep En.cls a_),(Pd.rep (En.int .u8) cv_)] (Rq (Pd.rep En.bool r_)):=by
 unfold zc0 at h;refine zbk Tryz.func77 J Tryz.ntmps77 (by rfl) (by simp) fun s0 a L=>?_;refine rA 2 L fun a s L=>?_;obtain ⟨h1,h2,h⟩:=h;refine rA 6 L fun a s L=>?_;refine wp_seq_k fun K3 H3=>rA 1 L fun a s L=>?_;refine wp_block ?_;have J5:∀(w4:Int) (a:Act) (s:St),Has N0 24 s0 a s [(5,(Pd.rep (En.int .u64) w4))]→((zc0.j1 r_) w4)→K3 a s.w:=by
  intro w4 a s L h;unfold zc0.j1 at h;show K3 a s.w;refine H3 _ _ (rA 4 L fun a s L=>?_);subst h;exact wp_ret (zdp J L J)
 obtain ⟨k8,h⟩:=h;refine lpn (fun k9 a s=>∃(w6:Int) (i7:Int),Has N0 24 s0 a s [(1,(Pd.rep (En.int .u8) cv_)),(5,(Pd.rep (En.int .u64) w6)),(6,(Pi i7))]∧zc0.l1 cv_ (zc0.j1 r_) k9 w6 i7) k8 ⟨(Cl.w a_ (cv_ / 64)),0,L.kk,h⟩ ?_;rintro k9 a s ⟨w6,i7,L,h⟩ KL10 hKL10;unfold zc0.l1 at h;refine wp_seq_k fun K11 H11=>?_;obtain ⟨h12,h⟩:=h;refine rA 5 L fun a s L=>?_;refine cn L h (fun h=>?_) fun h=>?_
 ·refine wp_skip (H11 _ _ ?_);refine wp_seq_k fun K13 H13=>wp_block (rg ?_);refine sA 3 L fun a s L=>?_;refine en' (H13 _ _ ?_);obtain ⟨h14,h⟩:=h;refine rg (sA 3 L fun a s L=>?_);refine en' ?_;exact hKL10 a s ⟨(w6 / 2),(i7+1),L.kk,h⟩
 ·refine wp_exit ?_;exact J5 w6 a s (L.kk) h
set_option maxRecDepth 100000
set_option maxHeartbeats 2000000
set_option synthInstance.maxSize 100000
set_option synthInstance.maxHeartbeats 200000
theorem zmd {a_:Cl} {r_:Int} (h:zea a_ r_):Fn Tryz.prog 132 [(Pd.rep En.cls a_)] (Rq (Pi r_)):=by
 unfold zea at h;refine zbk Tryz.func132 J Tryz.ntmps132 (by rfl) (by simp) fun s0 a L=>?_;refine rA 2 L fun a s L=>?_;obtain ⟨r1,h2,h⟩:=h;refine ra 7 (p1 ((zkg h2).tup)) L fun a s L=>?_;refine rA 3 L fun a s L=>?_;subst h;exact wp_ret (zdp J L J)
theorem zmc {a_:Cl} {b_:Cl} {cap0_:(Cl × Int→Prop)} {r_:Int} (h:zev a_ b_ cap0_ r_):Fn Tryz.prog 134 [(Pd.rep En.cls a_),(Pd.rep En.cls b_),(Pd.ptr EnF187 cap0_)] (Rq (Pi r_)):=by
 unfold zev at h;refine zbk Tryz.func134 J Tryz.ntmps134 (by rfl) (by simp) fun s0 a L=>?_;refine rA 3 L fun a s L=>?_;obtain ⟨r1,h2,r3,h4,h5,h⟩:=h;refine wp_seq (rda zc3 7 [(Pd.rep EnF187 cap0_),(Pd.rep En.cls a_),(Pi r1),(Pd.rep EnF187 cap0_),(Pd.rep En.cls b_),(Pi r3),(Pi (r1-r3))] L (by kernel_rfl) J J ?_ ?_)
 ·refine zbe.cons (zcj ty187 (O 2 J) J J) ?_;refine zbe.cons (zcj zfw (O 3 J) J J) ?_;refine zbe.cons (zgc (q:=(a_,r1)) (O 6 J) h2 (xs:=[.tmp 7]) (.cons (O 7 J) .nil) (fun _ _ _ h_=>h_) J J) ?_;refine zbe.cons (zcj ty187 (O 2 J) J J) ?_;refine zbe.cons (zcj zfw (O 4 J) J J) ?_;refine zbe.cons (zgc (q:=(b_,r3)) (O 9 J) h4 (xs:=[.tmp 10]) (.cons (O 10 J) .nil) (fun _ _ _ h_=>h_) J J) ?_;refine zbe.cons (zma (O 8 J) (O 11 J) h5 J J) ?_;exact zbe.nil
 intro a s _ L;replace L:=L.kk (L':=[(5,(Pi 0)),(12,(Pi (r1-r3)))]);refine dp ?_;refine sA 1 L fun a s L=>?_;refine es ?_;subst h;exact wp_ret (zdp J L J)
theorem zno {parts_:(List Cl)} {a_:Cl} {r_:(List Cl)} (h:zbb parts_ a_ r_):Fn Tryz.prog 104 [(Pd.rep (En.slice En.cls) parts_),(Pd.rep En.cls a_)] (Ro En.cls 51 r_):=by
 unfold zbb at h;refine zbk Tryz.func104 J Tryz.ntmps104 (by rfl) (by simp) fun s0 a L=>?_;refine rs (sA 1 L fun a s L=>?_);refine sno En.cls 51 L fun a s L=>?_;refine es (rs ?_);refine sno En.cls 51 L fun a s L=>?_;refine es (wp_seq_k fun K1 H1=>?_);refine rA 3 L fun a s L=>?_;refine wp_block ?_;have J4:∀(out2:(List Cl)) (og3:Option Nat) (a:Act) (s:St),Has N0 43 s0 a s [(5,(Pd.row En.cls s0.w.heap.size 51 og3 out2))]→((zbb.j1 r_) out2)→K1 a s.w:=by
  intro out2 og3 a s L h;unfold zbb.j1 at h;show K1 a s.w;refine H1 _ _ (rs ?_);have lt_d6:=L.rlt 5 rfl;refine z8 EnF187 (z:=(fun _=>False)) 10 L tyz187 J J J J fun a s g5 hg_ L=>?_;have d6:=Dis.newg hg_ lt_d6;refine st_stb 10 L J (o_q (Pd.rep EnF187 (fun q_=>zea q_.1 q_.2)) (o_fun (zfh Tryz.func132 J (by rfl)) (fun q_ h_=>zmd h_))) Tq.h J J J ka fun s L=>?_;refine es (fbc 10 L fun s L=>?_);obtain ⟨r7,h8,h⟩:=h;refine rs (sA 1 L fun a s L=>?_);refine sv (t_q (Pd.rep EnF189 (fun q_=>zev q_.1 q_.2.1 (fun q_=>zea q_.1 q_.2) q_.2.2)) (zqj (cs:=[.tmp 10]) (.cons op .nil) (zfh Tryz.func134 J (by rfl)) (zj4 zmo zsb) (fun q_ h_=>zmc h_) J J)) L fun a s L=>?_;refine zkz 41 (fun v0=>zd2 v0 h8) L op opz J J J J kw fun a s L=>?_;refine es (rA 2 L fun a s L=>?_);subst h;exact wp_ret (zfj J L J)
 obtain ⟨k12,h⟩:=h;refine lpn (fun k13 a s=>∃(out9:(List Cl)) (v11:Int) (og10:Option Nat),Has N0 43 s0 a s [(3,(Pd.ptr En.cls a_)),(5,(Pd.row En.cls s0.w.heap.size 51 og10 out9)),(11,(Pd.rep (En.slice En.cls) parts_)),(12,(Pi (parts_.length:Int))),(13,(Pi v11))]∧zbb.l1 parts_ a_ (zbb.j1 r_) k13 out9 v11) k12 ⟨([]:(List Cl)),0,none,L.kk,h⟩ ?_;rintro k13 a s ⟨out9,v11,og10,L,h⟩ KL14 hKL14;unfold zbb.l1 at h;refine rA 1 L fun a s L=>?_;refine wp_seq_k fun K15 H15=>cn L h (fun h=>?_) fun h=>?_
 ·refine wp_skip (H15 _ _ ?_);refine wp_seq_k fun K16 H16=>wp_block ?_;obtain ⟨e17,h18,h⟩:=h;refine rs (sl 2 (p1 h18) L fun a s L=>?_);have lt_d20:=L.rlt 5 rfl;refine z8 En.cls (z:=(0#256)) 7 L zky J J J J fun a s g19 hg_ L=>?_;have d20:=Dis.newg hg_ lt_d20;refine sB 7 L fun s L=>?_;refine es ?_;obtain ⟨r21,h22,r23,h24,r25,h26,h⟩:=h;refine wp_seq (rdx 10 (pp (zlv h22) (pp (zmy h24) (p1 (zlv h26)))) L fun a s L=>?_);refine es (wp_block ?_);have J29:∀(out27:(List Cl)) (og28:Option Nat) (a:Act) (s:St),Has N0 43 s0 a s [(3,(Pd.ptr En.cls a_)),(5,(Pd.row En.cls s0.w.heap.size 51 og28 out27)),(11,(Pd.rep (En.slice En.cls) parts_)),(12,(Pi (parts_.length:Int))),(13,(Pi v11))]→((zbb.j2 (zbb.l1 parts_ a_ (zbb.j1 r_) k13) v11) out27)→K16 a s.w:=by
   intro out27 og28 a s L h;unfold zbb.j2 at h;show K16 a s.w;refine H16 _ _ ?_;obtain ⟨h30,h⟩:=h;refine rg (sA 2 L fun a s L=>?_);refine en' ?_;exact hKL14 a s ⟨out27,(v11+1),og28,L.kk,h⟩
  obtain ⟨k34,h⟩:=h;refine lpn (fun k35 a s=>∃(out31:(List Cl)) (v33:Int) (og32:Option Nat),Has N0 43 s0 a s [(3,(Pd.ptr En.cls a_)),(5,(Pd.row En.cls s0.w.heap.size 51 og32 out31)),(11,(Pd.rep (En.slice En.cls) parts_)),(12,(Pi (parts_.length:Int))),(13,(Pi v11)),(24,(Pd.rep (En.slice En.cls) [r21,r25])),(25,(Pi ([r21,r25].length:Int))),(26,(Pi v33))]∧zbb.l2 r21 r25 (zbb.j2 (zbb.l1 parts_ a_ (zbb.j1 r_) k13) v11) k35 out31 v33) k34 ⟨out9,0,og10,L.kk,h⟩ ?_;rintro k35 a s ⟨out31,v33,og32,L,h⟩ KL36 hKL36;unfold zbb.l2 at h;refine rA 1 L fun a s L=>?_;refine wp_seq_k fun K37 H37=>cn L h (fun h=>?_) fun h=>?_
  ·refine wp_skip (H37 _ _ ?_);refine wp_seq_k fun K38 H38=>wp_block ?_;obtain ⟨e39,h40,h⟩:=h;refine rs (sl 2 (p1 h40) L fun a s L=>?_);have lt_d42:=L.rlt 5 rfl;refine z8 En.cls (z:=(0#256)) 9 L zky J J J J fun a s g41 hg_ L=>?_;have d42:=Dis.newg hg_ lt_d42;refine sB 9 L fun s L=>?_;refine es ?_;obtain ⟨r43,h44,h⟩:=h;refine ra 3 (p1 (zpk h44)) L fun a s L=>?_;refine cn L h (fun h=>?_) fun h=>?_
   ·obtain ⟨h45,h⟩:=h;refine rg (sA 3 L fun a s L=>?_);refine zb1 36 L op op Ud.h Tq.h h45 J J J J ka fun a s og46 hg_ L=>?_;refine sA 1 L fun a s L=>?_;refine en' (H38 _ _ ?_);obtain ⟨h47,h⟩:=h;refine rg (sA 2 L fun a s L=>?_);refine en' ?_;exact hKL36 a s ⟨(out31++[e39]),(v33+1),og46,L.kk,h⟩
   ·refine wp_skip (H38 _ _ ?_);obtain ⟨h48,h⟩:=h;refine rg (sA 2 L fun a s L=>?_);refine en' ?_;exact hKL36 a s ⟨out31,(v33+1),og32,L.kk,h⟩
  ·refine wp_exit ?_;exact J29 out31 og32 a s (L.kk) h
 ·refine wp_exit ?_;exact J4 out9 og10 a s (L.kk) h
theorem zo0 {list_:(List Cl)} {r_:(List Cl)} (h:zcm list_ r_):Fn Tryz.prog 70 [(Pd.rep (En.slice En.cls) list_)] (Ro En.cls 51 r_):=by
 unfold zcm at h;refine zbk Tryz.func70 J Tryz.ntmps70 (by rfl) (by simp) fun s0 a L=>?_;refine rs (sno En.cls 51 L fun a s L=>?_);refine es ?_;obtain ⟨r1,h2,h⟩:=h;refine rs (sv (t_bcls (x:=(0#256)) Ud.h (by rfl) zky (fun _=>by kernel_rfl) J J) L fun a s L=>?_);refine sl 1 (p1 (zmy h2)) L fun a s L=>?_;refine zdy (xs:=[.tmp 7]) 8 L (.cons op .nil) Ud.h Tq.h J J (by decide) J J J J fun a s g3 hg_ L=>?_;refine sA 1 L fun a s L=>?_;refine es (wp_seq_k fun K4 H4=>?_);refine rA 3 L fun a s L=>?_;refine wp_block ?_;have J7:∀(out5:(List Cl)) (og6:Option Nat) (a:Act) (s:St),Has N0 20 s0 a s [(3,(Pd.row En.cls s0.w.heap.size 51 og6 out5))]→((zcm.j1 r_) out5)→K4 a s.w:=by
  intro out5 og6 a s L h;unfold zcm.j1 at h;show K4 a s.w;refine H4 _ _ (rA 2 L fun a s L=>?_);subst h;exact wp_ret (zfj J L J)
 obtain ⟨k11,h⟩:=h;refine lpn (fun k12 a s=>∃(out8:(List Cl)) (v10:Int) (og9:Option Nat),Has N0 20 s0 a s [(3,(Pd.row En.cls s0.w.heap.size 51 og9 out8)),(9,(Pd.rep (En.slice En.cls) list_)),(10,(Pi (list_.length:Int))),(11,(Pi v10))]∧zcm.l1 list_ (zcm.j1 r_) k12 out8 v10) k11 ⟨[r1],0,(some g3),L.kk,h⟩ ?_;rintro k12 a s ⟨out8,v10,og9,L,h⟩ KL13 hKL13;unfold zcm.l1 at h;refine rA 1 L fun a s L=>?_;refine wp_seq_k fun K14 H14=>cn L h (fun h=>?_) fun h=>?_
 ·refine wp_skip (H14 _ _ ?_);refine wp_seq_k fun K15 H15=>wp_block ?_;obtain ⟨e16,h17,h⟩:=h;refine rs (sl 2 (p1 h17) L fun a s L=>?_);have lt_d19:=L.rlt 3 rfl;refine z8 En.cls (z:=(0#256)) 5 L zky J J J J fun a s g18 hg_ L=>?_;have d19:=Dis.newg hg_ lt_d19;refine sB 5 L fun s L=>?_;refine es (fzc 3 L fun s L=>?_);obtain ⟨r20,h21,h⟩:=h;refine rg (sA 2 L fun a s L=>?_);have lt_d23:=L.blt 5 rfl;refine zen 17 L (zno h21) opz J J J J fun a s og22 hg_ L=>?_;have d23:=Dis.new hg_ lt_d23;refine sA 1 L fun a s L=>?_;refine en' (H15 _ _ ?_);obtain ⟨h24,h⟩:=h;refine rg (sA 2 L fun a s L=>?_);refine en' ?_;exact hKL13 a s ⟨r20,(v10+1),og22,L.kk,h⟩
 ·refine wp_exit ?_;exact J7 out8 og9 a s (L.kk) h
theorem zo2 {list_:(List Cl)} {r_:(List Int)} (h:zcn list_ r_):Fn Tryz.prog 41 [(Pd.rep (En.slice En.cls) list_)] (Ro (En.int .u8) 5 r_):=by
 unfold zcn at h;refine zbk Tryz.func41 J Tryz.ntmps41 (by rfl) (by simp) fun s0 a L=>?_;refine rs (sno (En.int .u8) 5 L fun a s L=>?_);refine es (rs ?_);refine sno (En.int .u8) 5 L fun a s L=>?_;refine es (wp_seq_k fun K1 H1=>?_);obtain ⟨r2,h3,h⟩:=h;refine ra 4 (p1 ((zo0 h3).frz)) L fun a s L=>?_;refine wp_block ?_;have J6:∀(out4:(List Int)) (og5:Option Nat) (a:Act) (s:St),Has N0 26 s0 a s [(3,(Pd.row (En.int .u8) s0.w.heap.size 5 og5 out4))]→((zcn.j1 r_) out4)→K1 a s.w:=by
  intro out4 og5 a s L h;unfold zcn.j1 at h;show K1 a s.w;refine H1 _ _ (rA 2 L fun a s L=>?_);subst h;exact wp_ret (zfj J L J)
 obtain ⟨k10,h⟩:=h;refine lpn (fun k11 a s=>∃(out7:(List Int)) (v9:Int) (og8:Option Nat),Has N0 26 s0 a s [(3,(Pd.row (En.int .u8) s0.w.heap.size 5 og8 out7)),(9,(Pd.rep (En.slice En.cls) r2)),(10,(Pi (r2.length:Int))),(11,(Pi v9))]∧zcn.l1 r2 (zcn.j1 r_) k11 out7 v9) k10 ⟨([]:(List Int)),0,none,L.kk,h⟩ ?_;rintro k11 a s ⟨out7,v9,og8,L,h⟩ KL12 hKL12;unfold zcn.l1 at h;refine rA 1 L fun a s L=>?_;refine wp_seq_k fun K13 H13=>cn L h (fun h=>?_) fun h=>?_
 ·refine wp_skip (H13 _ _ ?_);refine wp_seq_k fun K14 H14=>wp_block ?_;obtain ⟨e15,h16,h⟩:=h;refine rs (sl 2 (p1 h16) L fun a s L=>?_);have lt_d18:=L.rlt 3 rfl;refine z8 En.cls (z:=(0#256)) 5 L zky J J J J fun a s g17 hg_ L=>?_;have d18:=Dis.newg hg_ lt_d18;refine sB 5 L fun s L=>?_;refine es ?_;obtain ⟨r19,h20,h⟩:=h;refine ra 7 (p1 ((zkg h20).tup)) L fun a s L=>?_;obtain ⟨h21,h⟩:=h;refine rg (sA 3 L fun a s L=>?_);refine zb1 23 L op op Ud.h Tq.h h21 J J J J ka fun a s og22 hg_ L=>?_;refine sA 1 L fun a s L=>?_;refine en' (H14 _ _ ?_);obtain ⟨h23,h⟩:=h;refine rg (sA 2 L fun a s L=>?_);refine en' ?_;exact hKL12 a s ⟨(out7++[r19.1]),(v9+1),og22,L.kk,h⟩
 ·refine wp_exit ?_;exact J6 out7 og8 a s (L.kk) h
theorem zex {a_:(List Int)} {b_:(List Int)} {r_:Bool} (h:zbz a_ b_ r_):Fn Tryz.prog 15 [(Pd.rep (En.slice (En.int .u8)) a_),(Pd.rep (En.slice (En.int .u8)) b_)] (Rq (Pd.rep En.bool r_)):=by
 unfold zbz at h;refine zbk Tryz.func15 J Tryz.ntmps15 (by rfl) (by simp) fun s0 a L=>?_;refine rA 1 L fun a s L=>?_;refine wp_seq_k fun K1 H1=>rA 5 L fun a s L=>?_;refine cn L h (fun h=>?_) fun h=>?_
 ·refine rA 1 L fun a s L=>?_;subst h;exact wp_ret (zdp J L J)
 ·refine wp_skip (H1 _ _ ?_);refine wp_seq_k fun K2 H2=>rA 1 L fun a s L=>?_;refine wp_block ?_;have J3:∀(a:Act) (s:St),Has N0 26 s0 a s []→((zbz.j1 r_))→K2 a s.w:=by
   intro a s L h;unfold zbz.j1 at h;show K2 a s.w;refine H2 _ _ (rA 1 L fun a s L=>?_);subst h;exact wp_ret (zdp J L J)
  obtain ⟨k5,h⟩:=h;refine lpn (fun k6 a s=>∃(i4:Int),Has N0 26 s0 a s [(0,(Pd.rep (En.slice (En.int .u8)) a_)),(1,(Pd.rep (En.slice (En.int .u8)) b_)),(5,(Pi i4))]∧zbz.l1 a_ b_ r_ (zbz.j1 r_) k6 i4) k5 ⟨0,L.kk,h⟩ ?_;rintro k6 a s ⟨i4,L,h⟩ KL7 hKL7;unfold zbz.l1 at h;refine wp_seq_k fun K8 H8=>rA 4 L fun a s L=>?_;refine cn L h (fun h=>?_) fun h=>?_
  ·refine wp_skip (H8 _ _ ?_);refine wp_seq_k fun K9 H9=>wp_block ?_;obtain ⟨e10,h11,e12,h13,h⟩:=h;refine wp_seq (rdx 9 (pp h11 (p1 h13)) L fun a s L=>?_);refine es (cn L h (fun h=>?_) fun h=>?_)
   ·refine rA 1 L fun a s L=>?_;subst h;exact wp_ret (zdp J L J)
   ·refine wp_skip (H9 _ _ ?_);obtain ⟨h14,h⟩:=h;refine rg (sA 3 L fun a s L=>?_);refine en' ?_;exact hKL7 a s ⟨(i4+1),L.kk,h⟩
  ·refine wp_exit ?_;exact J3 a s (L.kk) h
theorem zrg {list_:(List Cl)} {cv_:Int} {d_:Int} {r_:Bool} (h:zc2 list_ cv_ d_ r_):Fn Tryz.prog 75 [(Pd.rep (En.slice En.cls) list_),(Pd.rep (En.int .u8) cv_),(Pd.rep (En.int .u8) d_)] (Rq (Pd.rep En.bool r_)):=by
 unfold zc2 at h;refine zbk Tryz.func75 J Tryz.ntmps75 (by rfl) (by simp) fun s0 a L=>?_;refine rA 1 L fun a s L=>?_;refine wp_seq_k fun K1 H1=>rA 1 L fun a s L=>?_;refine wp_block ?_;have J2:∀(a:Act) (s:St),Has N0 27 s0 a s []→((zc2.j1 r_))→K1 a s.w:=by
  intro a s L h;unfold zc2.j1 at h;show K1 a s.w;refine H1 _ _ (rA 1 L fun a s L=>?_);subst h;exact wp_ret (zdp J L J)
 obtain ⟨k4,h⟩:=h;refine lpn (fun k5 a s=>∃(i3:Int),Has N0 27 s0 a s [(0,(Pd.rep (En.slice En.cls) list_)),(1,(Pd.rep (En.int .u8) cv_)),(2,(Pd.rep (En.int .u8) d_)),(7,(Pi i3))]∧zc2.l1 list_ cv_ d_ r_ (zc2.j1 r_) k5 i3) k4 ⟨0,L.kk,h⟩ ?_;rintro k5 a s ⟨i3,L,h⟩ KL6 hKL6;unfold zc2.l1 at h;refine wp_seq_k fun K7 H7=>rA 4 L fun a s L=>?_;refine cn L h (fun h=>?_) fun h=>?_
 ·refine wp_skip (H7 _ _ ?_);refine wp_seq_k fun K8 H8=>wp_block ?_;obtain ⟨e9,h10,r11,h12,e13,h14,r15,h16,h⟩:=h;refine wp_seq (rdx 13 (pp h10 (pp (zjc h12) (pp h14 (p1 (zjc h16))))) L fun a s L=>?_);refine es (cn L h (fun h=>?_) fun h=>?_)
  ·refine rA 1 L fun a s L=>?_;subst h;exact wp_ret (zdp J L J)
  ·refine wp_skip (H8 _ _ ?_);obtain ⟨h17,h⟩:=h;refine rg (sA 3 L fun a s L=>?_);refine en' ?_;exact hKL6 a s ⟨(i3+1),L.kk,h⟩
 ·refine wp_exit ?_;exact J2 a s (L.kk) h
theorem zpf {list_:(List Cl)} {r_:(List Int)} (h:zbc list_ r_):Fn Tryz.prog 46 [(Pd.rep (En.slice En.cls) list_)] (Ro (En.int .u8) 5 r_):=by
 unfold zbc at h;refine zbk Tryz.func46 J Tryz.ntmps46 (by rfl) (by simp) fun s0 a L=>?_;refine rs (sno (En.int .u8) 5 L fun a s L=>?_);refine es (rs ?_);refine sno (En.int .u8) 5 L fun a s L=>?_;refine es (wp_seq_k fun K1 H1=>?_);refine rA 1 L fun a s L=>?_;refine wp_block ?_;have J4:∀(out2:(List Int)) (og3:Option Nat) (a:Act) (s:St),Has N0 36 s0 a s [(3,(Pd.row (En.int .u8) s0.w.heap.size 5 og3 out2))]→((zbc.j1 r_) out2)→K1 a s.w:=by
  intro out2 og3 a s L h;unfold zbc.j1 at h;show K1 a s.w;refine H1 _ _ (rA 2 L fun a s L=>?_);subst h;exact wp_ret (zfj J L J)
 obtain ⟨k8,h⟩:=h;refine lpn (fun k9 a s=>∃(out5:(List Int)) (c7:Int) (og6:Option Nat),Has N0 36 s0 a s [(0,(Pd.rep (En.slice En.cls) list_)),(3,(Pd.row (En.int .u8) s0.w.heap.size 5 og6 out5)),(4,(Pi c7))]∧zbc.l1 list_ (zbc.j1 r_) k9 out5 c7) k8 ⟨([]:(List Int)),0,none,L.kk,h⟩ ?_;rintro k9 a s ⟨out5,c7,og6,L,h⟩ KL10 hKL10;unfold zbc.l1 at h;refine wp_seq_k fun K11 H11=>rA 2 L fun a s L=>?_;refine cn L h (fun h=>?_) fun h=>?_
 ·refine wp_skip (H11 _ _ ?_);refine wp_seq_k fun K12 H12=>wp_block (rA 1 L fun a s L=>?_);refine wp_seq_k fun K13 H13=>rA 1 L fun a s L=>?_;refine wp_block ?_;have J15:∀(alone14:Bool) (a:Act) (s:St),Has N0 36 s0 a s [(0,(Pd.rep (En.slice En.cls) list_)),(3,(Pd.row (En.int .u8) s0.w.heap.size 5 og6 out5)),(4,(Pi c7)),(5,(Pd.rep En.bool alone14))]→((zbc.j2 (zbc.l1 list_ (zbc.j1 r_) k9) out5 c7) alone14)→K13 a s.w:=by
   intro alone14 a s L h;unfold zbc.j2 at h;show K13 a s.w;refine H13 _ _ (rA 1 L fun a s L=>?_);refine cn L h (fun h=>?_) fun h=>?_
   ·obtain ⟨h16,h⟩:=h;refine rg (sA 4 L fun a s L=>?_);refine zb1 34 L op op Ud.h Tq.h h16 J J J J ka fun a s og17 hg_ L=>?_;refine sA 1 L fun a s L=>?_;refine en' (H12 _ _ ?_);obtain ⟨h18,h⟩:=h;refine rg (sA 3 L fun a s L=>?_);refine en' ?_;exact hKL10 a s ⟨(out5++[c7 % 256]),(c7+1),og17,L.kk,h⟩
   ·refine wp_skip (H12 _ _ ?_);obtain ⟨h19,h⟩:=h;refine rg (sA 3 L fun a s L=>?_);refine en' ?_;exact hKL10 a s ⟨out5,(c7+1),og6,L.kk,h⟩
  obtain ⟨k22,h⟩:=h;refine lpn (fun k23 a s=>∃(alone20:Bool) (i21:Int),Has N0 36 s0 a s [(0,(Pd.rep (En.slice En.cls) list_)),(3,(Pd.row (En.int .u8) s0.w.heap.size 5 og6 out5)),(4,(Pi c7)),(5,(Pd.rep En.bool alone20)),(6,(Pi i21))]∧zbc.l2 list_ out5 c7 (zbc.j2 (zbc.l1 list_ (zbc.j1 r_) k9) out5 c7) k23 alone20 i21) k22 ⟨true,0,L.kk,h⟩ ?_;rintro k23 a s ⟨alone20,i21,L,h⟩ KL24 hKL24;unfold zbc.l2 at h;refine wp_seq_k fun K25 H25=>rA 7 L fun a s L=>?_;refine cn L h (fun h=>?_) fun h=>?_
  ·refine wp_skip (H25 _ _ ?_);refine wp_seq_k fun K26 H26=>wp_block ?_;obtain ⟨e27,h28,r29,h30,h⟩:=h;refine rg (sl 10 (pp h28 (p1 (zrg h30))) L fun a s L=>?_);refine en' (H26 _ _ ?_);obtain ⟨h31,h⟩:=h;refine rg (sA 3 L fun a s L=>?_);refine en' ?_;exact hKL24 a s ⟨(!r29),(i21+1),L.kk,h⟩
  ·refine wp_exit ?_;exact J15 alone20 a s (L.kk) h
 ·refine wp_exit ?_;exact J4 out5 og6 a s (L.kk) h
set_option maxRecDepth 100000
set_option maxHeartbeats 2000000
set_option synthInstance.maxSize 100000
set_option synthInstance.maxHeartbeats 200000
theorem ze1 {s_:Str} {i_:Int} {from_:Int} {to_:Int} {r_:Bool} (h:zfz s_ i_ from_ to_ r_):Fn Tryz.prog 160 [(Pd.rep En.str s_),(Pi i_),(Pi from_),(Pi to_)] (Rq (Pd.rep En.bool r_)):=by
 unfold zfz at h;refine zbk Tryz.func160 J Tryz.ntmps160 (by rfl) (by simp) fun s0 a L=>?_;refine rA 1 L fun a s L=>?_;obtain ⟨c1,h2,b3,h4,c5,h6,h⟩:=h;refine ra 21 (pp h2 (pp h4 (p1 h6))) L fun a s L=>?_;subst h;exact wp_ret (zdp J L J)
theorem zrf {s_:Str} {r_:Bool} (h:zbq s_ r_):Fn Tryz.prog 136 [(Pd.rep En.str s_)] (Rq (Pd.rep En.bool r_)):=by
 unfold zbq at h;refine zbk Tryz.func136 J Tryz.ntmps136 (by rfl) (by simp) fun s0 a L=>?_;refine rA 1 L fun a s L=>?_;refine rA 1 L fun a s L=>?_;refine wp_seq_k fun K1 H1=>wp_block ?_;have J2:∀(a:Act) (s:St),Has N0 148 s0 a s []→((zbq.j1 r_))→K1 a s.w:=by
  intro a s L h;unfold zbq.j1 at h;show K1 a s.w;refine H1 _ _ (rA 1 L fun a s L=>?_);subst h;exact wp_ret (zdp J L J)
 obtain ⟨k4,h⟩:=h;refine lpn (fun k5 a s=>∃(i3:Int),Has N0 148 s0 a s [(0,(Pd.rep En.str s_)),(3,(Pi i3))]∧zbq.l1 s_ r_ (zbq.j1 r_) k5 i3) k4 ⟨0,L.kk,h⟩ ?_;rintro k5 a s ⟨i3,L,h⟩ KL6 hKL6;unfold zbq.l1 at h;refine wp_seq_k fun K7 H7=>rA 4 L fun a s L=>?_;refine cn L h (fun h=>?_) fun h=>?_
 ·refine wp_skip (H7 _ _ ?_);refine wp_block ?_;obtain ⟨c8,h9,h⟩:=h;refine ra 5 (p1 h9) L fun a s L=>?_;obtain ⟨h10,r11,h12,h⟩:=h;refine ra 5 (p1 (ze1 h12)) L fun a s L=>?_;obtain ⟨h13,r14,h15,h⟩:=h;refine ra 5 (p1 (ze1 h15)) L fun a s L=>?_;obtain ⟨h16,r17,h18,h⟩:=h;refine ra 5 (p1 (ze1 h18)) L fun a s L=>?_;refine wp_block (rA 3 L fun a s L=>?_);refine cn L h (fun h=>?_) fun h=>?_
  ·obtain ⟨h19,h⟩:=h;refine rg (sA 3 L fun a s L=>?_);refine en' ?_;exact hKL6 a s ⟨(i3+1),L.kk,h⟩
  ·obtain ⟨b20,h21,h⟩:=h;refine ra 10 (p1 h21) L fun a s L=>?_;refine cn L h (fun h=>?_) fun h=>?_
   ·obtain ⟨h22,h⟩:=h;refine rg (sA 3 L fun a s L=>?_);refine en' ?_;exact hKL6 a s ⟨(i3+2),L.kk,h⟩
   ·obtain ⟨h23,r24,h25,h⟩:=h;refine ra 12 (pp (fun hc_=>(ze1 (h25 hc_))) trivial) L fun a s L=>?_;refine cn L h (fun h=>?_) fun h=>?_
    ·obtain ⟨h26,h⟩:=h;refine rg (sA 3 L fun a s L=>?_);refine en' ?_;exact hKL6 a s ⟨(i3+3),L.kk,h⟩
    ·obtain ⟨b27,h28,h⟩:=h;refine ra 21 (p1 h28) L fun a s L=>?_;refine cn L h (fun h=>?_) fun h=>?_
     ·obtain ⟨h29,h⟩:=h;refine rg (sA 3 L fun a s L=>?_);refine en' ?_;exact hKL6 a s ⟨(i3+3),L.kk,h⟩
     ·obtain ⟨h30,r31,h32,h⟩:=h;refine ra 12 (pp (fun hc_=>(ze1 (h32 hc_))) trivial) L fun a s L=>?_;refine cn L h (fun h=>?_) fun h=>?_
      ·obtain ⟨h33,h⟩:=h;refine rg (sA 3 L fun a s L=>?_);refine en' ?_;exact hKL6 a s ⟨(i3+3),L.kk,h⟩
      ·obtain ⟨h34,r35,h36,h⟩:=h;refine ra 15 (pp (fun hc_=>(ze1 (h36 hc_))) trivial) L fun a s L=>?_;refine cn L h (fun h=>?_) fun h=>?_
       ·obtain ⟨h37,h⟩:=h;refine rg (sA 3 L fun a s L=>?_);refine en' ?_;exact hKL6 a s ⟨(i3+4),L.kk,h⟩
       ·obtain ⟨b38,h39,h⟩:=h;refine ra 16 (p1 h39) L fun a s L=>?_;refine cn L h (fun h=>?_) fun h=>?_
        ·obtain ⟨h40,h⟩:=h;refine rg (sA 3 L fun a s L=>?_);refine en' ?_;exact hKL6 a s ⟨(i3+4),L.kk,h⟩
        ·obtain ⟨h41,r42,h43,h⟩:=h;refine ra 15 (pp (fun hc_=>(ze1 (h43 hc_))) trivial) L fun a s L=>?_;refine cn L h (fun h=>?_) fun h=>?_
         ·obtain ⟨h44,h⟩:=h;refine rg (sA 3 L fun a s L=>?_);refine en' ?_;exact hKL6 a s ⟨(i3+4),L.kk,h⟩
         ·refine rA 1 L fun a s L=>?_;subst h;exact wp_ret (zdp J L J)
 ·refine wp_exit ?_;exact J2 a s (L.kk) h
set_option maxRecDepth 100000
set_option maxHeartbeats 2000000
set_option synthInstance.maxSize 100000
set_option synthInstance.maxHeartbeats 200000
theorem zhh {l_:(List SNode)} {by_:Int} {r_:(List SNode)} (h:zba l_ by_ r_):Fn Tryz.prog 48 [(Pd.rep (En.slice En.SNode) l_),(Pi by_)] (Ro En.SNode 54 r_):=by
 unfold zba at h;refine zbk Tryz.func48 J Tryz.ntmps48 (by rfl) (by simp) fun s0 a L=>?_;refine rs (sno En.SNode 54 L fun a s L=>?_);refine es (rs ?_);refine sno En.SNode 54 L fun a s L=>?_;refine es (wp_seq_k fun K1 H1=>?_);refine rA 1 L fun a s L=>?_;refine wp_block ?_;have J4:∀(out2:(List SNode)) (og3:Option Nat) (a:Act) (s:St),Has N0 44 s0 a s [(5,(Pd.row En.SNode s0.w.heap.size 54 og3 out2))]→((zba.j1 r_) out2)→K1 a s.w:=by
  intro out2 og3 a s L h;unfold zba.j1 at h;show K1 a s.w;refine H1 _ _ (rA 2 L fun a s L=>?_);subst h;exact wp_ret (zfj J L J)
 obtain ⟨k8,h⟩:=h;refine lpn (fun k9 a s=>∃(out5:(List SNode)) (i7:Int) (og6:Option Nat),Has N0 44 s0 a s [(0,(Pd.rep (En.slice En.SNode) l_)),(1,(Pi by_)),(5,(Pd.row En.SNode s0.w.heap.size 54 og6 out5)),(6,(Pi i7))]∧zba.l1 l_ by_ (zba.j1 r_) k9 out5 i7) k8 ⟨([]:(List SNode)),0,none,L.kk,h⟩ ?_;rintro k9 a s ⟨out5,i7,og6,L,h⟩ KL10 hKL10;unfold zba.l1 at h;refine wp_seq_k fun K11 H11=>rA 4 L fun a s L=>?_;refine cn L h (fun h=>?_) fun h=>?_
 ·refine wp_skip (H11 _ _ ?_);refine wp_seq_k fun K12 H12=>wp_block ?_;obtain ⟨e13,h14,h⟩:=h;refine rs (sl 4 (p1 h14) L fun a s L=>?_);have lt_d16:=L.rlt 5 rfl;refine z8 En.SNode (z:=(0,0,0,0,0,(0#256),([]:Str))) 7 L zkx J J J J fun a s g15 hg_ L=>?_;have d16:=Dis.newg hg_ lt_d16;refine sB 7 L fun s L=>?_;refine es (wp_seq_k fun K17 H17=>?_);refine rA 3 L fun a s L=>?_;have J19:∀(n18:SNode) (a:Act) (s:St),Has N0 44 s0 a s [(0,(Pd.rep (En.slice En.SNode) l_)),(1,(Pi by_)),(5,(Pd.row En.SNode s0.w.heap.size 54 og6 out5)),(6,(Pi i7)),(7,(Pd.box En.SNode s0.w.heap.size g15 n18))]→Dis og6 (some g15)→((zba.j3 (zba.l1 l_ by_ (zba.j1 r_) k9) by_ out5 i7) n18)→K17 a s.w:=by
   intro n18 a s L d20 h;unfold zba.j3 at h;show K17 a s.w;refine H17 _ _ (wp_seq_k fun K21 H21=>?_);refine rA 8 L fun a s L=>?_;have J23:∀(n22:SNode) (a:Act) (s:St),Has N0 44 s0 a s [(0,(Pd.rep (En.slice En.SNode) l_)),(1,(Pi by_)),(5,(Pd.row En.SNode s0.w.heap.size 54 og6 out5)),(6,(Pi i7)),(7,(Pd.box En.SNode s0.w.heap.size g15 n22))]→Dis og6 (some g15)→((zba.j2 (zba.l1 l_ by_ (zba.j1 r_) k9) out5 i7) n22)→K21 a s.w:=by
    intro n22 a s L d24 h;unfold zba.j2 at h;show K21 a s.w;refine H21 _ _ ?_;obtain ⟨h25,h⟩:=h;refine rg (sA 3 L fun a s L=>?_);refine zb1 42 L op op Ud.h Tq.h h25 J J J J ka fun a s og26 hg_ L=>?_;refine sA 1 L fun a s L=>?_;refine en' (H12 _ _ ?_);obtain ⟨h27,h⟩:=h;refine rg (sA 3 L fun a s L=>?_);refine en' ?_;exact hKL10 a s ⟨(out5++[n22]),(i7+1),og26,L.kk,h⟩
   refine cn L h (fun h=>?_) fun h=>?_
   ·obtain ⟨h28,h⟩:=h;refine rg (sA 5 L fun a s L=>?_);refine zee 7 L J op op (zi (zi (zu (zk _ _ _)) J) J) Tq.h J J J ka fun s L=>?_;refine en' ?_;exact J23 (n18.1,n18.2.1,n18.2.2.1+by_,n18.2.2.2.1,n18.2.2.2.2.1,n18.2.2.2.2.2.1,n18.2.2.2.2.2.2) a s (L.kk) d20 h
   ·refine wp_skip ?_;exact J23 n18 a s (L.kk) d20 h
  refine cn L h (fun h=>?_) fun h=>?_
  ·obtain ⟨h29,h⟩:=h;refine rg (sA 5 L fun a s L=>?_);refine zee 7 L J op op (zi (zu (zk _ _ _)) J) Tq.h J J J ka fun s L=>?_;refine en' ?_;exact J19 (e13.1,e13.2.1+by_,e13.2.2.1,e13.2.2.2.1,e13.2.2.2.2.1,e13.2.2.2.2.2.1,e13.2.2.2.2.2.2) a s (L.kk) (Dis.symm d16) h
  ·refine wp_skip ?_;exact J19 e13 a s (L.kk) (Dis.symm d16) h
 ·refine wp_exit ?_;exact J4 out5 og6 a s (L.kk) h
theorem zrd {kind_:Int} {a_:SDesc} {b_:SDesc} {r_:SDesc} (h:zjw kind_ a_ b_ r_):Fn Tryz.prog 18 [(Pi kind_),(Pd.rep En.SDesc a_),(Pd.rep En.SDesc b_)] (Rq (Pd.rep En.SDesc r_)):=by
 unfold zjw at h;refine zbk Tryz.func18 J Tryz.ntmps18 (by rfl) (by simp) fun s0 a L=>?_;refine rs (sA 2 L fun a s L=>?_);refine z8 En.SDesc (z:=[]) 6 L zqi J J J J fun a s g1 hg_ L=>?_;refine es ?_;obtain ⟨r4,h5,r6,h7,h10,h⟩:=h;refine wp_seq ?_;obtain ⟨K2,H2,nK2,L⟩:=L.mark 999983;have lt3:∀k,(some g1)=some k→k<K2:=by rw [H2];exact L.blt 6 rfl
 refine rda zc3 9 [(Pd.ptr (En.slice En.SNode) a_),(Pd.rep (En.slice En.SNode) a_),(Pd.erow En.SNode s0.w.heap.size K2 54 r4),(Pd.ptr (En.slice En.SNode) b_),(Pd.rep (En.slice En.SNode) b_),(Pd.ptr (En.slice En.SNode) a_),(Pd.rep (En.slice En.SNode) a_),(Pi (a_.length:Int)),(Pd.rep (En.slice En.SNode) r6)] L (by kernel_rfl) J J ?_ ?_
 ·refine zbe.cons (zl4 (off:=0) (O 4 J) U24 J (zih (z7 _ _)) J ty22 J J) ?_;refine zbe.cons (zcj ty22 (O 8 J) J J) ?_;refine zbe.cons (zqn (K:=K2) (m:=999983) J nK2 (zhh h5) (xs:=[.tmp 9,.const (.int .i64 0)]) (.cons (O 9 J) (.cons oI .nil)) J J) ?_;refine zbe.cons (zl4 (off:=0) (O 5 J) U24 J (zih (z7 _ _)) J ty22 J J) ?_;refine zbe.cons (zcj ty22 (O 11 J) J J) ?_;refine zbe.cons (zl4 (off:=0) (O 4 J) U24 J (zih (z7 _ _)) J ty22 J J) ?_;refine zbe.cons (zcj ty22 (O 13 J) J J) ?_;refine zbe.cons (t_len (O 14 J) U22 J J) ?_;refine zbe.cons (ze3 ((zhh h7).frz) (xs:=[.tmp 12,.tmp 15]) (.cons (O 12 J) (.cons (O 15 J) .nil)) J J) ?_;exact zbe.nil
 intro a s _ L;obtain ⟨og8,hg_,L⟩:=L.openr 10 rfl;have d9:=Dis.new hg_ lt3;replace L:=L.kk (L':=[(0,(Pi kind_)),(4,(Pd.ptr En.SDesc a_)),(5,(Pd.ptr En.SDesc b_)),(6,(Pd.box En.SDesc s0.w.heap.size g1 [])),(10,(Pd.row En.SNode s0.w.heap.size 54 og8 r4)),(16,(Pd.rep (En.slice En.SNode) r6))]);refine dp ?_;have lt_og11_0:=L.blt 6 rfl;refine zb1 17 L op op Ud.h Tq.h h10 J J J J ka fun a s og11 hg_ L=>?_;have d12:=Dis.app hg_ d9 lt_og11_0;refine sA 1 L fun a s L=>?_;refine es ?_;obtain ⟨h13,h14,h15,h16,h⟩:=h;refine rs (sA 14 L fun a s L=>?_);refine sv (zbj (x:=(kind_,(a_.length:Int)-1,((a_.length:Int)+(b_.length:Int))-1,0,0,(0#256),([]:Str))) (ps:=[(0,.tmp 19),(1,.tmp 23),(2,.tmp 31)]) zkx J stt54 (.cons (i:=0) op J (zu (zk _ _ _)) (.cons (i:=1) op J (zi (zu (zk _ _ _)) J) (.cons (i:=2) op J (zi (zi (zu (zk _ _ _)) J) J) .nil))) J J) L fun a s L=>?_;refine sA 1 L fun a s L=>?_;have lt_og17_0:=L.blt 6 rfl;refine zb1 34 L op op Ud.h Tq.h h16 J J J J ka fun a s og17 hg_ L=>?_;have d18:=Dis.app hg_ d12 lt_og17_0;refine fzl 34 L fun s L=>?_;refine sv (zbj (x:=(r4++r6)++[(kind_,(a_.length:Int)-1,((a_.length:Int)+(b_.length:Int))-1,0,0,(0#256),([]:Str))]) (ps:=[(0,.tmp 34)]) zqi J stt24 (.cons (i:=0) op J (zqo (zk _ _ _)) .nil) J J) L fun a s L=>?_;refine sB 6 L fun s L=>?_;refine es ?_;subst h;exact wp_ret (zqw J ty24 L J)
theorem zle {kind_:Int} {lo_:Int} {hi_:Int} {a_:SDesc} {r_:SDesc} (h:zhz kind_ lo_ hi_ a_ r_):Fn Tryz.prog 25 [(Pi kind_),(Pi lo_),(Pi hi_),(Pd.rep En.SDesc a_)] (Rq (Pd.rep En.SDesc r_)):=by
 unfold zhz at h;refine zbk Tryz.func25 J Tryz.ntmps25 (by rfl) (by simp) fun s0 a L=>?_;refine rs (sA 1 L fun a s L=>?_);refine z8 En.SDesc (z:=[]) 8 L zqi J J J J fun a s g1 hg_ L=>?_;refine es ?_;obtain ⟨r4,h5,h6,h9,h⟩:=h;refine wp_seq ?_;obtain ⟨K2,H2,nK2,L⟩:=L.mark 999983;have lt3:∀k,(some g1)=some k→k<K2:=by rw [H2];exact L.blt 8 rfl
 refine rda zc3 12 [(Pd.ptr (En.slice En.SNode) a_),(Pd.rep (En.slice En.SNode) a_),(Pd.erow En.SNode s0.w.heap.size K2 54 r4),(Pi kind_),(Pd.ptr (En.slice En.SNode) a_),(Pd.rep (En.slice En.SNode) a_),(Pi (a_.length:Int)),(Pi ((a_.length:Int)-1)),(Pi lo_),(Pi hi_),(Pd.rep En.SNode (kind_,(a_.length:Int)-1,0,lo_,hi_,(0#256),([]:Str))),(Pd.rep (En.slice En.SNode) [(kind_,(a_.length:Int)-1,0,lo_,hi_,(0#256),([]:Str))])] L (by kernel_rfl) J J ?_ ?_
 ·refine zbe.cons (zl4 (off:=0) (O 7 J) U24 J (zih (z7 _ _)) J ty22 J J) ?_;refine zbe.cons (zcj ty22 (O 9 J) J J) ?_;refine zbe.cons (zqn (K:=K2) (m:=999983) J nK2 (zhh h5) (xs:=[.tmp 10,.const (.int .i64 0)]) (.cons (O 10 J) (.cons oI .nil)) J J) ?_;refine zbe.cons (zq (O 0 J) J J) ?_;refine zbe.cons (zl4 (off:=0) (O 7 J) U24 J (zih (z7 _ _)) J ty22 J J) ?_;refine zbe.cons (zcj ty22 (O 13 J) J J) ?_;refine zbe.cons (t_len (O 14 J) U22 J J) ?_;refine zbe.cons (zma (O 15 J) oI h6 J J) ?_;refine zbe.cons (zq (O 1 J) J J) ?_;refine zbe.cons (zq (O 2 J) J J) ?_;refine zbe.cons (zbj (x:=(kind_,(a_.length:Int)-1,0,lo_,hi_,(0#256),([]:Str))) (ps:=[(0,.tmp 12),(1,.tmp 16),(3,.tmp 17),(4,.tmp 18)]) zkx J stt54 (.cons (i:=0) (O 12 J) J (zu (zk _ _ _)) (.cons (i:=1) (O 16 J) J (zi (zu (zk _ _ _)) J) (.cons (i:=3) (O 17 J) J (zi (zi (zi (zu (zk _ _ _)) J) J) J) (.cons (i:=4) (O 18 J) J (zi (zi (zi (zi (zu (zk _ _ _)) J) J) J) J) .nil)))) J J) ?_;refine zbe.cons (t_lit (xs:=[.tmp 19]) (.cons (O 19 J) .nil) U22 ty54 J J (by decide) J J) ?_;exact zbe.nil
 intro a s _ L;obtain ⟨og7,hg_,L⟩:=L.openr 11 rfl;have d8:=Dis.new hg_ lt3;replace L:=L.kk (L':=[(8,(Pd.box En.SDesc s0.w.heap.size g1 [])),(11,(Pd.row En.SNode s0.w.heap.size 54 og7 r4)),(20,(Pd.rep (En.slice En.SNode) [(kind_,(a_.length:Int)-1,0,lo_,hi_,(0#256),([]:Str))]))]);refine dp ?_;have lt_og10_0:=L.blt 8 rfl;refine zb1 21 L op op Ud.h Tq.h h9 J J J J ka fun a s og10 hg_ L=>?_;have d11:=Dis.app hg_ d8 lt_og10_0;refine fzl 21 L fun s L=>?_;refine sv (zbj (x:=r4++[(kind_,(a_.length:Int)-1,0,lo_,hi_,(0#256),([]:Str))]) (ps:=[(0,.tmp 21)]) zqi J stt24 (.cons (i:=0) op J (zqo (zk _ _ _)) .nil) J J) L fun a s L=>?_;refine sB 8 L fun s L=>?_;refine es ?_;subst h;exact wp_ret (zqw J ty24 L J)
theorem ref04_Few_ok {d_:SDesc} {r_:Bool} (h:zdc d_ r_):Fn Tryz.prog 26 [(Pd.rep En.SDesc d_)] (Rq (Pd.rep En.bool r_)):=by
 unfold zdc at h;refine zbk Tryz.func26 J Tryz.ntmps26 (by rfl) (by simp) fun s0 a L=>?_;refine rA 2 L fun a s L=>?_;refine rA 1 L fun a s L=>?_;refine wp_seq_k fun K1 H1=>rA 1 L fun a s L=>?_;refine wp_block ?_;have J3:∀(n2:Int) (a:Act) (s:St),Has N0 33 s0 a s [(1,(Pd.ptr En.SDesc d_)),(3,(Pi n2))]→((zdc.j1 d_ r_) n2)→K1 a s.w:=by
  intro n2 a s L h;unfold zdc.j1 at h;show K1 a s.w;refine H1 _ _ ?_;obtain ⟨b4,h5,h⟩:=h;refine ra 9 (p1 h5) L fun a s L=>?_;subst h;exact wp_ret (zdp J L J)
 obtain ⟨k8,h⟩:=h;refine lpn (fun k9 a s=>∃(n6:Int) (i7:Int),Has N0 33 s0 a s [(1,(Pd.ptr En.SDesc d_)),(3,(Pi n6)),(4,(Pi i7))]∧zdc.l1 d_ (zdc.j1 d_ r_) k9 n6 i7) k8 ⟨0,0,L.kk,h⟩ ?_;rintro k9 a s ⟨n6,i7,L,h⟩ KL10 hKL10;unfold zdc.l1 at h;refine wp_seq_k fun K11 H11=>?_;obtain ⟨b12,h13,h⟩:=h;refine ra 9 (p1 h13) L fun a s L=>?_;refine cn L h (fun h=>?_) fun h=>?_
 ·refine wp_skip (H11 _ _ ?_);refine wp_seq_k fun K14 H14=>wp_block ?_;obtain ⟨e15,h16,h17,h⟩:=h;refine rg (sl 10 (p1 h16) L fun a s L=>?_);refine en' (H14 _ _ ?_);obtain ⟨h18,h⟩:=h;refine rg (sA 3 L fun a s L=>?_);refine en' ?_;exact hKL10 a s ⟨(n6+(e15.2.2.2.2.2.2.length:Int)),(i7+1),L.kk,h⟩
 ·refine wp_exit ?_;exact J3 n6 a s (L.kk) h
theorem zn0 {d_:SDesc} {r_:Int} (h:zm d_ r_):Fn Tryz.prog 27 [(Pd.rep En.SDesc d_)] (Rq (Pi r_)):=by
 unfold zm at h;refine zbk Tryz.func27 J Tryz.ntmps27 (by rfl) (by simp) fun s0 a L=>?_;refine rA 2 L fun a s L=>?_;refine rs (sno (En.int .i64) 3 L fun a s L=>?_);refine es (wp_seq_k fun K1 H1=>?_);refine rA 1 L fun a s L=>?_;refine wp_block ?_;have J4:∀(l2:(List Int)) (og3:Option Nat) (a:Act) (s:St),Has N0 113 s0 a s [(3,(Pd.row (En.int .i64) s0.w.heap.size 3 og3 l2))]→((zm.j1 r_) l2)→K1 a s.w:=by
  intro l2 og3 a s L h;unfold zm.j1 at h;show K1 a s.w;refine H1 _ _ (wp_seq_k fun K5 H5=>?_);refine rA 3 L fun a s L=>?_;refine cn L h (fun h=>?_) fun h=>?_
  ·refine rA 1 L fun a s L=>?_;subst h;exact wp_ret (zdp J L J)
  ·refine wp_skip (H5 _ _ ?_);obtain ⟨h6,e7,h8,h⟩:=h;refine ra 7 (p1 h8) L fun a s L=>?_;subst h;exact wp_ret (zdp J L J)
 obtain ⟨k12,h⟩:=h;refine lpn (fun k13 a s=>∃(l9:(List Int)) (i11:Int) (og10:Option Nat),Has N0 113 s0 a s [(1,(Pd.ptr En.SDesc d_)),(3,(Pd.row (En.int .i64) s0.w.heap.size 3 og10 l9)),(4,(Pi i11))]∧zm.l1 d_ (zm.j1 r_) k13 l9 i11) k12 ⟨([]:(List Int)),0,none,L.kk,h⟩ ?_;rintro k13 a s ⟨l9,i11,og10,L,h⟩ KL14 hKL14;unfold zm.l1 at h;refine wp_seq_k fun K15 H15=>?_;obtain ⟨b16,h17,h⟩:=h;refine ra 9 (p1 h17) L fun a s L=>?_;refine cn L h (fun h=>?_) fun h=>?_
 ·refine wp_skip (H15 _ _ ?_);refine wp_seq_k fun K18 H18=>wp_block ?_;obtain ⟨e19,h20,h⟩:=h;refine rs (sl 5 (p1 h20) L fun a s L=>?_);have lt_d22:=L.rlt 3 rfl;refine z8 En.SNode (z:=(0,0,0,0,0,(0#256),([]:Str))) 5 L zkx J J J J fun a s g21 hg_ L=>?_;have d22:=Dis.newg hg_ lt_d22;refine sB 5 L fun s L=>?_;refine es (rA 1 L fun a s L=>?_);refine rA 1 L fun a s L=>?_;refine wp_seq_k fun K23 H23=>?_;obtain ⟨b24,h25,h⟩:=h;refine ra 10 (p1 h25) L fun a s L=>?_;have J27:∀(a26:Int) (a:Act) (s:St),Has N0 113 s0 a s [(1,(Pd.ptr En.SDesc d_)),(3,(Pd.row (En.int .i64) s0.w.heap.size 3 og10 l9)),(4,(Pi i11)),(5,(Pd.box En.SNode s0.w.heap.size g21 e19)),(6,(Pi a26)),(7,(Pi 0))]→Dis og10 (some g21)→((zm.j7 (zm.l1 d_ (zm.j1 r_) k13) l9 i11 e19) a26)→K23 a s.w:=by
   intro a26 a s L d28 h;unfold zm.j7 at h;show K23 a s.w;refine H23 _ _ (wp_seq_k fun K29 H29=>?_);obtain ⟨b30,h31,h⟩:=h;refine ra 10 (p1 h31) L fun a s L=>?_;have J33:∀(b32:Int) (a:Act) (s:St),Has N0 113 s0 a s [(1,(Pd.ptr En.SDesc d_)),(3,(Pd.row (En.int .i64) s0.w.heap.size 3 og10 l9)),(4,(Pi i11)),(5,(Pd.box En.SNode s0.w.heap.size g21 e19)),(6,(Pi a26)),(7,(Pi b32))]→Dis og10 (some g21)→((zm.j6 (zm.l1 d_ (zm.j1 r_) k13) l9 i11 e19 a26) b32)→K29 a s.w:=by
    intro b32 a s L d34 h;unfold zm.j6 at h;show K29 a s.w;refine H29 _ _ (rA 1 L fun a s L=>?_);refine wp_seq_k fun K35 H35=>rA 3 L fun a s L=>?_;have J37:∀(w36:Int) (a:Act) (s:St),Has N0 113 s0 a s [(1,(Pd.ptr En.SDesc d_)),(3,(Pd.row (En.int .i64) s0.w.heap.size 3 og10 l9)),(4,(Pi i11)),(5,(Pd.box En.SNode s0.w.heap.size g21 e19)),(6,(Pi a26)),(7,(Pi b32)),(8,(Pi w36))]→Dis og10 (some g21)→((zm.j5 (zm.l1 d_ (zm.j1 r_) k13) l9 i11 e19 a26 b32) w36)→K35 a s.w:=by
     intro w36 a s L d38 h;unfold zm.j5 at h;show K35 a s.w;refine H35 _ _ (wp_seq_k fun K39 H39=>?_);refine rA 8 L fun a s L=>?_;have J41:∀(w40:Int) (a:Act) (s:St),Has N0 113 s0 a s [(1,(Pd.ptr En.SDesc d_)),(3,(Pd.row (En.int .i64) s0.w.heap.size 3 og10 l9)),(4,(Pi i11)),(5,(Pd.box En.SNode s0.w.heap.size g21 e19)),(6,(Pi a26)),(8,(Pi w40))]→Dis og10 (some g21)→((zm.j4 (zm.l1 d_ (zm.j1 r_) k13) l9 i11 e19 a26) w40)→K39 a s.w:=by
      intro w40 a s L d42 h;unfold zm.j4 at h;show K39 a s.w;refine H39 _ _ (wp_seq_k fun K43 H43=>?_);refine rA 13 L fun a s L=>?_;have J45:∀(w44:Int) (a:Act) (s:St),Has N0 113 s0 a s [(1,(Pd.ptr En.SDesc d_)),(3,(Pd.row (En.int .i64) s0.w.heap.size 3 og10 l9)),(4,(Pi i11)),(5,(Pd.box En.SNode s0.w.heap.size g21 e19)),(6,(Pi a26)),(8,(Pi w44))]→Dis og10 (some g21)→((zm.j3 (zm.l1 d_ (zm.j1 r_) k13) l9 i11 e19 a26) w44)→K43 a s.w:=by
       intro w44 a s L d46 h;unfold zm.j3 at h;show K43 a s.w;refine H43 _ _ (wp_seq_k fun K47 H47=>?_);refine rA 3 L fun a s L=>?_;have J49:∀(w48:Int) (a:Act) (s:St),Has N0 113 s0 a s [(1,(Pd.ptr En.SDesc d_)),(3,(Pd.row (En.int .i64) s0.w.heap.size 3 og10 l9)),(4,(Pi i11)),(8,(Pi w48))]→((zm.j2 (zm.l1 d_ (zm.j1 r_) k13) l9 i11) w48)→K47 a s.w:=by
        intro w48 a s L h;unfold zm.j2 at h;show K47 a s.w;refine H47 _ _ ?_;obtain ⟨h50,h⟩:=h;refine rg (sA 4 L fun a s L=>?_);refine zb1 103 L op op Ud.h Tq.h h50 J J J J ka fun a s og51 hg_ L=>?_;refine sA 1 L fun a s L=>?_;refine en' (H18 _ _ ?_);obtain ⟨h52,h⟩:=h;refine rg (sA 3 L fun a s L=>?_);refine en' ?_;exact hKL14 a s ⟨(l9++[(min w48 1000)]),(i11+1),og51,L.kk,h⟩
       refine cn L h (fun h=>?_) fun h=>?_
       ·obtain ⟨h53,h54,h⟩:=h;refine rg (sA 8 L fun a s L=>?_);refine en' ?_;exact J49 ((1+(max 0 (min e19.2.2.2.2.1 1000)))*a26) a s (L.kk) h
       ·refine wp_skip ?_;exact J49 w44 a s (L.kk) h
      refine cn L h (fun h=>?_) fun h=>?_
      ·obtain ⟨h55,h⟩:=h;refine rg (sA 3 L fun a s L=>?_);refine en' ?_;exact J45 (a26+1) a s (L.kk) d42 h
      ·refine wp_skip ?_;exact J45 w40 a s (L.kk) d42 h
     refine cn L h (fun h=>?_) fun h=>?_
     ·obtain ⟨h56,h⟩:=h;refine rg (sA 4 L fun a s L=>?_);refine en' ?_;exact J41 (a26+b32) a s (L.kk) d38 h
     ·refine wp_skip ?_;exact J41 w36 a s (L.kk) d38 h
    refine cn L h (fun h=>?_) fun h=>?_
    ·obtain ⟨h57,h⟩:=h;refine rg (sA 6 L fun a s L=>?_);refine en' ?_;exact J37 (1+(min (e19.2.2.2.2.2.2.length:Int) 1000)) a s (L.kk) d34 h
    ·refine wp_skip ?_;exact J37 1 a s (L.kk) d34 h
   refine cn L h (fun h=>?_) fun h=>?_
   ·obtain ⟨e58,h59,h⟩:=h;refine rg (sl 6 (p1 h59) L fun a s L=>?_);refine en' ?_;exact J33 e58 a s (L.kk) d28 h
   ·refine wp_skip ?_;exact J33 0 a s (L.kk) d28 h
  refine cn L h (fun h=>?_) fun h=>?_
  ·obtain ⟨e60,h61,h⟩:=h;refine rg (sl 6 (p1 h61) L fun a s L=>?_);refine en' ?_;exact J27 e60 a s (L.kk) (Dis.symm d22) h
  ·refine wp_skip ?_;exact J27 0 a s (L.kk) (Dis.symm d22) h
 ·refine wp_exit ?_;exact J4 l9 og10 a s (L.kk) h
theorem zrc {s_:Str} {r_:Bool} (h:zcw s_ r_):Fn Tryz.prog 108 [(Pd.rep En.str s_)] (Rq (Pd.rep En.bool r_)):=by
 unfold zcw at h;refine zbk Tryz.func108 J Tryz.ntmps108 (by rfl) (by simp) fun s0 a L=>?_;refine rA 1 L fun a s L=>?_;refine wp_seq_k fun K1 H1=>rA 1 L fun a s L=>?_;refine wp_block ?_;have J2:∀(a:Act) (s:St),Has N0 21 s0 a s [(0,(Pd.rep En.str s_))]→((zcw.j1 s_ r_))→K1 a s.w:=by
  intro a s L h;unfold zcw.j1 at h;show K1 a s.w;refine H1 _ _ ?_;obtain ⟨r3,h4,h⟩:=h;refine ra 8 (pp (fun hc_=>(zrf (h4 hc_))) trivial) L fun a s L=>?_;subst h;exact wp_ret (zdp J L J)
 obtain ⟨k6,h⟩:=h;refine lpn (fun k7 a s=>∃(i5:Int),Has N0 21 s0 a s [(0,(Pd.rep En.str s_)),(3,(Pi i5))]∧zcw.l1 s_ r_ (zcw.j1 s_ r_) k7 i5) k6 ⟨0,L.kk,h⟩ ?_;rintro k7 a s ⟨i5,L,h⟩ KL8 hKL8;unfold zcw.l1 at h;refine wp_seq_k fun K9 H9=>rA 4 L fun a s L=>?_;refine cn L h (fun h=>?_) fun h=>?_
 ·refine wp_skip (H9 _ _ ?_);refine wp_seq_k fun K10 H10=>wp_block ?_;obtain ⟨c11,h12,h⟩:=h;refine ra 4 (p1 h12) L fun a s L=>?_;refine cn L h (fun h=>?_) fun h=>?_
  ·refine rA 1 L fun a s L=>?_;subst h;exact wp_ret (zdp J L J)
  ·refine wp_skip (H10 _ _ ?_);obtain ⟨h13,h⟩:=h;refine rg (sA 3 L fun a s L=>?_);refine en' ?_;exact hKL8 a s ⟨(i5+1),L.kk,h⟩
 ·refine wp_exit ?_;exact J2 a s (L.kk) h
theorem zz.n_ok (k_:Nat):∀{l_:(List SNode)} {i_:Int} {r_:Int} (h:zz.n k_ l_ i_ r_),Fn Tryz.prog 81 [(Pd.rep (En.slice En.SNode) l_),(Pi i_)] (Rq (Pi r_)):=by
 induction k_ with
 | zero=>intro l_ i_ r_ h;exact h.elim
 | succ k_ ih_=>
 intro l_ i_ r_ h;unfold zz.n at h;refine zbk Tryz.func81 J Tryz.ntmps81 (by rfl) (by simp) fun s0 a L=>?_;refine rA 1 L fun a s L=>?_;refine wp_seq_k fun K1 H1=>rA 2 L fun a s L=>?_;refine cn L h (fun h=>?_) fun h=>?_
 ·refine rA 1 L fun a s L=>?_;subst h;exact wp_ret (zdp J L J)
 ·refine wp_skip (H1 _ _ ?_);obtain ⟨e2,h3,h⟩:=h;refine rs (sl 4 (p1 h3) L fun a s L=>?_);refine z8 En.SNode (z:=(0,0,0,0,0,(0#256),([]:Str))) 5 L zkx J J J J fun a s g4 hg_ L=>?_;refine sB 5 L fun s L=>?_;refine es (rs ?_);refine sA 2 L fun a s L=>?_;refine sv (zbj (x:=(e2.1,0,0,0,0,(0#256),([]:Str))) (ps:=[(0,.tmp 16)]) zkx J stt54 (.cons (i:=0) op J (zu (zk _ _ _)) .nil) J J) L fun a s L=>?_;have lt_d6:=L.blt 5 rfl;refine z8 En.SNode (z:=(0,0,0,0,0,(0#256),([]:Str))) 6 L zkx J J J J fun a s g5 hg_ L=>?_;have d6:=Dis.newg hg_ lt_d6;refine sB 6 L fun s L=>?_;refine es (rA 2 L fun a s L=>?_);refine wp_seq_k fun K7 H7=>rA 2 L fun a s L=>?_;refine wp_block (rA 2 L fun a s L=>?_);refine cn L h (fun h=>?_) fun h=>?_
  ·refine wp_skip (H7 _ _ ?_);refine wp_seq_k fun K8 H8=>rs (sA 2 L fun a s L=>?_);refine sv (t_nev eq54 op op J J) L fun a s L=>?_;refine es (cn L h (fun h=>?_) fun h=>?_)
   ·refine rA 1 L fun a s L=>?_;subst h;exact wp_ret (zdp J L J)
   ·refine wp_skip (H8 _ _ ?_);refine rA 2 L fun a s L=>?_;subst h;exact wp_ret (zdp J L J)
  ·refine rA 2 L fun a s L=>?_;refine cn L h (fun h=>?_) fun h=>?_
   ·refine rg ?_;refine sA 3 L fun a s L=>?_;refine zee 6 L J op op (zi (zi (zi (zi (zi (zu (zk _ _ _)) J) J) J) J) J) Tq.h J J J ka fun s L=>?_;refine en' (H7 _ _ ?_);refine wp_seq_k fun K9 H9=>?_;obtain ⟨b10,h11,h⟩:=h;refine rs (sA 2 L fun a s L=>?_);refine sv (h11 ▸ (t_nev eq54 op op J J)) L fun a s L=>?_;refine es (cn L h (fun h=>?_) fun h=>?_)
    ·refine rA 1 L fun a s L=>?_;subst h;exact wp_ret (zdp J L J)
    ·refine wp_skip (H9 _ _ ?_);refine rA 2 L fun a s L=>?_;subst h;exact wp_ret (zdp J L J)
   ·refine rA 2 L fun a s L=>?_;refine cn L h (fun h=>?_) fun h=>?_
    ·refine rs ?_;refine sA 3 L fun a s L=>?_;refine zee 6 L J op op (zi (zi (zi (zi (zi (zi (zk _ _ _) J) J) J) J) J) J) Tq.h J J J ka fun s L=>?_;refine es ?_;obtain ⟨r12,h13,h⟩:=h;refine ra 4 (p1 (zrc h13)) L fun a s L=>?_;refine cn L h (fun h=>?_) fun h=>?_
     ·refine rA 1 L fun a s L=>?_;subst h;exact wp_ret (zdp J L J)
     ·refine wp_skip (H7 _ _ ?_);refine wp_seq_k fun K14 H14=>?_;obtain ⟨b15,h16,h⟩:=h;refine rs (sA 2 L fun a s L=>?_);refine sv (h16 ▸ (t_nev eq54 op op J J)) L fun a s L=>?_;refine es (cn L h (fun h=>?_) fun h=>?_)
      ·refine rA 1 L fun a s L=>?_;subst h;exact wp_ret (zdp J L J)
      ·refine wp_skip (H14 _ _ ?_);refine rA 2 L fun a s L=>?_;subst h;exact wp_ret (zdp J L J)
    ·refine wp_seq_k fun K17 H17=>?_;refine rA 2 L fun a s L=>?_;have J19:∀(v18:Bool) (a:Act) (s:St),Has N0 96 s0 a s [(0,(Pd.rep (En.slice En.SNode) l_)),(1,(Pi i_)),(5,(Pd.box En.SNode s0.w.heap.size g4 e2)),(6,(Pd.box En.SNode s0.w.heap.size g5 (e2.1,0,0,0,0,(0#256),([]:Str)))),(20,(Pi e2.1)),(37,(Pd.rep En.bool v18))]→Dis (some g4) (some g5)→((zz.j3 (zz.n k_) l_ i_ r_ e2) v18)→K17 a s.w:=by
      intro v18 a s L d20 h;unfold zz.j3 at h;show K17 a s.w;refine H17 _ _ (cn L h (fun h=>?_) fun h=>?_)
      ·obtain ⟨h21,h⟩:=h;refine rs (sA 3 L fun a s L=>?_);refine zee 6 L J op op (zi (zu (zk _ _ _)) J) Tq.h J J J ka fun s L=>?_;refine es (wp_seq_k fun K22 H22=>?_);refine rA 3 L fun a s L=>?_;have J24:∀(want23:SNode) (a:Act) (s:St),Has N0 96 s0 a s [(0,(Pd.rep (En.slice En.SNode) l_)),(1,(Pi i_)),(5,(Pd.box En.SNode s0.w.heap.size g4 e2)),(6,(Pd.box En.SNode s0.w.heap.size g5 want23))]→Dis (some g4) (some g5)→((zz.j1 (zz.n k_) l_ i_ r_ e2) want23)→K22 a s.w:=by
        intro want23 a s L d25 h;unfold zz.j1 at h;show K22 a s.w;refine H22 _ _ ?_;obtain ⟨h26,r27,h28,h⟩:=h;refine rg (sl 5 (p1 (ih_ h28)) L fun a s L=>?_);refine en' (H7 _ _ ?_);refine wp_seq_k fun K29 H29=>rs (sA 2 L fun a s L=>?_);refine sv (t_nev eq54 op op J J) L fun a s L=>?_;refine es (cn L h (fun h=>?_) fun h=>?_)
        ·refine rA 1 L fun a s L=>?_;subst h;exact wp_ret (zdp J L J)
        ·refine wp_skip (H29 _ _ ?_);refine rA 2 L fun a s L=>?_;subst h;exact wp_ret (zdp J L J)
       refine cn L h (fun h=>?_) fun h=>?_
       ·refine rs ?_;refine sA 3 L fun a s L=>?_;refine zee 6 L J op op (zi (zi (zi (zu (zk _ _ _)) J) J) J) Tq.h J J J ka fun s L=>?_;refine es (rs ?_);refine sA 3 L fun a s L=>?_;refine zee 6 L J op op (zi (zi (zi (zi (zu (zk _ _ _)) J) J) J) J) Tq.h J J J ka fun s L=>?_;refine es ?_;obtain ⟨b30,h31,h⟩:=h;refine ra 15 (p1 h31) L fun a s L=>?_;refine cn L h (fun h=>?_) fun h=>?_
        ·refine rA 1 L fun a s L=>?_;subst h;exact wp_ret (zdp J L J)
        ·refine wp_skip ?_;exact J24 (e2.1,i_-1,0,e2.2.2.2.1,e2.2.2.2.2.1,(0#256),([]:Str)) a s (L.kk) d20 h
       ·refine wp_skip ?_;exact J24 (e2.1,i_-1,0,0,0,(0#256),([]:Str)) a s (L.kk) d20 h
      ·refine wp_seq_k fun K32 H32=>?_;refine rA 2 L fun a s L=>?_;have J34:∀(v33:Bool) (a:Act) (s:St),Has N0 96 s0 a s [(0,(Pd.rep (En.slice En.SNode) l_)),(1,(Pi i_)),(5,(Pd.box En.SNode s0.w.heap.size g4 e2)),(6,(Pd.box En.SNode s0.w.heap.size g5 (e2.1,0,0,0,0,(0#256),([]:Str)))),(73,(Pd.rep En.bool v33))]→Dis (some g4) (some g5)→((zz.j2 (zz.n k_) l_ i_ r_ e2) v33)→K32 a s.w:=by
        intro v33 a s L d35 h;unfold zz.j2 at h;show K32 a s.w;refine H32 _ _ (cn L h (fun h=>?_) fun h=>?_)
        ·obtain ⟨h36,h⟩:=h;refine rs (sA 3 L fun a s L=>?_);refine zee 6 L J op op (zi (zi (zu (zk _ _ _)) J) J) Tq.h J J J ka fun s L=>?_;refine es ?_;obtain ⟨h37,r38,h39,h⟩:=h;refine ra 5 (p1 (ih_ h39)) L fun a s L=>?_;refine wp_seq_k fun K40 H40=>rA 2 L fun a s L=>?_;refine cn L h (fun h=>?_) fun h=>?_
         ·refine rA 1 L fun a s L=>?_;subst h;exact wp_ret (zdp J L J)
         ·refine wp_skip (H40 _ _ ?_);obtain ⟨h41,h⟩:=h;refine rs (sA 3 L fun a s L=>?_);refine zee 6 L J op op (zi (zu (zk _ _ _)) J) Tq.h J J J ka fun s L=>?_;refine es ?_;obtain ⟨h42,r43,h44,h⟩:=h;refine rg (sl 5 (p1 (ih_ h44)) L fun a s L=>?_);refine en' (H7 _ _ ?_);refine wp_seq_k fun K45 H45=>?_;obtain ⟨b46,h47,h⟩:=h;refine rs (sA 2 L fun a s L=>?_);refine sv (h47 ▸ (t_nev eq54 op op J J)) L fun a s L=>?_;refine es (cn L h (fun h=>?_) fun h=>?_)
          ·refine rA 1 L fun a s L=>?_;subst h;exact wp_ret (zdp J L J)
          ·refine wp_skip (H45 _ _ ?_);refine rA 2 L fun a s L=>?_;subst h;exact wp_ret (zdp J L J)
        ·refine rA 1 L fun a s L=>?_;subst h;exact wp_ret (zdp J L J)
       refine cn L h (fun h=>?_) fun h=>?_
       ·refine wp_skip ?_;exact J34 (e2.1==4) a s (L.kk) d20 h
       ·refine rg ?_;refine sA 2 L fun a s L=>?_;refine en' ?_;exact J34 (e2.1==5) a s (L.kk) d20 h
     refine cn L h (fun h=>?_) fun h=>?_
     ·refine wp_skip ?_;exact J19 (e2.1==6) a s (L.kk) (Dis.symm d6) h
     ·refine rA 2 L fun a s L=>?_;refine cn L h (fun h=>?_) fun h=>?_
      ·refine wp_skip ?_;exact J19 (e2.1==7) a s (L.kk) (Dis.symm d6) h
      ·refine rA 2 L fun a s L=>?_;refine cn L h (fun h=>?_) fun h=>?_
       ·refine wp_skip ?_;exact J19 (e2.1==8) a s (L.kk) (Dis.symm d6) h
       ·refine rg ?_;refine sA 2 L fun a s L=>?_;refine en' ?_;exact J19 (e2.1==9) a s (L.kk) (Dis.symm d6) h
theorem zpe {l_:(List SNode)} {i_:Int} {r_:Int} (h:zz l_ i_ r_):Fn Tryz.prog 81 [(Pd.rep (En.slice En.SNode) l_),(Pi i_)] (Rq (Pi r_)):=by
 obtain ⟨k_,h⟩:=h;exact zz.n_ok k_ h
theorem zre {d_:SDesc} {r_:Bool} (h:zjx d_ r_):Fn Tryz.prog 54 [(Pd.rep En.SDesc d_)] (Rq (Pd.rep En.bool r_)):=by
 unfold zjx at h;refine zbk Tryz.func54 J Tryz.ntmps54 (by rfl) (by simp) fun s0 a L=>?_;refine rA 2 L fun a s L=>?_;obtain ⟨h1,r2,h3,h⟩:=h;refine ra 15 (pp (fun hc_=>(zpe (h3 hc_))) trivial) L fun a s L=>?_;subst h;exact wp_ret (zdp J L J)
theorem zke {d_:SDesc} {r_:Bool} (h:zb9 d_ r_):Fn Tryz.prog 29 [(Pd.rep En.SDesc d_)] (Rq (Pd.rep En.bool r_)):=by
 unfold zb9 at h;refine zbk Tryz.func29 J Tryz.ntmps29 (by rfl) (by simp) fun s0 a L=>?_;refine rA 2 L fun a s L=>?_;refine wp_seq_k fun K1 H1=>rA 1 L fun a s L=>?_;refine wp_block ?_;have J2:∀(a:Act) (s:St),Has N0 27 s0 a s []→((zb9.j1 r_))→K1 a s.w:=by
  intro a s L h;unfold zb9.j1 at h;show K1 a s.w;refine H1 _ _ (rA 1 L fun a s L=>?_);subst h;exact wp_ret (zdp J L J)
 obtain ⟨k4,h⟩:=h;refine lpn (fun k5 a s=>∃(i3:Int),Has N0 27 s0 a s [(1,(Pd.ptr En.SDesc d_)),(3,(Pi i3))]∧zb9.l1 d_ r_ (zb9.j1 r_) k5 i3) k4 ⟨0,L.kk,h⟩ ?_;rintro k5 a s ⟨i3,L,h⟩ KL6 hKL6;unfold zb9.l1 at h;refine wp_seq_k fun K7 H7=>rA 5 L fun a s L=>?_;refine cn L h (fun h=>?_) fun h=>?_
 ·refine wp_skip (H7 _ _ ?_);refine wp_seq_k fun K8 H8=>wp_block ?_;obtain ⟨e9,h10,e11,h12,h⟩:=h;refine ra 16 (pp h10 (p1 h12)) L fun a s L=>?_;refine cn L h (fun h=>?_) fun h=>?_
  ·refine rA 1 L fun a s L=>?_;subst h;exact wp_ret (zdp J L J)
  ·refine wp_skip (H8 _ _ ?_);obtain ⟨h13,h⟩:=h;refine rg (sA 3 L fun a s L=>?_);refine en' ?_;exact hKL6 a s ⟨(i3+1),L.kk,h⟩
 ·refine wp_exit ?_;exact J2 a s (L.kk) h
theorem zpd {d_:SDesc} {ev_:SDesc} {things_:Int} {r_:Bool} (h:zgt d_ ev_ things_ r_):Fn Tryz.prog 10 [(Pd.rep En.SDesc d_),(Pd.rep En.SDesc ev_),(Pi things_)] (Rq (Pd.rep En.bool r_)):=by
 unfold zgt at h;refine zbk Tryz.func10 J Tryz.ntmps10 (by rfl) (by simp) fun s0 a L=>?_;refine rA 3 L fun a s L=>?_;obtain ⟨r1,h2,r3,h4,h⟩:=h;refine ra 13 (pp (fun hc_=>(zke (h2 hc_))) (pp (fun hc_=>(zke (h4 hc_))) trivial)) L fun a s L=>?_;subst h;exact wp_ret (zdp J L J)
set_option maxRecDepth 100000
set_option maxHeartbeats 2000000
set_option synthInstance.maxSize 100000
set_option synthInstance.maxHeartbeats 200000
theorem zra {d_:SDesc} {i_:Int} {r_:Int} (h:zo d_ i_ r_):Fn Tryz.prog 82 [(Pd.rep En.SDesc d_),(Pi i_)] (Rq (Pi r_)):=by
 unfold zo at h;refine zbk Tryz.func82 J Tryz.ntmps82 (by rfl) (by simp) fun s0 a L=>?_;refine rA 2 L fun a s L=>?_;refine rs (sno (En.int .i64) 3 L fun a s L=>?_);refine es (wp_seq_k fun K1 H1=>?_);refine rA 1 L fun a s L=>?_;refine wp_block ?_;have J4:∀(l2:(List Int)) (og3:Option Nat) (a:Act) (s:St),Has N0 96 s0 a s [(1,(Pi i_)),(5,(Pd.row (En.int .i64) s0.w.heap.size 3 og3 l2))]→((zo.j1 i_ r_) l2)→K1 a s.w:=by
  intro l2 og3 a s L h;unfold zo.j1 at h;show K1 a s.w;refine H1 _ _ ?_;obtain ⟨e5,h6,h⟩:=h;refine ra 5 (p1 h6) L fun a s L=>?_;subst h;exact wp_ret (zdp J L J)
 obtain ⟨k10,h⟩:=h;refine lpn (fun k11 a s=>∃(l7:(List Int)) (k9:Int) (og8:Option Nat),Has N0 96 s0 a s [(1,(Pi i_)),(2,(Pd.ptr En.SDesc d_)),(5,(Pd.row (En.int .i64) s0.w.heap.size 3 og8 l7)),(6,(Pi k9))]∧zo.l1 d_ i_ (zo.j1 i_ r_) k11 l7 k9) k10 ⟨([]:(List Int)),0,none,L.kk,h⟩ ?_;rintro k11 a s ⟨l7,k9,og8,L,h⟩ KL12 hKL12;unfold zo.l1 at h;refine wp_seq_k fun K13 H13=>rA 3 L fun a s L=>?_;refine cn L h (fun h=>?_) fun h=>?_
 ·refine wp_skip (H13 _ _ ?_);refine wp_seq_k fun K14 H14=>wp_block ?_;obtain ⟨e15,h16,h⟩:=h;refine rs (sl 5 (p1 h16) L fun a s L=>?_);have lt_d18:=L.rlt 5 rfl;refine z8 En.SNode (z:=(0,0,0,0,0,(0#256),([]:Str))) 7 L zkx J J J J fun a s g17 hg_ L=>?_;have d18:=Dis.newg hg_ lt_d18;refine sB 7 L fun s L=>?_;refine es (rA 1 L fun a s L=>?_);refine wp_seq_k fun K19 H19=>rA 2 L fun a s L=>?_;refine wp_block (rA 2 L fun a s L=>?_);have J21:∀(w20:Int) (a:Act) (s:St),Has N0 96 s0 a s [(1,(Pi i_)),(2,(Pd.ptr En.SDesc d_)),(5,(Pd.row (En.int .i64) s0.w.heap.size 3 og8 l7)),(6,(Pi k9)),(8,(Pi w20))]→((zo.j2 (zo.l1 d_ i_ (zo.j1 i_ r_) k11) l7 k9) w20)→K19 a s.w:=by
   intro w20 a s L h;unfold zo.j2 at h;show K19 a s.w;refine H19 _ _ ?_;obtain ⟨h22,h⟩:=h;refine rg (sA 4 L fun a s L=>?_);refine zb1 91 L op op Ud.h Tq.h h22 J J J J ka fun a s og23 hg_ L=>?_;refine sA 1 L fun a s L=>?_;refine en' (H14 _ _ ?_);obtain ⟨h24,h⟩:=h;refine rg (sA 3 L fun a s L=>?_);refine en' ?_;exact hKL12 a s ⟨(l7++[(min 2 w20)]),(k9+1),og23,L.kk,h⟩
  refine cn L h (fun h=>?_) fun h=>?_
  ·refine rg ?_;refine sA 1 L fun a s L=>?_;refine en' ?_;exact J21 1 a s (L.kk) h
  ·refine rA 2 L fun a s L=>?_;refine cn L h (fun h=>?_) fun h=>?_
   ·obtain ⟨e25,h26,e27,h28,h29,h⟩:=h;refine rdx 11 (pp h26 (p1 h28)) L fun a s L=>?_;refine sA 1 L fun a s L=>?_;refine en' ?_;exact J21 (e25*e27) a s (L.kk) h
   ·refine rA 2 L fun a s L=>?_;refine cn L h (fun h=>?_) fun h=>?_
    ·obtain ⟨e30,h31,e32,h33,h34,h⟩:=h;refine rdx 11 (pp h31 (p1 h33)) L fun a s L=>?_;refine sA 1 L fun a s L=>?_;refine en' ?_;exact J21 (e30+e32) a s (L.kk) h
    ·refine rA 2 L fun a s L=>?_;refine cn L h (fun h=>?_) fun h=>?_
     ·refine rA 1 L fun a s L=>?_;obtain ⟨e35,h36,h⟩:=h;refine ra 6 (p1 h36) L fun a s L=>?_;refine cn L h (fun h=>?_) fun h=>?_
      ·refine rg ?_;refine sA 1 L fun a s L=>?_;refine en' ?_;exact J21 2 a s (L.kk) h
      ·refine wp_skip ?_;exact J21 1 a s (L.kk) h
     ·refine rA 2 L fun a s L=>?_;refine cn L h (fun h=>?_) fun h=>?_
      ·refine rA 3 L fun a s L=>?_;refine wp_block ?_;obtain ⟨k39,h⟩:=h;refine lpn (fun k40 a s=>∃(w37:Int) (t38:Int),Has N0 96 s0 a s [(1,(Pi i_)),(2,(Pd.ptr En.SDesc d_)),(5,(Pd.row (En.int .i64) s0.w.heap.size 3 og8 l7)),(6,(Pi k9)),(7,(Pd.box En.SNode s0.w.heap.size g17 e15)),(8,(Pi w37)),(9,(Pi t38))]∧Dis og8 (some g17)∧zo.l2 l7 e15 (zo.j2 (zo.l1 d_ i_ (zo.j1 i_ r_) k11) l7 k9) k40 w37 t38) k39 ⟨0,e15.2.2.2.1,L.kk,(Dis.symm d18),h⟩ ?_;rintro k40 a s ⟨w37,t38,L,d42,h⟩ KL41 hKL41;unfold zo.l2 at h;refine wp_seq_k fun K43 H43=>rA 4 L fun a s L=>?_;refine cn L h (fun h=>?_) fun h=>?_
       ·refine wp_skip (H43 _ _ ?_);refine wp_seq_k fun K44 H44=>wp_block (rA 1 L fun a s L=>?_);refine wp_seq_k fun K45 H45=>rA 1 L fun a s L=>?_;refine wp_block ?_;have J47:∀(p46:Int) (a:Act) (s:St),Has N0 96 s0 a s [(1,(Pi i_)),(2,(Pd.ptr En.SDesc d_)),(5,(Pd.row (En.int .i64) s0.w.heap.size 3 og8 l7)),(6,(Pi k9)),(7,(Pd.box En.SNode s0.w.heap.size g17 e15)),(8,(Pi w37)),(9,(Pi t38)),(10,(Pi p46))]→Dis og8 (some g17)→((zo.j3 (zo.l2 l7 e15 (zo.j2 (zo.l1 d_ i_ (zo.j1 i_ r_) k11) l7 k9) k40) w37 t38) p46)→K45 a s.w:=by
         intro p46 a s L d48 h;unfold zo.j3 at h;show K45 a s.w;refine H45 _ _ ?_;obtain ⟨h49,h⟩:=h;refine rg (sA 5 L fun a s L=>?_);refine en' (H44 _ _ ?_);obtain ⟨h50,h⟩:=h;refine rg (sA 3 L fun a s L=>?_);refine en' ?_;exact hKL41 a s ⟨(min 2 (w37+p46)),(t38+1),L.kk,d48,h⟩
        obtain ⟨k53,h⟩:=h;refine lpn (fun k54 a s=>∃(p51:Int) (m52:Int),Has N0 96 s0 a s [(1,(Pi i_)),(2,(Pd.ptr En.SDesc d_)),(5,(Pd.row (En.int .i64) s0.w.heap.size 3 og8 l7)),(6,(Pi k9)),(7,(Pd.box En.SNode s0.w.heap.size g17 e15)),(8,(Pi w37)),(9,(Pi t38)),(10,(Pi p51)),(11,(Pi m52))]∧Dis og8 (some g17)∧zo.l3 l7 e15 t38 (zo.j3 (zo.l2 l7 e15 (zo.j2 (zo.l1 d_ i_ (zo.j1 i_ r_) k11) l7 k9) k40) w37 t38) k54 p51 m52) k53 ⟨1,0,L.kk,d42,h⟩ ?_;rintro k54 a s ⟨p51,m52,L,d56,h⟩ KL55 hKL55;unfold zo.l3 at h;refine wp_seq_k fun K57 H57=>rA 3 L fun a s L=>?_;refine cn L h (fun h=>?_) fun h=>?_
        ·refine wp_skip (H57 _ _ ?_);refine wp_seq_k fun K58 H58=>wp_block ?_;obtain ⟨e59,h60,h61,h⟩:=h;refine rg (sl 9 (p1 h60) L fun a s L=>?_);refine en' (H58 _ _ ?_);obtain ⟨h62,h⟩:=h;refine rg (sA 3 L fun a s L=>?_);refine en' ?_;exact hKL55 a s ⟨(min 2 (p51*e59)),(m52+1),L.kk,d56,h⟩
        ·refine wp_exit ?_;exact J47 p51 a s (L.kk) d56 h
       ·refine wp_exit ?_;exact J21 w37 a s (L.kk) h
      ·refine wp_skip ?_;exact J21 0 a s (L.kk) h
 ·refine wp_exit ?_;exact J4 l7 og8 a s (L.kk) h
theorem zpc {d_:SDesc} {r_:(Int × Bool)} (h:zcg d_ r_):Fn Tryz.prog 55 [(Pd.rep En.SDesc d_)] (Rq2 (Pi r_.1) (Pd.rep En.bool r_.2)):=by
 unfold zcg at h;refine zbk Tryz.func55 J Tryz.ntmps55 (by rfl) (by simp) fun s0 a L=>?_;refine rA 3 L fun a s L=>?_;refine wp_seq_k fun K1 H1=>rA 1 L fun a s L=>?_;refine wp_block ?_;have J2:∀(a:Act) (s:St),Has N0 37 s0 a s []→((zcg.j1 r_))→K1 a s.w:=by
  intro a s L h;unfold zcg.j1 at h;show K1 a s.w;refine H1 _ _ (rA 2 L fun a s L=>?_);subst h;exact wp_ret (ret2 J L J J)
 obtain ⟨k4,h⟩:=h;refine lpn (fun k5 a s=>∃(i3:Int),Has N0 37 s0 a s [(1,(Pd.ptr En.SDesc d_)),(4,(Pi i3))]∧zcg.l1 d_ r_ (zcg.j1 r_) k5 i3) k4 ⟨0,L.kk,h⟩ ?_;rintro k5 a s ⟨i3,L,h⟩ KL6 hKL6;unfold zcg.l1 at h;refine wp_seq_k fun K7 H7=>rA 5 L fun a s L=>?_;refine cn L h (fun h=>?_) fun h=>?_
 ·refine wp_skip (H7 _ _ ?_);refine wp_seq_k fun K8 H8=>wp_block ?_;obtain ⟨e9,h10,h⟩:=h;refine ra 7 (p1 h10) L fun a s L=>?_;obtain ⟨e11,h12,r13,h14,h⟩:=h;refine wp_seq (rdx 17 (pp h12 (pp (fun hc_=>(zra (h14 hc_))) trivial)) L fun a s L=>?_);refine es (cn L h (fun h=>?_) fun h=>?_)
  ·refine rA 3 L fun a s L=>?_;subst h;exact wp_ret (ret2 J L J J)
  ·refine wp_skip (H8 _ _ ?_);obtain ⟨h15,h⟩:=h;refine rg (sA 3 L fun a s L=>?_);refine en' ?_;exact hKL6 a s ⟨(i3+1),L.kk,h⟩
 ·refine wp_exit ?_;exact J2 a s (L.kk) h
theorem zpb {d_:SDesc} {r_:Bool} (h:zgs d_ r_):Fn Tryz.prog 28 [(Pd.rep En.SDesc d_)] (Rq (Pd.rep En.bool r_)):=by
 unfold zgs at h;refine zbk Tryz.func28 J Tryz.ntmps28 (by rfl) (by simp) fun s0 a L=>?_;refine rA 2 L fun a s L=>?_;refine wp_seq_k fun K1 H1=>?_;obtain ⟨r2,h3,h⟩:=h;refine ra 3 (p1 (zre h3)) L fun a s L=>?_;refine cn L h (fun h=>?_) fun h=>?_
 ·refine rA 1 L fun a s L=>?_;subst h;exact wp_ret (zdp J L J)
 ·refine wp_skip (H1 _ _ ?_);obtain ⟨r4,h5,h⟩:=h;refine ra 7 (p1 ((zpc h5).tup)) L fun a s L=>?_;refine rA 3 L fun a s L=>?_;subst h;exact wp_ret (zdp J L J)
set_option maxRecDepth 100000
set_option maxHeartbeats 2000000
set_option synthInstance.maxSize 100000
set_option synthInstance.maxHeartbeats 200000
theorem zr5 {s_:(List SItem)} {r_:((List SItem) × Bool)} (h:zcx s_ r_):Fn Tryz.prog 114 [(Pd.rep (En.slice En.SItem) s_)] (Ro2 En.SItem 57 r_.1 (Pd.rep En.bool r_.2)):=by
 unfold zcx at h;refine zbk Tryz.func114 J Tryz.ntmps114 (by rfl) (by simp) fun s0 a L=>?_;refine rs (sno En.SItem 57 L fun a s L=>?_);refine sA 1 L fun a s L=>?_;refine es ?_;obtain ⟨r1,h2,h⟩:=h;refine rs (sA 1 L fun a s L=>?_);refine zen 8 L (zdq h2) opz J J J J fun a s og3 hg_ L=>?_;refine sA 1 L fun a s L=>?_;refine es (wp_seq_k fun K4 H4=>?_);refine rA 3 L fun a s L=>?_;refine wp_block ?_;have J7:∀(out5:(List SItem)) (og6:Option Nat) (a:Act) (s:St),Has N0 32 s0 a s [(4,(Pd.row En.SItem s0.w.heap.size 57 og6 out5))]→((zcx.j1 r_) out5)→K4 a s.w:=by
  intro out5 og6 a s L h;unfold zcx.j1 at h;show K4 a s.w;refine H4 _ _ (rA 3 L fun a s L=>?_);subst h;exact wp_ret (zgi J L J J)
 obtain ⟨k11,h⟩:=h;refine lpn (fun k12 a s=>∃(out8:(List SItem)) (v10:Int) (og9:Option Nat),Has N0 32 s0 a s [(4,(Pd.row En.SItem s0.w.heap.size 57 og9 out8)),(9,(Pd.row En.SItem s0.w.heap.size 57 og9 out8)),(10,(Pi (r1.length:Int))),(11,(Pi v10))]∧zcx.l1 r1 r_ (zcx.j1 r_) k12 out8 v10) k11 ⟨r1,0,og3,L.kk,h⟩ ?_;rintro k12 a s ⟨out8,v10,og9,L,h⟩ KL13 hKL13;unfold zcx.l1 at h;refine rA 1 L fun a s L=>?_;refine wp_seq_k fun K14 H14=>cn L h (fun h=>?_) fun h=>?_
 ·refine wp_skip (H14 _ _ ?_);refine wp_seq_k fun K15 H15=>wp_block ?_;obtain ⟨e16,h17,h⟩:=h;refine rs (sl 3 (p1 h17) L fun a s L=>?_);have lt_d19:=L.rlt 4 rfl;refine z8 En.SItem (z:=(0,0,0,0)) 6 L zej J J J J fun a s g18 hg_ L=>?_;have d19:=Dis.newg hg_ lt_d19;refine sA 1 L fun a s L=>?_;refine sB 6 L fun s L=>?_;refine es (wp_seq_k fun K20 H20=>?_);refine rA 3 L fun a s L=>?_;refine cn L h (fun h=>?_) fun h=>?_
  ·refine wp_exit ?_;show K15 a s.w;refine H15 _ _ ?_;obtain ⟨h21,h⟩:=h;refine rg (sA 2 L fun a s L=>?_);refine en' ?_;exact hKL13 a s ⟨out8,(v10+1),og9,L.kk,h⟩
  ·refine wp_skip (H20 _ _ ?_);refine wp_seq_k fun K22 H22=>rA 3 L fun a s L=>?_;refine cn L h (fun h=>?_) fun h=>?_
   ·refine rs ?_;refine sno En.SItem 57 L fun a s L=>?_;refine sA 1 L fun a s L=>?_;refine es ?_;subst h;exact wp_ret (zgi J L J J)
   ·refine wp_skip (H22 _ _ ?_);obtain ⟨e23,h24,h25,e26,h27,h⟩:=h;refine rg (sl 8 (pp h24 (p1 h27)) L fun a s L=>?_);refine st_stor (off:=2) 4 L J h27 op op (zi (zi (zu (zk _ _ _)) J) J) Tq.h J J J kw fun s L=>?_;refine en' (H15 _ _ ?_);obtain ⟨h28,h⟩:=h;refine rg (sA 2 L fun a s L=>?_);refine en' ?_;exact hKL13 a s ⟨(out8.set (v10:Int).toNat (e26.1,e26.2.1,e23.2.2.1-1,e26.2.2.2)),(v10+1),og9,L.kk,h⟩
 ·refine wp_exit ?_;exact J7 out8 og9 a s (L.kk) h
theorem zr4 {d_:SDesc} {r_:(List SItem)} (h:zj2 d_ r_):Fn Tryz.prog 65 [(Pd.rep En.SDesc d_)] (Ro En.SItem 57 r_):=by
 unfold zj2 at h;refine zbk Tryz.func65 J Tryz.ntmps65 (by rfl) (by simp) fun s0 a L=>?_;refine rs (sA 1 L fun a s L=>?_);refine sno En.SItem 57 L fun a s L=>?_;refine es ?_;obtain ⟨h1,h⟩:=h;refine rs (sA 4 L fun a s L=>?_);refine sv (zbj (x:=(1,(d_.length:Int)-1,0,0)) (ps:=[(0,.const (.int .i64 1)),(1,.tmp 6)]) zej J zhu (.cons (i:=0) op J (zu (zk _ _ _)) (.cons (i:=1) op J (zi (zu (zk _ _ _)) J) .nil)) J J) L fun a s L=>?_;refine zdy (xs:=[.tmp 7]) 8 L (.cons op .nil) Ud.h Tq.h J J (by decide) J J J J fun a s g2 hg_ L=>?_;refine sA 1 L fun a s L=>?_;refine es ?_;subst h;exact wp_ret (zfj J L J)
theorem ziu {s_:(List SItem)} {r_:(List Int)} (h:zbv s_ r_):Fn Tryz.prog 111 [(Pd.rep (En.slice En.SItem) s_)] (Ro (En.int .i64) 3 r_):=by
 unfold zbv at h;refine zbk Tryz.func111 J Tryz.ntmps111 (by rfl) (by simp) fun s0 a L=>?_;refine rs (sno (En.int .i64) 3 L fun a s L=>?_);refine es (rs ?_);refine sA 2 L fun a s L=>?_;refine zdy (xs:=[.tmp 6]) 7 L (.cons op .nil) Ud.h Tq.h J J (by decide) J J J J fun a s g1 hg_ L=>?_;refine sA 1 L fun a s L=>?_;refine es (wp_seq_k fun K2 H2=>?_);refine rA 1 L fun a s L=>?_;refine wp_block ?_;have J5:∀(out3:(List Int)) (og4:Option Nat) (a:Act) (s:St),Has N0 38 s0 a s [(3,(Pd.row (En.int .i64) s0.w.heap.size 3 og4 out3))]→((zbv.j1 r_) out3)→K2 a s.w:=by
  intro out3 og4 a s L h;unfold zbv.j1 at h;show K2 a s.w;refine H2 _ _ (rA 2 L fun a s L=>?_);subst h;exact wp_ret (zfj J L J)
 obtain ⟨k9,h⟩:=h;refine lpn (fun k10 a s=>∃(out6:(List Int)) (i8:Int) (og7:Option Nat),Has N0 38 s0 a s [(0,(Pd.rep (En.slice En.SItem) s_)),(3,(Pd.row (En.int .i64) s0.w.heap.size 3 og7 out6)),(4,(Pi i8))]∧zbv.l1 s_ (zbv.j1 r_) k10 out6 i8) k9 ⟨[(s_.length:Int)],0,(some g1),L.kk,h⟩ ?_;rintro k10 a s ⟨out6,i8,og7,L,h⟩ KL11 hKL11;unfold zbv.l1 at h;refine wp_seq_k fun K12 H12=>rA 4 L fun a s L=>?_;refine cn L h (fun h=>?_) fun h=>?_
 ·refine wp_skip (H12 _ _ ?_);refine wp_seq_k fun K13 H13=>wp_block ?_;obtain ⟨e14,h15,e16,h17,e18,h19,e20,h21,h22,h⟩:=h;refine rdx 22 (pp h15 (pp h17 (pp h19 (p1 h21)))) L fun a s L=>?_;refine zb1 36 L op op Ud.h Tq.h h22 J J J J ka fun a s og23 hg_ L=>?_;refine sA 1 L fun a s L=>?_;refine en' (H13 _ _ ?_);obtain ⟨h24,h⟩:=h;refine rg (sA 3 L fun a s L=>?_);refine en' ?_;exact hKL11 a s ⟨(out6++[e14.1,e16.2.1,e18.2.2.1,e20.2.2.2]),(i8+1),og23,L.kk,h⟩
 ·refine wp_exit ?_;exact J5 out6 og7 a s (L.kk) h
theorem ziw {a_:(List SItem)} {b_:(List SItem)} {r_:Int} (h:zbp a_ b_ r_):Fn Tryz.prog 85 [(Pd.rep (En.slice En.SItem) a_),(Pd.rep (En.slice En.SItem) b_)] (Rq (Pi r_)):=by
 unfold zbp at h;refine zbk Tryz.func85 J Tryz.ntmps85 (by rfl) (by simp) fun s0 a L=>?_;refine rA 1 L fun a s L=>?_;obtain ⟨r1,h2,h⟩:=h;refine ra 3 (p1 ((ziu h2).frz)) L fun a s L=>?_;obtain ⟨r3,h4,h⟩:=h;refine ra 3 (p1 ((ziu h4).frz)) L fun a s L=>?_;refine wp_seq_k fun K5 H5=>rA 1 L fun a s L=>?_;refine wp_block ?_;have J6:∀(a:Act) (s:St),Has N0 42 s0 a s []→((zbp.j1 r_))→K5 a s.w:=by
  intro a s L h;unfold zbp.j1 at h;show K5 a s.w;refine H5 _ _ (rA 1 L fun a s L=>?_);subst h;exact wp_ret (zdp J L J)
 obtain ⟨k8,h⟩:=h;refine lpn (fun k9 a s=>∃(i7:Int),Has N0 42 s0 a s [(5,(Pd.rep (En.slice (En.int .i64)) r1)),(6,(Pd.rep (En.slice (En.int .i64)) r3)),(7,(Pi i7))]∧zbp.l1 r1 r3 r_ (zbp.j1 r_) k9 i7) k8 ⟨0,L.kk,h⟩ ?_;rintro k9 a s ⟨i7,L,h⟩ KL10 hKL10;unfold zbp.l1 at h;refine wp_seq_k fun K11 H11=>?_;obtain ⟨b12,h13,h⟩:=h;refine ra 10 (p1 h13) L fun a s L=>?_;refine cn L h (fun h=>?_) fun h=>?_
 ·refine wp_skip (H11 _ _ ?_);refine wp_seq_k fun K14 H14=>wp_block (wp_seq_k fun K15 H15=>?_);obtain ⟨e16,h17,e18,h19,h⟩:=h;refine wp_seq (rdx 9 (pp h17 (p1 h19)) L fun a s L=>?_);refine es (cn L h (fun h=>?_) fun h=>?_)
  ·refine rA 1 L fun a s L=>?_;subst h;exact wp_ret (zdp J L J)
  ·refine wp_skip (H15 _ _ ?_);obtain ⟨e20,h21,e22,h23,h⟩:=h;refine wp_seq (rdx 9 (pp h21 (p1 h23)) L fun a s L=>?_);refine es (cn L h (fun h=>?_) fun h=>?_)
   ·refine rA 1 L fun a s L=>?_;subst h;exact wp_ret (zdp J L J)
   ·refine wp_skip (H14 _ _ ?_);obtain ⟨h24,h⟩:=h;refine rg (sA 3 L fun a s L=>?_);refine en' ?_;exact hKL10 a s ⟨(i7+1),L.kk,h⟩
 ·refine wp_exit ?_;exact J6 a s (L.kk) h
theorem zo9 {s_:(List SItem)} {r_:((List SItem) × Bool)} (h:zbg s_ r_):Fn Tryz.prog 110 [(Pd.rep (En.slice En.SItem) s_)] (Ro2 En.SItem 57 r_.1 (Pd.rep En.bool r_.2)):=by
 unfold zbg at h;refine zbk Tryz.func110 J Tryz.ntmps110 (by rfl) (by simp) fun s0 a L=>?_;refine rs (sno En.SItem 57 L fun a s L=>?_);refine sA 1 L fun a s L=>?_;refine es (rs ?_);refine sno En.SItem 57 L fun a s L=>?_;refine es (wp_seq_k fun K1 H1=>?_);refine rA 1 L fun a s L=>?_;refine wp_block ?_;have J4:∀(out2:(List SItem)) (og3:Option Nat) (a:Act) (s:St),Has N0 32 s0 a s [(4,(Pd.row En.SItem s0.w.heap.size 57 og3 out2))]→((zbg.j1 r_) out2)→K1 a s.w:=by
  intro out2 og3 a s L h;unfold zbg.j1 at h;show K1 a s.w;refine H1 _ _ (rA 3 L fun a s L=>?_);subst h;exact wp_ret (zgi J L J J)
 obtain ⟨k8,h⟩:=h;refine lpn (fun k9 a s=>∃(out5:(List SItem)) (i7:Int) (og6:Option Nat),Has N0 32 s0 a s [(0,(Pd.rep (En.slice En.SItem) s_)),(4,(Pd.row En.SItem s0.w.heap.size 57 og6 out5)),(5,(Pi i7))]∧zbg.l1 s_ r_ (zbg.j1 r_) k9 out5 i7) k8 ⟨([]:(List SItem)),0,none,L.kk,h⟩ ?_;rintro k9 a s ⟨out5,i7,og6,L,h⟩ KL10 hKL10;unfold zbg.l1 at h;refine wp_seq_k fun K11 H11=>rA 4 L fun a s L=>?_;refine cn L h (fun h=>?_) fun h=>?_
 ·refine wp_skip (H11 _ _ ?_);refine wp_seq_k fun K12 H12=>wp_block ?_;obtain ⟨e13,h14,h⟩:=h;refine rs (sl 4 (p1 h14) L fun a s L=>?_);have lt_d16:=L.rlt 4 rfl;refine z8 En.SItem (z:=(0,0,0,0)) 6 L zej J J J J fun a s g15 hg_ L=>?_;have d16:=Dis.newg hg_ lt_d16;refine sB 6 L fun s L=>?_;refine es (wp_seq_k fun K17 H17=>?_);refine rA 3 L fun a s L=>?_;have J19:∀(x18:SItem) (a:Act) (s:St),Has N0 32 s0 a s [(0,(Pd.rep (En.slice En.SItem) s_)),(4,(Pd.row En.SItem s0.w.heap.size 57 og6 out5)),(5,(Pi i7)),(6,(Pd.box En.SItem s0.w.heap.size g15 x18))]→Dis og6 (some g15)→((zbg.j2 (zbg.l1 s_ r_ (zbg.j1 r_) k9) out5 i7) x18)→K17 a s.w:=by
   intro x18 a s L d20 h;unfold zbg.j2 at h;show K17 a s.w;refine H17 _ _ ?_;obtain ⟨h21,h⟩:=h;refine rg (sA 3 L fun a s L=>?_);refine zb1 30 L op op Ud.h Tq.h h21 J J J J ka fun a s og22 hg_ L=>?_;refine sA 1 L fun a s L=>?_;refine en' (H12 _ _ ?_);obtain ⟨h23,h⟩:=h;refine rg (sA 3 L fun a s L=>?_);refine en' ?_;exact hKL10 a s ⟨(out5++[x18]),(i7+1),og22,L.kk,h⟩
  refine cn L h (fun h=>?_) fun h=>?_
  ·refine wp_seq_k fun K24 H24=>?_;refine rA 3 L fun a s L=>?_;refine cn L h (fun h=>?_) fun h=>?_
   ·refine rs ?_;refine sno En.SItem 57 L fun a s L=>?_;refine sA 1 L fun a s L=>?_;refine es ?_;subst h;exact wp_ret (zgi J L J J)
   ·refine wp_skip (H24 _ _ ?_);obtain ⟨h25,h⟩:=h;refine rg (sA 4 L fun a s L=>?_);refine zee 6 L J op op (zi (zi (zu (zk _ _ _)) J) J) Tq.h J J J ka fun s L=>?_;refine en' ?_;exact J19 (e13.1,e13.2.1,e13.2.2.1-1,e13.2.2.2) a s (L.kk) (Dis.symm d16) h
  ·refine wp_skip ?_;exact J19 e13 a s (L.kk) (Dis.symm d16) h
 ·refine wp_exit ?_;exact J4 out5 og6 a s (L.kk) h
theorem zq8 {a_:(List SItem)} {b_:(List SItem)} {r_:Bool} (h:zjv a_ b_ r_):Fn Tryz.prog 102 [(Pd.rep (En.slice En.SItem) a_),(Pd.rep (En.slice En.SItem) b_)] (Rq (Pd.rep En.bool r_)):=by
 unfold zjv at h;refine zbk Tryz.func102 J Tryz.ntmps102 (by rfl) (by simp) fun s0 a L=>?_;refine rA 1 L fun a s L=>?_;obtain ⟨r1,h2,h⟩:=h;refine ra 5 (p1 (ziw h2)) L fun a s L=>?_;subst h;exact wp_ret (zdp J L J)
set_option maxRecDepth 100000
set_option maxHeartbeats 2000000
set_option synthInstance.maxSize 100000
set_option synthInstance.maxHeartbeats 200000
theorem zpi {d_:SDesc} {s_:(List SItem)} {r_:Bool} (h:zkq d_ s_ r_):Fn Tryz.prog 140 [(Pd.rep En.SDesc d_),(Pd.rep (En.slice En.SItem) s_)] (Rq (Pd.rep En.bool r_)):=by
 unfold zkq at h;refine zbk Tryz.func140 J Tryz.ntmps140 (by rfl) (by simp) fun s0 a L=>?_;refine rA 2 L fun a s L=>?_;refine wp_seq_k fun K1 H1=>rA 3 L fun a s L=>?_;refine cn L h (fun h=>?_) fun h=>?_
 ·refine rA 1 L fun a s L=>?_;subst h;exact wp_ret (zdp J L J)
 ·refine wp_skip (H1 _ _ ?_);refine wp_seq_k fun K2 H2=>?_;obtain ⟨e3,h4,h⟩:=h;refine rs (sl 3 (p1 h4) L fun a s L=>?_);refine z8 En.SItem (z:=(0,0,0,0)) 5 L zej J J J J fun a s g5 hg_ L=>?_;refine sB 5 L fun s L=>?_;refine es (rA 2 L fun a s L=>?_);refine wp_block (rA 2 L fun a s L=>?_);refine cn L h (fun h=>?_) fun h=>?_
  ·obtain ⟨e6,h7,h⟩:=h;refine ra 8 (p1 h7) L fun a s L=>?_;obtain ⟨e8,h9,h⟩:=h;refine rs (sA 4 L fun a s L=>?_);refine sv (t_g1 J J J (fun hc_=>t_gidxb (g:=1) (xs:=gdat1) (by simp [gtab]) J (opc hc_) (h9 hc_) Ud.h (by rfl) J J)) L fun a s L=>?_;refine sA 3 L fun a s L=>?_;refine es ?_;subst h;exact wp_ret (zdp J L J)
  ·refine wp_seq_k fun K10 H10=>?_;refine rA 2 L fun a s L=>?_;refine cn L h (fun h=>?_) fun h=>?_
   ·refine wp_skip (H10 _ _ ?_);refine cn L h (fun h=>?_) fun h=>?_
    ·refine rA 1 L fun a s L=>?_;subst h;exact wp_ret (zdp J L J)
    ·refine wp_skip (H2 _ _ ?_);refine rA 1 L fun a s L=>?_;subst h;exact wp_ret (zdp J L J)
   ·refine rg ?_;refine sA 2 L fun a s L=>?_;refine en' (H10 _ _ ?_);refine cn L h (fun h=>?_) fun h=>?_
    ·refine rA 1 L fun a s L=>?_;subst h;exact wp_ret (zdp J L J)
    ·refine wp_skip (H2 _ _ ?_);refine rA 1 L fun a s L=>?_;subst h;exact wp_ret (zdp J L J)
theorem zct {rest_:(List SItem)} {list_:(List SItem)} {r_:(List SItem)} (h:zcy rest_ list_ r_):Fn Tryz.prog 161 [(Pd.rep (En.slice En.SItem) rest_),(Pd.rep (En.slice En.SItem) list_)] (Ro En.SItem 57 r_):=by
 unfold zcy at h;refine zbk Tryz.func161 J Tryz.ntmps161 (by rfl) (by simp) fun s0 a L=>?_;refine rs (sno En.SItem 57 L fun a s L=>?_);refine es ?_;obtain ⟨r1,h2,h⟩:=h;refine rs (sA 3 L fun a s L=>?_);refine zen 8 L (zdm h2) opz J J J J fun a s og3 hg_ L=>?_;refine sA 1 L fun a s L=>?_;refine es ?_;subst h;exact wp_ret (zfj J L J)
theorem zeo {i_:Int} {r_:SItem} (h:ze4 i_ r_):Fn Tryz.prog 162 [(Pi i_)] (Rq (Pd.rep En.SItem r_)):=by
 unfold ze4 at h;refine zbk Tryz.func162 J Tryz.ntmps162 (by rfl) (by simp) fun s0 a L=>?_;refine rs (z8 En.SItem (z:=(0,0,0,0)) 2 L zej J J J J fun a s g1 hg_ L=>?_);refine es (rs ?_);refine sA 1 L fun a s L=>?_;refine sv (zbj (x:=(1,i_,0,0)) (ps:=[(0,.const (.int .i64 1)),(1,.tmp 3)]) zej J zhu (.cons (i:=0) op J (zu (zk _ _ _)) (.cons (i:=1) op J (zi (zu (zk _ _ _)) J) .nil)) J J) L fun a s L=>?_;refine sB 2 L fun s L=>?_;refine es ?_;subst h;exact wp_ret (zqw J ty57 L J)
theorem zr8 {d_:SDesc} {s_:(List SItem)} {r_:(List (List SItem))} (h:zda d_ s_ r_):Fn Tryz.prog 142 [(Pd.rep En.SDesc d_),(Pd.rep (En.slice En.SItem) s_)] (Ro (En.slice En.SItem) 59 r_):=by
 unfold zda at h;refine zbk Tryz.func142 J Tryz.ntmps142 (by rfl) (by simp) fun s0 a L=>?_;refine rs (sA 1 L fun a s L=>?_);refine sno (En.slice En.SItem) 59 L fun a s L=>?_;refine es ?_;obtain ⟨e2,h3,h4,h⟩:=h;refine wp_seq ?_;replace L:=L.kk (L':=[(1,(Pd.rep (En.slice En.SItem) s_)),(2,(Pd.ptr En.SDesc d_))]);obtain ⟨K1,H1,nK1,L⟩:=L.mark 999983;refine rdf 8 zc3 L (by kernel_rfl) fun s _ L=>?_;refine zef 3 12 L (by rfl) (by kernel_rfl) (by kernel_rfl) (by kernel_rfl) (fun _ _ _ _ h=>h) (q:=(Pd.rep (En.slice En.SItem) s_)) (zhs (O 1 J) J J) J J fun a L=>?_;refine zef 4 13 L (by rfl) (by kernel_rfl) (by kernel_rfl) (by kernel_rfl) (fun _ _ _ _ h=>h) (q:=(Pd.rep (En.slice En.SItem) (s_.drop (1:Int).toNat))) (y_from (O 12 J) oI h4 U59 ty57 J J) J J fun a L=>?_;refine rc_go 6 [(Pd.rep (En.slice En.SItem) s_),(Pd.ptr En.SItem e2),(Pd.rep En.SItem e2),(Pd.rep (En.slice En.SItem) s_),(Pd.rep (En.slice En.SItem) (s_.drop (1:Int).toNat)),(Pd.ebox En.SItem s0.w.heap.size K1 (0,0,0,0))] [3,4] K1 [5] nK1 L (.k 13 (.k 12 (.k 999983 (.k 1 (.k 2 .nil))))) (by kernel_rfl) (by kernel_rfl) (by kernel_rfl) (by kernel_rfl) (.cons (i:=3) J J J J (.cons (i:=4) J J J J .nil)) J J ?_ ?_
 ·refine zg1.t (zq (O 1 J) J J) nE ?_;refine zg1.t (zql (O 9 J) oI h3 U59 ty57 J J) nE ?_;refine zg1.t (zcj ty57 (O 10 J) J J) nE ?_;refine zg1.skip J nE ?_;refine zg1.skip J nE ?_;refine zg1.c (t_allocx En.SItem (z:=(0,0,0,0)) (K:=K1) (m:=999983) J nK1 zej J J) J ?_;exact zg1.nil
 intro a s _ L;obtain ⟨g5,hg_,L⟩:=L.openb 5 rfl;replace L:=L.kk (L':=[(2,(Pd.ptr En.SDesc d_)),(5,(Pd.box En.SItem s0.w.heap.size g5 (0,0,0,0))),(11,(Pd.rep En.SItem e2)),(13,(Pd.rep (En.slice En.SItem) (s_.drop (1:Int).toNat)))]);refine dp ?_;refine sB 5 L fun s L=>?_;refine sA 1 L fun a s L=>?_;refine es ?_;obtain ⟨e6,h7,h⟩:=h;refine rs (sl 6 (p1 h7) L fun a s L=>?_);have lt_d9:=L.blt 5 rfl;refine z8 En.SNode (z:=(0,0,0,0,0,(0#256),([]:Str))) 7 L zkx J J J J fun a s g8 hg_ L=>?_;have d9:=Dis.newg hg_ lt_d9;refine sB 7 L fun s L=>?_;refine es (wp_seq_k fun K10 H10=>?_);refine wp_block (rA 9 L fun a s L=>?_);refine cn L h (fun h=>?_) fun h=>?_
 ·obtain ⟨r11,h12,h⟩:=h;refine rs (sl 2 (p1 ((zct h12).frz)) L fun a s L=>?_);have lt_d15:=L.blt 7 rfl;have lt_d14:=L.blt 5 rfl;refine zdy (xs:=[.tmp 30]) 31 L (.cons op .nil) Ud.h Tq.h J J (by decide) J J J J fun a s g13 hg_ L=>?_;have d14:=Dis.newg hg_ lt_d14;have d15:=Dis.newg hg_ lt_d15;refine sA 1 L fun a s L=>?_;refine es ?_;subst h;exact wp_ret (zfj J L J)
 ·refine rA 4 L fun a s L=>?_;refine cn L h (fun h=>?_) fun h=>?_
  ·refine rs ?_;refine sno (En.slice En.SItem) 59 L fun a s L=>?_;refine es ?_;subst h;exact wp_ret (zfj J L J)
  ·refine rA 4 L fun a s L=>?_;refine cn L h (fun h=>?_) fun h=>?_
   ·refine rs ?_;refine sno (En.slice En.SItem) 59 L fun a s L=>?_;refine es (wp_seq_k fun K16 H16=>?_);refine rA 3 L fun a s L=>?_;have J19:∀(out17:(List (List SItem))) (og18:Option Nat) (a:Act) (s:St),Has N0 139 s0 a s [(5,(Pd.box En.SItem s0.w.heap.size g5 e2)),(6,(Pd.rep (En.slice En.SItem) (s_.drop (1:Int).toNat))),(7,(Pd.box En.SNode s0.w.heap.size g8 e6)),(8,(Pd.row (En.slice En.SItem) s0.w.heap.size 59 og18 out17))]→Dis (some g5) (some g8)→Dis (some g5) og18→Dis (some g8) og18→((zda.j2 s_ r_ e2 e6) out17)→K16 a s.w:=by
     intro out17 og18 a s L d20 d21 d22 h;unfold zda.j2 at h;show K16 a s.w;refine H16 _ _ (wp_seq_k fun K23 H23=>?_);refine rA 3 L fun a s L=>?_;have J26:∀(out24:(List (List SItem))) (og25:Option Nat) (a:Act) (s:St),Has N0 139 s0 a s [(8,(Pd.row (En.slice En.SItem) s0.w.heap.size 59 og25 out24))]→((zda.j1 r_) out24)→K23 a s.w:=by
      intro out24 og25 a s L h;unfold zda.j1 at h;show K23 a s.w;refine H23 _ _ (rA 2 L fun a s L=>?_);subst h;exact wp_ret (zfj J L J)
     refine cn L h (fun h=>?_) fun h=>?_
     ·obtain ⟨r27,h28,h29,h30,r31,h32,h33,h⟩:=h;refine rda zc3 20 [(Pd.row (En.slice En.SItem) s0.w.heap.size 59 og18 out17),(Pd.rep (En.slice En.SItem) (s_.drop (1:Int).toNat)),(Pd.optr (En.int .i64) s0.w.heap.size (some g8) (1) e6.2.1),(Pi e6.2.1),(Pd.rep En.SItem r27),(Pd.optr (En.int .i64) s0.w.heap.size (some g5) (0) e2.1),(Pi e2.1),(Pd.optr (En.int .i64) s0.w.heap.size (some g5) (1) e2.2.1),(Pi e2.2.1),(Pd.optr (En.int .i64) s0.w.heap.size (some g5) (2) e2.2.2.1),(Pi e2.2.2.1),(Pi (e2.2.2.1-1)),(Pi (max (e2.2.2.1-1) 0)),(Pd.optr (En.int .i64) s0.w.heap.size (some g5) (3) e2.2.2.2),(Pi e2.2.2.2),(Pi (e2.2.2.2-1)),(Pd.rep En.SItem (e2.1,e2.2.1,(max (e2.2.2.1-1) 0),e2.2.2.2-1)),(Pd.rep (En.slice En.SItem) [r27,(e2.1,e2.2.1,(max (e2.2.2.1-1) 0),e2.2.2.2-1)]),(Pd.rep (En.slice En.SItem) r31),(Pd.rep (En.slice (En.slice En.SItem)) [r31])] L (by kernel_rfl) J J ?_ ?_
      ·refine zbe.cons (zq (O 8 J) J J) ?_;refine zbe.cons (zq (O 6 J) J J) ?_;refine zbe.cons (zqm (off:=1) (O 7 J) U54 J (zw (zbr (z7 _ _)) J) J ty3 J J) ?_;refine zbe.cons (zcq ty3 (O 53 J) J J) ?_;refine zbe.cons (ze3 (zeo h28) (xs:=[.tmp 54]) (.cons (O 54 J) .nil) J J) ?_;refine zbe.cons (zqm (off:=0) (O 5 J) U57 J (zbr (z7 _ _)) J ty3 J J) ?_;refine zbe.cons (zcq ty3 (O 56 J) J J) ?_;refine zbe.cons (zqm (off:=1) (O 5 J) U57 J (zw (zbr (z7 _ _)) J) J ty3 J J) ?_;refine zbe.cons (zcq ty3 (O 58 J) J J) ?_;refine zbe.cons (zqm (off:=2) (O 5 J) U57 J (zw (zw (zbr (z7 _ _)) J) J) J ty3 J J) ?_;refine zbe.cons (zcq ty3 (O 60 J) J J) ?_;refine zbe.cons (zma (O 61 J) oI h29 J J) ?_;refine zbe.cons (t_max (O 62 J) oI J J) ?_;refine zbe.cons (zqm (off:=3) (O 5 J) U57 J (zw (zw (zw (z7 _ _) J) J) J) J ty3 J J) ?_;refine zbe.cons (zcq ty3 (O 64 J) J J) ?_;refine zbe.cons (zma (O 65 J) oI h30 J J) ?_;refine zbe.cons (zbj (x:=(e2.1,e2.2.1,(max (e2.2.2.1-1) 0),e2.2.2.2-1)) (ps:=[(0,.tmp 57),(1,.tmp 59),(2,.tmp 63),(3,.tmp 66)]) zej J zhu (.cons (i:=0) (O 57 J) J (zu (zk _ _ _)) (.cons (i:=1) (O 59 J) J (zi (zu (zk _ _ _)) J) (.cons (i:=2) (O 63 J) J (zi (zi (zu (zk _ _ _)) J) J) (.cons (i:=3) (O 66 J) J (zi (zi (zi (zk _ _ _) J) J) J) .nil)))) J J) ?_;refine zbe.cons (t_lit (xs:=[.tmp 55,.tmp 67]) (.cons (O 55 J) (.cons (O 67 J) .nil)) U58 ty57 J J (by decide) J J) ?_;refine zbe.cons (ze3 ((zct h32).frz) (xs:=[.tmp 52,.tmp 68]) (.cons (O 52 J) (.cons (O 68 J) .nil)) J J) ?_;refine zbe.cons (t_lit (xs:=[.tmp 69]) (.cons (O 69 J) .nil) U29 ty59 J J (by decide) J J) ?_
       exact zbe.nil
      intro a s _ L;replace L:=L.kk (L':=[(8,(Pd.row (En.slice En.SItem) s0.w.heap.size 59 og18 out17)),(51,(Pd.row (En.slice En.SItem) s0.w.heap.size 59 og18 out17)),(70,(Pd.rep (En.slice (En.slice En.SItem)) [r31]))]);refine dp ?_;refine zb1 71 L op op Ud.h Tq.h h33 J J J J ka fun a s og34 hg_ L=>?_;refine sA 1 L fun a s L=>?_;refine en' ?_;exact J26 (out17++[r31]) og34 a s (L.kk) h
     ·refine wp_skip ?_;exact J26 out17 og18 a s (L.kk) h
    refine cn L h (fun h=>?_) fun h=>?_
    ·obtain ⟨r35,h36,h37,h⟩:=h;refine rg (sl 4 (p1 ((zct h36).frz)) L fun a s L=>?_);have lt_og38_0:=L.blt 5 rfl;have lt_og38_1:=L.blt 7 rfl;refine zb1 47 L op op Ud.h Tq.h h37 J J J J ka fun a s og38 hg_ L=>?_;have d39:=Dis.app hg_ Dis.none lt_og38_0;have d40:=Dis.app hg_ Dis.none lt_og38_1;refine sA 1 L fun a s L=>?_;refine en' ?_;exact J19 (([]:(List (List SItem)))++[r35]) og38 a s (L.kk) (Dis.symm d9) (Dis.symm d39) (Dis.symm d40) h
    ·refine wp_skip ?_;exact J19 ([]:(List (List SItem))) none a s (L.kk) (Dis.symm d9) (Dis.symm Dis.none) (Dis.symm Dis.none) h
   ·refine wp_skip (H10 _ _ ?_);refine wp_seq_k fun K41 H41=>rA 2 L fun a s L=>?_;refine wp_block (rA 2 L fun a s L=>?_);refine cn L h (fun h=>?_) fun h=>?_
    ·obtain ⟨r42,h43,h⟩:=h;refine rs (sl 2 (p1 ((zct h43).frz)) L fun a s L=>?_);have lt_d46:=L.blt 7 rfl;have lt_d45:=L.blt 5 rfl;refine zdy (xs:=[.tmp 78]) 79 L (.cons op .nil) Ud.h Tq.h J J (by decide) J J J J fun a s g44 hg_ L=>?_;have d45:=Dis.newg hg_ lt_d45;have d46:=Dis.newg hg_ lt_d46;refine sA 1 L fun a s L=>?_;refine es ?_;subst h;exact wp_ret (zfj J L J)
    ·refine rA 2 L fun a s L=>?_;refine cn L h (fun h=>?_) fun h=>?_
     ·obtain ⟨r47,h48,h⟩:=h;refine rs (sA 3 L fun a s L=>?_);refine sv (zbj (x:=(3,e2.2.1,0,0)) (ps:=[(0,.const (.int .i64 3)),(1,.tmp 84)]) zej J zhu (.cons (i:=0) op J (zu (zk _ _ _)) (.cons (i:=1) op J (zi (zu (zk _ _ _)) J) .nil)) J J) L fun a s L=>?_;refine sl 2 (p1 ((zct h48).frz)) L fun a s L=>?_;have lt_d51:=L.blt 7 rfl;have lt_d50:=L.blt 5 rfl;refine zdy (xs:=[.tmp 87]) 88 L (.cons op .nil) Ud.h Tq.h J J (by decide) J J J J fun a s g49 hg_ L=>?_;have d50:=Dis.newg hg_ lt_d50;have d51:=Dis.newg hg_ lt_d51;refine sA 1 L fun a s L=>?_;refine es ?_;subst h;exact wp_ret (zfj J L J)
     ·refine rA 2 L fun a s L=>?_;refine cn L h (fun h=>?_) fun h=>?_
      ·obtain ⟨r52,h53,r54,h55,r56,h57,h⟩:=h;refine wp_seq (rdx 9 (pp (zeo h53) (pp (zeo h55) (p1 ((zct h57).frz)))) L fun a s L=>?_);have lt_d60:=L.blt 7 rfl;have lt_d59:=L.blt 5 rfl;refine zdy (xs:=[.tmp 99]) 100 L (.cons op .nil) Ud.h Tq.h J J (by decide) J J J J fun a s g58 hg_ L=>?_;have d59:=Dis.newg hg_ lt_d59;have d60:=Dis.newg hg_ lt_d60;refine sA 1 L fun a s L=>?_;refine es ?_;subst h;exact wp_ret (zfj J L J)
      ·refine rA 2 L fun a s L=>?_;refine cn L h (fun h=>?_) fun h=>?_
       ·obtain ⟨r61,h62,r63,h64,r65,h66,r67,h68,h⟩:=h;refine wp_seq (rdx 12 (pp (zeo h62) (pp ((zct h64).frz) (pp (zeo h66) (p1 ((zct h68).frz))))) L fun a s L=>?_);have lt_d71:=L.blt 7 rfl;have lt_d70:=L.blt 5 rfl;refine zdy (xs:=[.tmp 108,.tmp 114]) 115 L (.cons op (.cons op .nil)) Ud.h Tq.h J J (by decide) J J J J fun a s g69 hg_ L=>?_;have d70:=Dis.newg hg_ lt_d70;have d71:=Dis.newg hg_ lt_d71;refine sA 1 L fun a s L=>?_;refine es ?_;subst h;exact wp_ret (zfj J L J)
       ·refine rA 2 L fun a s L=>?_;refine cn L h (fun h=>?_) fun h=>?_
        ·obtain ⟨r72,h73,r74,h75,r76,h77,h⟩:=h;refine wp_seq (rdx 9 (pp ((zct h73).frz) (pp (zeo h75) (p1 ((zct h77).frz)))) L fun a s L=>?_);have lt_d80:=L.blt 7 rfl;have lt_d79:=L.blt 5 rfl;refine zdy (xs:=[.tmp 119,.tmp 126]) 127 L (.cons op (.cons op .nil)) Ud.h Tq.h J J (by decide) J J J J fun a s g78 hg_ L=>?_;have d79:=Dis.newg hg_ lt_d79;have d80:=Dis.newg hg_ lt_d80;refine sA 1 L fun a s L=>?_;refine es ?_;subst h;exact wp_ret (zfj J L J)
        ·refine wp_skip (H41 _ _ ?_);obtain ⟨r81,h82,h⟩:=h;refine rs (sA 7 L fun a s L=>?_);refine sv (zbj (x:=(2,e2.2.1,e6.2.2.2.1,e6.2.2.2.2.1)) (ps:=[(0,.const (.int .i64 2)),(1,.tmp 130),(2,.tmp 132),(3,.tmp 134)]) zej J zhu (.cons (i:=0) op J (zu (zk _ _ _)) (.cons (i:=1) op J (zi (zu (zk _ _ _)) J) (.cons (i:=2) op J (zi (zi (zu (zk _ _ _)) J) J) (.cons (i:=3) op J (zi (zi (zi (zk _ _ _) J) J) J) .nil)))) J J) L fun a s L=>?_;refine sl 2 (p1 ((zct h82).frz)) L fun a s L=>?_;have lt_d85:=L.blt 7 rfl;have lt_d84:=L.blt 5 rfl;refine zdy (xs:=[.tmp 137]) 138 L (.cons op .nil) Ud.h Tq.h J J (by decide) J J J J fun a s g83 hg_ L=>?_;have d84:=Dis.newg hg_ lt_d84;have d85:=Dis.newg hg_ lt_d85;refine sA 1 L fun a s L=>?_;refine es ?_;subst h;exact wp_ret (zfj J L J)
end Go.Proofs.YtbojklnokglbhaaGreatDoor.V
namespace Go.Proofs.YtbojklnokglbhaaGreatDoor.V.VD
open Go
abbrev En:=Go.Proofs.YtbojklnokglbhaaGreatDoor.V.En
abbrev En.int:=Go.Proofs.YtbojklnokglbhaaGreatDoor.V.En.int
abbrev St:=Go.Proofs.YtbojklnokglbhaaGreatDoor.V.St
abbrev Gl:=Go.Proofs.YtbojklnokglbhaaGreatDoor.V.Gl
abbrev Fn:=@Go.Proofs.YtbojklnokglbhaaGreatDoor.V.Fn true dLe
abbrev Rq:=@Go.Proofs.YtbojklnokglbhaaGreatDoor.V.Rq true dLe
abbrev Pd.rep {α:Type} (E:V.En α) (x:α):@V.Pd true dLe:=@V.Pd.rep true dLe α E x
end Go.Proofs.YtbojklnokglbhaaGreatDoor.V.VD
namespace Go.Proofs.YtbojklnokglbhaaGreatDoor.V
open Go Go.Shelf Go.Sort
set_option linter.unusedVariables false
theorem grow_of {w w':World} (hd:w.drawn≤w'.drawn) (ho:w'.os=w.os) (ht:w'.tape=w.tape) (hu:w'.output=w.output) (hs:w.heap.size≤w'.heap.size) (hb:∀b,b<w.heap.size→w'.heap[b]?=w.heap[b]?):∃q os,w'=Sort.grow (w.drewN q) os:=by
 refine ⟨w'.drawn-w.drawn,w'.heap.extract w.heap.size w'.heap.size, ?_⟩;have hh:w'.heap=w.heap++w'.heap.extract w.heap.size w'.heap.size:=by
  apply Array.ext_getElem?;intro i;rw [Array.getElem?_append];split
  ·exact hb i ‹_›
  ·rw [Array.getElem?_extract]
   rename_i h
   by_cases hi:i<w'.heap.size
   ·rw [if_pos (by omega)];congr 1;omega
   ·rw [if_neg (by omega),Array.getElem?_eq_none (by omega)]
 have hd2:w'.drawn=w.drawn+(w'.drawn-w.drawn):=by omega
 obtain ⟨h1,t1,d1,o1,u1⟩:=w';obtain ⟨h0,t0,d0,o0,u0⟩:=w;simp only at *;subst ho ht hu;unfold Sort.grow World.drewN;simp only;rw [← hh,← hd2]
section
attribute [local instance] dLe
theorem cmp_grow {P:Program} {g:FuncId} {α:Type} {E':VD.En α} {x y:α} {c:Int} (hc:VD.Fn P g [VD.Pd.rep E' x,VD.Pd.rep E' y] (VD.Rq (VD.Pd.rep (VD.En.int .i64) c))) (s:VD.St) (hg:VD.Gl s) {cx cy:List Value} (hx:E'.R s.w (zfu s) cx x) (hy:E'.R s.w (zfu s) cy y):
  Calls P g #[E'.val cx,E'.val cy] s.w fun e w'=>e = .returned (.int .i64 c)∧∃q os',w'=Sort.grow (s.w.drewN q) os':=
 (hc.run s [E'.val cx,E'.val cy] hg ⟨⟨cx,rfl,hx⟩,⟨cy,rfl,hy⟩,trivial⟩).mono fun e w' ⟨v,s',he,hw,hX,hq⟩=>by
  subst he;subst hw;refine ⟨by rw [(zbd.1 hq).1],grow_of hX.mv.dr hX.mv.os hX.mv.tape hX.mv.output hX.mv.size fun b hb=>hX.mv.blk b hb id⟩
end
theorem swo_cmp {α:Type} {cf:α→α→Int} (h0:∀x,cf x x=0) (ha:∀x y,cf y x = -cf x y) (ht:∀x y z,cf x y≤0→cf y z≤0→cf x z≤0):SWO (Go.Proofs.ltOf cf) where
 irrefl x:=by unfold Go.Proofs.ltOf;rw [h0];rfl
 trans x y z h1 h2:=by
  unfold Go.Proofs.ltOf at *;simp only [decide_eq_true_eq] at *;have a1:=ha x y;have a2:=ha y z;have a3:=ha x z;rcases Int.lt_or_le (cf x z) 0 with h | h
  ·exact h
  ·have:=ht z x y (by omega) (by omega);omega
 ntrans x y z h1 h2:=by
  unfold Go.Proofs.ltOf at *;simp only [decide_eq_false_iff_not,Int.not_lt] at *;have a1:=ha x y;have a2:=ha y z;have a3:=ha x z;have:=ht z y x (by omega) (by omega);omega
theorem put_block {w:World} {b:Nat} {cur:Array Value} {te:TypeId} {F:Array Value} (m:Nat) (os:Array Obj) (hb:w.heap[b]?=some (.cells cur te (0,0))):
  (Sort.grow (putRow id (Sort.ahead w m) b 0 F) os).heap[b]?=some (.cells (putCells id 0 F cur) te (0,0)):=by
 have hlt:=(Array.getElem?_eq_some_iff.1 hb).1;unfold Sort.grow putRow mapBlock;simp only;rw [Array.getElem?_append_left (by simpa [Sort.ahead] using hlt),Array.getElem?_modify,if_pos rfl];show Option.map _ (w.heap[b]?)=_;rw [hb];rfl
theorem put_other {w:World} {b c:Nat} {F:Array Value} (m:Nat) (os:Array Obj) (hc:c<w.heap.size) (hne:c≠b):(Sort.grow (putRow id (Sort.ahead w m) b 0 F) os).heap[c]?=w.heap[c]?:=by
 unfold Sort.grow putRow mapBlock;simp only;rw [Array.getElem?_append_left (by simpa [Sort.ahead] using hc),Array.getElem?_modify,if_neg (Ne.symm hne)];rfl
theorem flat_idx {css:List (List Value)} {k:Nat} (hk:0<k) (h:∀cs∈css,cs.length=k) (j:Nat):css.flatten[j]?=(css[j / k]?).bind (fun cs=>cs[j % k]?):=by
 cases hi:css[j / k]? with
 | none=>
  rw [Option.bind_none,List.getElem?_eq_none];rw [zgk h];have:=List.getElem?_eq_none_iff.1 hi;have h2:=Nat.div_add_mod j k;have h3:css.length*k≤(j / k)*k:=Nat.mul_le_mul_right _ this;rw [Nat.mul_comm] at h2;omega
 | some cs=>
  have hc:cs.length=k:=h cs (List.mem_of_getElem? hi);have hm:=Nat.mod_lt j hk;have e:cs[j % k]?=some cs[j % k]:=List.getElem?_eq_getElem (by omega);have:=zj3 h hi e;rw [Nat.mul_comm,Nat.div_add_mod] at this;rw [this,Option.bind_some,e]
theorem fm_sort {P:Program} {ρ:Ren} (L:Go.Proofs.SlLaysF0.n6 P ρ) {α:Type} {E:En α} {E':VD.En α} {te:TypeId} {g:FuncId} {cf:α→α→Int} (ht24:ρ.t 24=te) (hE:Ty P te E) (hA:E.agg=true) (hA':E'.agg=true) (hR:∀{w S cs x},E.R w S cs x→E'.R w S cs x)
  (hf:∀(args:Array Value) (w:World),(callFunc (ρ.f 6) args).run P w = .ok (.enter (ρ.f 6) args) w) (eg:∀(args:Array Value) (w:World),(callFunc g args).run P w = .ok (.enter g args) w) (hO:SWO (Go.Proofs.ltOf cf)) {xs:List α} (hlen:xs.length≤2147483648)
  (hc:∀x∈xs,∀y∈xs,VD.Fn P g [VD.Pd.rep E' x,VD.Pd.rep E' y] (VD.Rq (VD.Pd.rep (VD.En.int .i64) (cf x y)))) (v0:Value):
  Fm P (ρ.f 6) (fun b=>v0.ownBlock=some b) [Pd.prow E te v0 xs,Pd.is (.func (.func g) #[] #[])] (fun _ s' _=>∃ys:List α,ys.Perm xs∧ys.Pairwise (fun a b=>¬ cf b a<0)∧(Pd.prow E te v0 ys).p s' v0):=by
 refine ⟨hf,fun s vs hgl hX hv=>?_⟩
 match vs,hv with
 | [v,fv],⟨⟨hv0,hrow⟩,hfv,_⟩=>
 have hfv:fv = .func (.func g) #[] #[]:=hfv;subst hfv;subst hv0;obtain ⟨h1,h2,h3,css,hEl,how⟩:=hrow
 by_cases hx0:xs=[]
 ·subst hx0;obtain ⟨p,cap,rfl⟩:∃p cap,v = .slice p 0 cap:=by
   rcases how.2 with ⟨e,_⟩ | ⟨b,cap,cur,e,_⟩
   ·exact ⟨none,0,e⟩
   ·exact ⟨_,cap,e⟩
  refine (Go.Proofs.AnyF.slices_SortFunc_none L p cap _ s.w).mono fun e w' ⟨he,hw⟩=>?_;subst he;subst hw;exact ⟨_,s,rfl,rfl,Fr.refl hX,[],.refl _,List.Pairwise.nil,rfl,h1,h2,h3,css,hEl,how⟩
 have hpos:0<xs.length:=List.length_pos_iff.2 hx0;rcases how.2 with ⟨e,hn⟩ | ⟨b,cap,cur,hvb,hN,hgb,hnc,hcm,hcs,htk⟩
 ·omega
 subst hvb;have hlens:=hEl.lens;have hXb:s.X b:=h2 b rfl;have hblt:b<s.w.heap.size:=s.lt b hXb
 let α':={p:List Value × α // E.R s.w (zfu s) p.1 p.2∧p.2∈xs}
 have hel:∀i:Fin xs.length,E.R s.w (zfu s) (css[i.1]'(by rw [hEl.1];exact i.2)) xs[i.1]∧xs[i.1]∈xs:=fun i=>⟨hEl.2 i.1 _ _ (List.getElem?_eq_getElem _) (List.getElem?_eq_getElem _),List.getElem_mem _⟩
 let d:Array α':=Array.ofFn fun i:Fin xs.length=>⟨(css[i.1]'(by rw [hEl.1];exact i.2),xs[i.1]),hel i⟩
 have hdn:d.size=xs.length:=by simp [d]
 haveI:Inhabited α':=⟨d[0]'(by rw [hdn];exact hpos)⟩
 let enc:α'→List Value:=fun p=>p.1.1
 have hk:∀x:α',(enc x).length=E.sz:=fun x=>E.len x.2.1;have hone:∀x:α',∀u∈enc x,u.oneCell'=true:=fun x=>E.one x.2.1;have hdl:d.toList.map (fun p=>p.1.1)=css:=by
  apply List.ext_getElem?;intro i;simp only [d,List.getElem?_map,Array.toList_ofFn,List.getElem?_ofFn]
  by_cases hi:i<xs.length
  ·rw [dif_pos hi,Option.map_some,List.getElem?_eq_getElem (by rw [hEl.1];exact hi)]
  ·rw [dif_neg hi,Option.map_none,List.getElem?_eq_none (by rw [hEl.1];omega)]
 have hdx:d.toList.map (fun p=>p.1.2)=xs:=by
  apply List.ext_getElem?;intro i;simp only [d,List.getElem?_map,Array.toList_ofFn,List.getElem?_ofFn]
  by_cases hi:i<xs.length
  ·rw [dif_pos hi,Option.map_some,List.getElem?_eq_getElem hi]
  ·rw [dif_neg hi,Option.map_none,List.getElem?_eq_none (by omega)]
 have hflat:∀(q:Array α') (j:Nat),j<q.size*E.sz→(q.toList.map (fun p=>p.1.1)).flatten[j]?=some (flatK enc E.sz q)[j]!:=by
  intro q j hj;have hjk:j / E.sz<q.size:=Nat.div_lt_of_lt_mul (by rw [Nat.mul_comm];exact hj);rw [flat_idx E.pos (fun cs hcs=>by obtain ⟨p,hp,rfl⟩:=List.mem_map.1 hcs;exact E.len p.2.1),get_flatK _ _ _ _ hj,List.getElem?_map,Array.getElem?_toList,Array.getElem?_eq_getElem hjk];simp only [Option.map_some,Option.bind_some];rw [getElem!_pos q (j / E.sz) hjk];have hm:j % E.sz<(enc q[j / E.sz]).length:=by rw [hk];exact Nat.mod_lt _ E.pos
  rw [getElem!_pos (enc q[j / E.sz]) _ hm];exact List.getElem?_eq_getElem hm
 have hH:HoldsK enc E.sz s.w b 0 d:=by
  intro j hj;rw [size_flatK] at hj;have hf:=hflat d j hj;rw [hdl] at hf;have hcj:cur[j]?=some (flatK enc E.sz d)[j]!:=by
   rw [← htk,List.getElem?_take] at hf;split at hf
   ·simpa using hf
   ·cases hf
  refine ⟨?_, ?_⟩
  ·rw [Nat.zero_add,cell_of_row s.w b j cur te (0,0) hgb];exact hcj
  ·unfold World.frozen?;simp [hgb]
 have hO':SWO (Go.Proofs.ltOf fun p q:α'=>cf p.1.2 q.1.2):=⟨fun x=>hO.irrefl x.1.2,fun x y z=>hO.trans x.1.2 y.1.2 z.1.2,fun x y z=>hO.ntrans x.1.2 y.1.2 z.1.2⟩;have hcmp:Go.Proofs.CmpLays P g #[] enc E.sz (fun p q:α'=>cf p.1.2 q.1.2) b 0 d.size s.w:=by
  intro m os dk hdk x y;have hsz:s.w.heap.size≤(sortWorldK enc E.sz s.w b 0 m dk os).heap.size:=Go.Proofs.size_sortWorldK_c enc E.sz s.w b 0 m dk os;have hoth:∀c,c<s.w.heap.size→c≠b→(sortWorldK enc E.sz s.w b 0 m dk os).heap[c]?=s.w.heap[c]?:=fun c hc hne=>put_other m os hc hne
  let sd:VD.St:=⟨sortWorldK enc E.sz s.w b 0 m dk os,fun c=>c=b,fun c hc=>by subst hc;omega⟩
  have hgd:VD.Gl sd:=by
   have key:∀c o,¬ s.X c→s.w.heap[c]?=some o→c≠b∧sd.w.heap[c]?=some o:=fun c o k1 k2=>by
    have hpb:c≠b:=fun e=>k1 (e ▸ hXb);exact ⟨hpb,(hoth c (Array.getElem?_eq_some_iff.1 k2).1 hpb).trans k2⟩
   refine ⟨fun p hp=>?_,fun p hp=>?_⟩
   ·obtain ⟨k1,t,fr,k2⟩:=hgl.1 p hp;obtain ⟨k3,k4⟩:=key _ _ k1 k2;exact ⟨k3,t,fr,k4⟩
   ·obtain ⟨k1,m',t,fr,es,clock,ys,k2,k3,k4,k5,k6⟩:=hgl.2 p hp;obtain ⟨j1,j2⟩:=key _ _ k1 k2;obtain ⟨j3,j4⟩:=key _ _ k3 k4;exact ⟨j1,m',t,fr,es,clock,ys,j2,j3,j4,k5,k6⟩
  have hfoot:∀c,zfu s c→zfu sd c:=fun c hc=>⟨Nat.lt_of_lt_of_le hc.1 hsz,fun e=>hc.2 (e ▸ hXb)⟩;have conv:∀z:α',E'.R sd.w (zfu sd) (enc z) z.1.2:=fun z=>E'.mono hfoot (E'.move (fun c hc=>hoth c hc.1 (fun e=>hc.2 (e ▸ hXb))) (hR z.2.1))
  have:=cmp_grow (hc _ x.2.2 _ y.2.2) sd hgd (conv x) (conv y);have hval:∀z:α',E'.val (enc z) = .agg (enc z).toArray:=fun z=>by unfold En.val;rw [hA'];rfl
  rw [hval,hval] at this;exact this
 have hmain:=Go.Proofs.AnyQ.slices_SortFunc L E.sz (fun w=>by rw [ht24,← hA];exact zk8 hE w) (fun w=>by rw [ht24];exact zce hE w) enc hk hone (fun p q:α'=>cf p.1.2 q.1.2) hO' g #[] b 0 cap d s.w eg hcmp hH hblt (by rw [hdn];omega);rw [hdn] at hmain;refine hmain.mono fun e w' ⟨he,d',m,os,hP,hS,hw⟩=>?_;subst he;subst hw;have hd'n:d'.size=xs.length:=hP.1.trans hdn;have hsz:s.w.heap.size≤(sortWorldK enc E.sz s.w b 0 m d' os).heap.size:=Go.Proofs.size_sortWorldK_c enc E.sz s.w b 0 m d' os
 let s':St:=⟨sortWorldK enc E.sz s.w b 0 m d' os,s.X,fun c hc=>Nat.lt_of_lt_of_le (s.lt c hc) hsz⟩
 have hmv:Mv (fun c=>(Value.slice (some ⟨b,0,none⟩) xs.length cap).ownBlock=some c) s s':=
  ⟨trivial,rfl,rfl,rfl,hsz,fun c hc hne=>put_other m os hc (fun e=>hne (by rw [e];rfl)),fun c hc=>hX c hc,fun c hc=>.inl hc⟩
 refine ⟨_,s',rfl,rfl,⟨hmv,fun c hc=>hc⟩,d'.toList.map (fun p=>p.1.2), ?_, ?_,rfl,rfl,fun c hc=>h2 c hc,by simp [hd'n];exact h3,d'.toList.map (fun p=>p.1.1),⟨by simp,fun i cs x hi hx=>?_⟩, ?_⟩
 ·have hp:=(hP.2.2).map (fun p:α'=>p.1.2);have e1:(d'.extract 0 xs.length).toList=d'.toList:=by rw [← hd'n];simp
  have e2:(d.extract 0 xs.length).toList=d.toList:=by rw [← hdn];simp
  rw [e1,e2,hdx] at hp;exact hp
 ·rw [List.pairwise_iff_getElem];intro i j hi hj hij;simp only [List.length_map,Array.length_toList] at hi hj;have:=hS i j (Nat.zero_le _) hij (by omega);unfold Go.Proofs.ltOf at this;rw [getElem!_pos d' i hi,getElem!_pos d' j hj] at this;simpa using this
 ·simp only [List.getElem?_map,Array.getElem?_toList] at hi hx;cases hq:d'[i]? with
  | none=>rw [hq] at hi;cases hi
  | some q=>
   rw [hq] at hi hx;simp only [Option.map_some,Option.some.injEq] at hi hx;subst hi;subst hx;exact E.go hmv q.2.1
 ·have hfl:(d'.toList.map (fun p=>p.1.1)).flatten.length=d'.size*E.sz:=by
   rw [zgk (fun cs hcs=>by obtain ⟨p,hp,rfl⟩:=List.mem_map.1 hcs;exact E.len p.2.1)];simp
  have hle:d'.size*E.sz≤cur.size:=by rw [hcs,hd'n];exact Nat.mul_le_mul_right _ hnc
  refine ⟨by rw [hfl];simp,.inr ⟨b,cap,_,by simp [hd'n],Nat.zero_le _,put_block m os hgb,by simp [hd'n];exact hnc,hcm,by simp [putCells];exact hcs, ?_⟩⟩;apply List.ext_getElem?;intro j;rw [List.getElem?_take];simp only [List.length_map,Array.length_toList];split
  ·rename_i hj
   rw [hflat d' j hj,Array.getElem?_toList];unfold putCells;rw [Array.getElem?_mapIdx,Array.getElem?_eq_getElem (by omega)];simp only [Option.map_some,id];rw [if_pos ⟨Nat.zero_le _,by rw [size_flatK];omega⟩,Nat.sub_zero]
  ·rename_i hj
   rw [List.getElem?_eq_none (by rw [hfl];omega)]
end Go.Proofs.YtbojklnokglbhaaGreatDoor.V
namespace Go.Proofs.YtbojklnokglbhaaGreatDoor.V
open Go
set_option linter.unusedVariables false
theorem dt {p:Prop} [Decidable p] (h:decide p=true):p:=of_decide_eq_true h
theorem df {p:Prop} [Decidable p] (h:decide p=false):¬ p:=of_decide_eq_false h
theorem zgf {σ:Type} {P:Nat→σ→Int→Prop} (n:Nat) (I:Nat→σ→Prop)
  (hs:∀i s,i<n→I i s→(∀k,P (k+1) s (i:Int))∨∃s',I (i+1) s'∧∀k,P k s' ((i:Int)+1)→P (k+1) s (i:Int))
  (hx:∀s,I n s→∀k,P (k+1) s (n:Int)) (s:σ) (h:I 0 s):∃k,P k s 0:=by
 have:∀m i s,i+m=n→I i s→∃k,P k s (i:Int):=by
  intro m
  induction m with
  | zero=>intro i s hi hI;have:i=n:=by omega
          subst this;exact ⟨1,hx s hI 0⟩
  | succ m ih=>
   intro i s hi hI;rcases hs i s (by omega) hI with h | ⟨s',h1,h2⟩
   ·exact ⟨1,h 0⟩
   ·obtain ⟨k,hk⟩:=ih (i+1) s' (by omega) h1;exact ⟨k+1,h2 k (by simpa using hk)⟩
 simpa using this n 0 s (by omega) h
theorem run {σ:Type} {P:Nat→σ→Prop} (I:σ→Prop) (μ:σ→Nat) (h:∀s,I s→(∀k,P (k+1) s)∨∃s',I s'∧μ s' < μ s∧∀k,P k s'→P (k+1) s) (s:σ) (hI:I s):∃k,P k s:=by
 have:∀m s,μ s<m→I s→∃k,P k s:=by
  intro m
  induction m with
  | zero=>intro s hs;omega
  | succ m ih=>
   intro s hs hI;rcases h s hI with h1 | ⟨s',h1,h2,h3⟩
   ·exact ⟨1,h1 0⟩
   ·obtain ⟨k,hk⟩:=ih s' (by omega) h1;exact ⟨k+1,h3 k hk⟩
 exact this (μ s+1) s (by omega) hI
theorem zj {x:Int} (h1:-9223372036854775808≤x) (h2:x≤9223372036854775807):InR .i64 x:=zhm.2 ⟨h1,h2⟩
theorem zb2 {α:Type} {xs:List α} {i:Nat}:at? xs (i:Int)=xs[i]?:=by
 unfold at?;rw [if_pos (by omega)];simp
def Cl.put (a:Cl) (n:Nat):Cl:=a ||| BitVec.twoPow 256 n
theorem has_put {a:Cl} {n m:Nat} (hn:n<256):(a.put n).has m=(a.has m||decide (n=m)):=by
 unfold Cl.put Cl.has;rw [BitVec.getLsbD_or,BitVec.getLsbD_twoPow];simp [hn]
theorem zks {a b:Cl} {m:Nat}:(a &&& b).has m=(a.has m&&b.has m):=BitVec.getLsbD_and
theorem zoi {a:Cl} {m:Nat} (h:m<256):(~~~ a).has m = !a.has m:=by
 unfold Cl.has;rw [BitVec.getLsbD_not];simp [h]
theorem has_zero {m:Nat}:Cl.has (0#256) m=false:=by simp [Cl.has]
theorem w_nat (a:Cl) (i:Int):(Cl.w a i).toNat=a.word i.toNat:=by simp [Cl.w]
theorem has_w {a:Cl} {n:Nat} (h:n<256):a.has n=(a.word (n / 64)).testBit (n % 64):=by
 rw [Cl.word_bit];simp [Nat.mod_lt,Nat.div_add_mod]
theorem znv {a:Cl} {i:Nat} {v:Int} (hv:v.toNat<2 ^ 64) (j:Nat) (hj:j<4):(a.setw (i:Int) v).word j=if j=i then v.toNat else a.word j:=by
 unfold Cl.setw;have hw:∀k,a.word k<2 ^ 64:=a.word_lt;have hb:∀(c:Prop) [Decidable c] (k:Nat),(if c then v.toNat else a.word k)<2 ^ 64:=fun c _ k=>by split <;> simp_all
 obtain ⟨h0,h1,h2,h3⟩:=Cl.ofWords_word (hb ((i:Int)=0) 0) (hb ((i:Int)=1) 1) (hb ((i:Int)=2) 2) (hb ((i:Int)=3) 3)
 match j,hj with
 | 0,_=>rw [h0];split <;> split <;> first | rfl | omega
 | 1,_=>rw [h1];split <;> split <;> first | rfl | omega
 | 2,_=>rw [h2];split <;> split <;> first | rfl | omega
 | 3,_=>rw [h3];split <;> split <;> first | rfl | omega
theorem has_setw {a:Cl} {i:Nat} {v:Int} (hv:v.toNat<2 ^ 64) {n:Nat} (hn:n<256):(a.setw (i:Int) v).has n=if n / 64=i then v.toNat.testBit (n % 64) else a.has n:=by
 rw [has_w hn,znv hv _ (by omega),has_w hn];split <;> rfl
theorem shr_bit {w k:Nat} (hk:k<64):(andI (zpv (w:Int) (k:Int)) 1==1)=w.testBit k:=by
 unfold andI zpv;rw [show min ((k:Int)).toNat 64=k by simp;omega];have h:((w:Int) / 2 ^ k).toNat=w / 2 ^ k:=by
  rw [show ((2:Int) ^ k)=((2 ^ k:Nat):Int) by simp,← Int.natCast_ediv];exact Int.toNat_natCast _
 rw [h];simp only [Int.toNat_one,Nat.and_one_is_mod,Nat.testBit_eq_decide_div_mod_eq];have:=Nat.mod_two_eq_zero_or_one (w / 2 ^ k);rcases this with h | h <;> rw [h] <;> rfl
theorem shl_one {k:Nat} (hk:k<64):shlI 1 (k:Int)=((2 ^ k:Nat):Int):=by
 unfold shlI;rw [show min ((k:Int)).toNat 64=k by simp;omega,Int.one_mul];have:2 ^ k<2 ^ 64:=Nat.pow_lt_pow_right (by omega) hk;rw [show ((2:Int) ^ k)=((2 ^ k:Nat):Int) by simp];generalize 2 ^ k=q at *;omega
theorem put_words {a:Cl} {n:Nat} (hn:n<256):a.setw ((n / 64:Nat):Int) (orI (Cl.w a ((n / 64:Nat):Int)) (shlI 1 ((n % 64:Nat):Int)))=a.put n:=by
 apply Cl.ext;intro c hc;have hlt:(orI (Cl.w a ((n / 64:Nat):Int)) (shlI 1 ((n % 64:Nat):Int))).toNat=a.word (n / 64) ||| 2 ^ (n % 64):=by
  rw [shl_one (Nat.mod_lt _ (by omega))];unfold orI;rw [w_nat,Int.toNat_natCast,Int.toNat_natCast,Int.toNat_natCast]
 have hb:a.word (n / 64) ||| 2 ^ (n % 64)<2 ^ 64:=Nat.or_lt_two_pow (a.word_lt _) (Nat.pow_lt_pow_right (by omega) (Nat.mod_lt _ (by omega)))
 rw [has_setw (by rw [hlt];exact hb) hc,hlt,has_put hn];split
 ·rename_i h
  rw [Nat.testBit_or,Nat.testBit_two_pow,← h,← has_w hc]
  congr 1
  apply decide_eq_decide.2;omega
 ·rename_i h
  rw [show decide (n=c)=false by simp;intro e;subst e;exact h rfl];simp
def Cl.row (f t:Int):Cl:=Cl.of fun n=>decide (f≤(n:Int))&&decide ((n:Int)≤t)
theorem zkr {f t:Int} {n:Nat} (h:n<256):(Cl.row f t).has n=(decide (f≤(n:Int))&&decide ((n:Int)≤t)):=Cl.of_has _ h
def Cl.least (a:Cl):Int × Bool:=match (List.range 256).find? a.has with
 | some n=>((n:Int),true)
 | none=>(0,false)
def Cl.count (a:Cl):Nat:=(List.range 256).countP a.has
def Cl.addL (a:Cl) (l:List Int):Cl:=l.foldl (fun a c=>a.put c.toNat) a
theorem u8_of {c:Int} (h:InR .u8 c):∃n:Nat,n<256∧c=n:=by
 rw [zgy] at h;exact ⟨c.toNat,by omega,by omega⟩
theorem u8_nat {n:Nat} (h:n<256):InR .u8 (n:Int):=zgy.2 ⟨by omega,by omega⟩
theorem least_some {a:Cl} {n:Nat} (h:a.least=((n:Int),true)):n<256∧a.has n=true∧∀m,m<n→a.has m=false:=by
 unfold Cl.least at h;split at h
 ·rename_i k hk
  have e:k=n:=by have h2:=(Prod.mk.inj h).1;omega
  subst e;rw [List.find?_eq_some_iff_getElem] at hk;obtain ⟨h1,i,h2,h3,h4⟩:=hk;simp at h2 h3;subst h3;refine ⟨h2,h1,fun m hm=>?_⟩;have:=h4 m hm;simpa using this
 ·simp at h
theorem least_none {a:Cl} (h:a.least.2=false):∀m,m<256→a.has m=false:=by
 unfold Cl.least at h;split at h
 ·simp at h
 ·rename_i hk
  intro m hm;have:=List.find?_eq_none.1 hk m (by simpa using hm);simpa using this
theorem least_of {a:Cl} {n:Nat} (hn:n<256) (h1:a.has n=true) (h2:∀m,m<n→a.has m=false):a.least=((n:Int),true):=by
 have:(List.range 256).find? a.has=some n:=by
  rw [List.find?_eq_some_iff_getElem];exact ⟨h1,n,by simpa using hn,by simp,fun j hj=>by simp [h2 j hj]⟩
 simp [Cl.least,this]
theorem zij {a:Cl} (h:∀m,m<256→a.has m=false):a.least=(0,false):=by
 have:(List.range 256).find? a.has=none:=by
  rw [List.find?_eq_none];intro m hm;simp [h m (by simpa using hm)]
 simp [Cl.least,this]
def Cl.ofL (l:List Bool):Cl:=Cl.of fun n=>l.getD n false
theorem has_ofL {l:List Bool} {n:Nat} (h:n<256):(Cl.ofL l).has n=l.getD n false:=Cl.of_has _ h
theorem dig10:∀d:Fin 10,(UInt8.ofNat (48+d.1)).toNat=48+d.1:=by decide
theorem zqb (u:Nat):∀c∈Lib.decDigits u,48≤c.toNat∧c.toNat≤57:=by
 induction u using Nat.strongRecOn with
 | ind u ih=>
  intro c hc;have hd:∀d,d<10→(UInt8.ofNat (48+d)).toNat=48+d:=fun d hd=>dig10 ⟨d,hd⟩;rw [Lib.decDigits] at hc;split at hc
  ·rename_i h
   rw [List.mem_singleton.1 hc,hd u h];omega
  ·rename_i h
   rcases List.mem_append.1 hc with hc | hc
   ·exact ih (u / 10) (by omega) c hc
   ·rw [List.mem_singleton.1 hc,hd _ (Nat.mod_lt _ (by omega))];omega
def valD (l:List UInt8):Nat:=l.foldl (fun a c=>10*a+(c.toNat-48)) 0
theorem zm8 (u:Nat):valD (Lib.decDigits u)=u:=by
 induction u using Nat.strongRecOn with
 | ind u ih=>
  have hd:∀d,d<10→(UInt8.ofNat (48+d)).toNat=48+d:=fun d hd=>dig10 ⟨d,hd⟩;rw [Lib.decDigits];split
  ·rename_i h
   simp only [valD,List.foldl_cons,List.foldl_nil,hd u h];omega
  ·rename_i h
   have:=ih (u / 10) (by omega);unfold valD at this ⊢;rw [List.foldl_append,this];simp only [List.foldl_cons,List.foldl_nil,hd _ (Nat.mod_lt u (show 10 > 0 by omega))];omega
theorem zp8 (n:Int):∀c∈Lib.itoa n,c≠32:=by
 intro c hc he;subst he;unfold Lib.itoa at hc;split at hc
 ·rcases List.mem_cons.1 hc with h | h
  ·exact absurd h (by decide)
  ·have:=(zqb _ _ h).1;exact absurd this (by decide)
 ·have:=(zqb _ _ hc).1;exact absurd this (by decide)
theorem itoa_inj {n m:Int} (h:Lib.itoa n=Lib.itoa m):n=m:=by
 have no45:∀u (l:List UInt8),Lib.decDigits u≠45::l:=fun u l he=>by
  have:=(zqb u 45 (by rw [he];simp)).1;exact absurd this (by decide)
 unfold Lib.itoa at h;split at h <;> split at h
 ·have:=congrArg valD (List.cons.inj h).2;rw [zm8,zm8] at this;omega
 ·exact absurd h.symm (no45 _ _)
 ·exact absurd h (no45 _ _)
 ·have:=congrArg valD h;rw [zm8,zm8] at this;omega
theorem at_none {α:Type} {xs:List α} {i:Int} (h:i<0∨(xs.length:Int)≤i):at? xs i=none:=by
 unfold at?;split
 ·exact List.getElem?_eq_none (by omega)
 ·rfl
theorem zot {α:Type} {xs:List α} {i:Int} (h0:0≤i) (h1:i<(xs.length:Int)):∃x,at? xs i=some x∧x∈xs:=by
 refine ⟨xs[i.toNat]'(by omega), ?_,List.getElem_mem _⟩;unfold at?;rw [if_pos h0];exact List.getElem?_eq_getElem _
theorem zqh {σ:Type} {P:Nat→σ→Int→Prop} (n:Nat) (I:Nat→σ→Prop)
  (hs:∀i s k,i<n→I i s→(∀s',I (i+1) s'→P k s' ((i:Int)+1))→P (k+1) s (i:Int))
  (hx:∀s,I n s→∀k,P (k+1) s (n:Int)) (s:σ) (h:I 0 s):∃k,P k s 0:=by
 have:∀m i s,i+m=n→I i s→P (m+1) s (i:Int):=by
  intro m
  induction m with
  | zero=>intro i s hi hI;have:i=n:=by omega
          subst this;exact hx s hI 0
  | succ m ih=>
   intro i s hi hI;exact hs i s (m+1) (by omega) hI fun s' h'=>by simpa using ih (i+1) s' (by omega) h'
 exact ⟨n+1,by simpa using this n 0 s (by omega) h⟩
theorem zrv {κ ν:Type} [DecidableEq κ] (k:κ) (z:ν):zel ([]:List (κ × ν)) k z=z:=rfl
theorem zjd {κ ν:Type} [DecidableEq κ] (p:κ × ν) (xs:List (κ × ν)) (k:κ) (z:ν):zel (p::xs) k z=if p.1=k then p.2 else zel xs k z:=by
 unfold zel;rw [List.find?_cons]
 by_cases h:p.1=k
 ·subst h;simp
 ·have h':(p.1==k)=false:=by simpa using h
  rw [h',if_neg h]
theorem zob {κ ν:Type} [DecidableEq κ] (xs:List (κ × ν)) (k k':κ) (v z:ν):zel (zf5 xs k v) k' z=if k=k' then v else zel xs k' z:=by
 have hmap:∀xs:List (κ × ν),zel (xs.map (fun p=>bif p.1==k then (k,v) else p)) k' z=if k=k' then (if zh2 xs k=true then v else z) else zel xs k' z:=by
  intro xs
  induction xs with
  | nil=>simp [zrv,zh2]
  | cons p xs ih=>
   rw [List.map_cons,zjd,ih,zjd]
   by_cases hp:p.1=k
   ·subst hp
    by_cases hk:p.1=k' <;> simp [hk,zh2]
   ·have:(p.1==k)=false:=by simpa using hp
    rw [this]
    by_cases hk:k=k'
    ·subst hk;simp only [zh2,List.any_cons,this,Bool.false_or,cond_false,if_neg hp];rfl
    ·simp [hk]
 have happ:∀xs:List (κ × ν),zh2 xs k=false→zel (xs++[(k,v)]) k' z=if k=k' then v else zel xs k' z:=by
  intro xs
  induction xs with
  | nil=>intro _;rw [List.nil_append,zjd,zrv]
  | cons p xs ih=>
   intro h;simp only [zh2,List.any_cons,Bool.or_eq_false_iff] at h;rw [List.cons_append,zjd,ih h.2,zjd];have hp:p.1≠k:=by simpa using h.1
   by_cases hk:k=k'
   ·subst hk;simp [hp]
   ·simp [hk]
 unfold zf5;cases h:zh2 xs k
 ·exact happ xs h
 ·rw [cond_true,hmap,h];simp
theorem zof (x y:Int) (a b:List Int):zib (x::a) (y::b)=if sgnI x y≠0 then sgnI x y else zib a b:=by
 unfold sgnI;rw [zib]
 by_cases h1:x<y
 ·simp [h1]
 ·by_cases h2:y<x
  ·simp [h1,h2]
  ·simp [h1,h2]
theorem zd6 (b:List Int):zib [] b=0:=by cases b <;> rfl
theorem zhl (a:List Int):zib a []=0:=by cases a <;> rfl
theorem cmpItem_lex (x y:SItem):cmpItem x y=zib (zdk x) (zdk y):=by
 unfold cmpItem zdk;simp only [zof,zsa,zd6]
theorem lexI_app {a b:List Int} (h:a.length=b.length) (u v:List Int):zib (a++u) (b++v)=if zib a b≠0 then zib a b else zib u v:=by
 induction a generalizing b with
 | nil=>
  cases b with
  | nil=>simp [zd6]
  | cons y b=>simp at h
 | cons x a ih=>
  cases b with
  | nil=>simp at h
  | cons y b=>
   simp only [List.cons_append,zof];rw [ih (by simpa using h)];split <;> simp_all
theorem lexI_self (a:List Int):zib a a=0:=by
 induction a with
 | nil=>rfl
 | cons x a ih=>rw [zib,if_neg (by omega),if_neg (by omega),ih]
theorem lexI_anti (a b:List Int):zib b a = -zib a b:=by
 induction a generalizing b with
 | nil=>rw [zd6,zhl];rfl
 | cons x a ih=>
  cases b with
  | nil=>rw [zd6,zhl];rfl
  | cons y b=>
   rw [zib,zib]
   by_cases h1:x<y
   ·rw [if_neg (by omega),if_pos h1,if_pos h1];rfl
   ·by_cases h2:y<x
    ·rw [if_pos h2,if_neg h1,if_pos h2]
    ·rw [if_neg h2,if_neg h1,if_neg h1,if_neg h2,ih]
theorem lexI_zero {a b:List Int} (hl:a.length=b.length) (h:zib a b=0):a=b:=by
 induction a generalizing b with
 | nil=>cases b with
  | nil=>rfl
  | cons y b=>simp at hl
 | cons x a ih=>
  cases b with
  | nil=>simp at hl
  | cons y b=>
   rw [zib] at h
   by_cases h1:x<y
   ·rw [if_pos h1] at h;cases h
   ·by_cases h2:y<x
    ·rw [if_neg h1,if_pos h2] at h;cases h
    ·rw [if_neg h1,if_neg h2] at h;rw [ih (by simpa using hl) h,show x=y by omega]
theorem lexI_trans {a b c:List Int} (h1:a.length=b.length) (h2:b.length=c.length) (h:zib a b<0) (k:zib b c<0):zib a c<0:=by
 induction a generalizing b c with
 | nil=>rw [zd6] at h;omega
 | cons x a ih=>
  cases b with
  | nil=>simp at h1
  | cons y b=>
   cases c with
   | nil=>simp at h2
   | cons z c=>
    rw [zib] at h k ⊢
    by_cases e1:x<y
    ·by_cases e2:y<z
     ·rw [if_pos (by omega)];omega
     ·by_cases e3:z<y
      ·rw [if_neg e2,if_pos e3] at k;omega
      ·rw [if_pos (by omega)];omega
    ·by_cases e2:y<x
     ·rw [if_neg e1,if_pos e2] at h;omega
     ·rw [if_neg e1,if_neg e2] at h
      by_cases e3:y<z
      ·rw [if_pos (by omega)];omega
      ·by_cases e4:z<y
       ·rw [if_neg e3,if_pos e4] at k;omega
       ·rw [if_neg e3,if_neg e4] at k;rw [if_neg (by omega),if_neg (by omega)];exact ih (by simpa using h1) (by simpa using h2) h k
theorem zfp (x:SItem) (s:List SItem):zez (x::s)=zdk x++zez s:=by simp [zez]
theorem zd5 (l:List SItem):(zez l).length=4*l.length:=by
 induction l with
 | nil=>rfl
 | cons x l ih=>rw [zfp,List.length_append,ih];simp [zdk];omega
theorem numsS_inj {s t:List SItem} (h:zez s=zez t):s=t:=by
 induction s generalizing t with
 | nil=>
  cases t with
  | nil=>rfl
  | cons y t=>rw [zfp] at h;simp [zez,zdk] at h
 | cons x s ih=>
  cases t with
  | nil=>rw [zfp] at h;simp [zez,zdk] at h
  | cons y t=>
   rw [zfp,zfp] at h;obtain ⟨x1,x2,x3,x4⟩:=x;obtain ⟨y1,y2,y3,y4⟩:=y;simp only [zdk,List.cons_append,List.nil_append,List.cons.injEq] at h;obtain ⟨rfl,rfl,rfl,rfl,h⟩:=h;rw [ih h]
theorem zd9 {a b:List SItem}:ze0 a b=0↔a=b:=by
 constructor
 ·intro h;unfold ze0 numsL at h;rw [zib] at h
  by_cases h1:(a.length:Int)<(b.length:Int)
  ·rw [if_pos h1] at h;cases h
  ·by_cases h2:(b.length:Int)<(a.length:Int)
   ·rw [if_neg h1,if_pos h2] at h;cases h
   ·rw [if_neg h1,if_neg h2] at h;exact numsS_inj (lexI_zero (by rw [zd5,zd5];omega) h)
 ·rintro rfl;exact lexI_self _
theorem zf9 (a b:List SItem):ze0 b a = -ze0 a b:=lexI_anti _ _
theorem zgm {a b c:List SItem} (h:ze0 a b<0) (k:ze0 b c<0):ze0 a c<0:=by
 unfold ze0 numsL at *;rw [zib] at h k ⊢
 by_cases e1:(a.length:Int)<(b.length:Int)
 ·by_cases e2:(b.length:Int)<(c.length:Int)
  ·rw [if_pos (by omega)];omega
  ·by_cases e3:(c.length:Int)<(b.length:Int)
   ·rw [if_neg e2,if_pos e3] at k;omega
   ·rw [if_pos (by omega)];omega
 ·by_cases e2:(b.length:Int)<(a.length:Int)
  ·rw [if_neg e1,if_pos e2] at h;omega
  ·rw [if_neg e1,if_neg e2] at h
   by_cases e3:(b.length:Int)<(c.length:Int)
   ·rw [if_pos (by omega)];omega
   ·by_cases e4:(c.length:Int)<(b.length:Int)
    ·rw [if_neg e3,if_pos e4] at k;omega
    ·rw [if_neg e3,if_neg e4] at k;rw [if_neg (by omega),if_neg (by omega)];exact lexI_trans (by rw [zd5,zd5];omega) (by rw [zd5,zd5];omega) h k
theorem cut32 {a b:List UInt8} (ha:∀c∈a,c≠32) (hb:∀c∈b,c≠32) {u v:List UInt8} (h:a++32::u=b++32::v):a=b∧u=v:=by
 induction a generalizing b with
 | nil=>
  cases b with
  | nil=>exact ⟨rfl,(List.cons.inj h).2⟩
  | cons y b=>exact absurd (List.cons.inj h).1.symm (hb y (by simp))
 | cons x a ih=>
  cases b with
  | nil=>exact absurd (List.cons.inj h).1 (ha x (by simp))
  | cons y b=>
   obtain ⟨h1,h2⟩:=List.cons.inj h;obtain ⟨h3,h4⟩:=ih (fun c hc=>ha c (by simp [hc])) (fun c hc=>hb c (by simp [hc])) h2;exact ⟨by rw [h1,h3],h4⟩
theorem zh6 (z:Int) (l:List Int):zkp (z::l)=Lib.itoa z++32::zkp l:=by simp [zkp]
theorem keyN_inj {l m:List Int} (h:zkp l=zkp m):l=m:=by
 induction l generalizing m with
 | nil=>
  cases m with
  | nil=>rfl
  | cons y m=>rw [zh6] at h;simp [zkp] at h
 | cons z l ih=>
  cases m with
  | nil=>rw [zh6] at h;simp [zkp] at h
  | cons y m=>
   rw [zh6,zh6] at h;obtain ⟨h1,h2⟩:=cut32 (zp8 z) (zp8 y) h;rw [itoa_inj h1,ih h2]
theorem zgj {s t:List SItem}:keyS s=keyS t↔s=t:=⟨fun h=>numsS_inj (keyN_inj h),fun h=>by rw [h]⟩
def zlz (x:SItem):Bool:=x.1==5&&decide (x.2.2.1≤0)
def zl5 (x:SItem):SItem:=if x.1=5 then (x.1,x.2.1,x.2.2.1-1,x.2.2.2) else x
def zeg (s:List SItem):List SItem × Bool:=if s.any zlz=true then ([],false) else (s.map zl5,true)
theorem zoc {α β:Type} {f g:α→Option β} (h:∀a b,f a=some b→g a=some b):∀(l:List α) (r:List β),l.mapM f=some r→l.mapM g=some r
 | [],r,hr=>by simpa using hr
 | a::l,r,hr=>by
  rw [List.mapM_cons] at hr ⊢;cases ha:f a with
  | none=>rw [ha] at hr;simp at hr
  | some b=>
   rw [ha] at hr;cases hl:l.mapM f with
   | none=>rw [hl] at hr;simp at hr
   | some bs=>
    rw [hl] at hr;rw [h a b ha,zoc h l bs hl];exact hr
theorem lv_mono1 (d:List SNode):∀(h:Nat) (s:List SItem) (l:List (List SItem)),lv d h s=some l→lv d (h+1) s=some l
 | 0,_,_,hl=>by simp [lv] at hl
 | h+1,s,l,hl=>by
  unfold lv at hl ⊢
  by_cases hr:rdy d s=true
  ·rw [if_pos hr] at hl ⊢;exact hl
  ·rw [if_neg hr] at hl ⊢;obtain ⟨ls,h1,h2⟩:=Option.map_eq_some_iff.1 hl;rw [zoc (lv_mono1 d h) _ _ h1,← h2];rfl
theorem zje {d:List SNode} {h h':Nat} (hh:h≤h') {s:List SItem} {l:List (List SItem)} (hl:lv d h s=some l):lv d h' s=some l:=by
 obtain ⟨k,rfl⟩:∃k,h'=h+k:=⟨h' - h,by omega⟩;clear hh
 induction k with
 | zero=>exact hl
 | succ k ih=>exact lv_mono1 d (h+k) s l ih
theorem nzL_aux (d:List SNode):∀(l:List Bool),(d.foldl (fun l n=>l++[nzN l n]) l).length=l.length+d.length∧l <+: d.foldl (fun l n=>l++[nzN l n]) l:=by
 induction d with
 | nil=>intro l;exact ⟨by simp,List.prefix_refl _⟩
 | cons n d ih=>
  intro l;obtain ⟨h1,h2⟩:=ih (l++[nzN l n]);exact ⟨by rw [List.foldl_cons,h1];simp;omega,(List.prefix_append _ _).trans h2⟩
theorem nzL_at {d:List SNode} {i:Nat} {n:SNode} (h:d[i]?=some n):(nzL d)[i]?=some (nzN ((nzL d).take i) n):=by
 have hi:=(List.getElem?_eq_some_iff.1 h).1;have hd:d=d.take i++n::d.drop (i+1):=by
  have hn:d[i]=n:=by rw [List.getElem?_eq_getElem hi] at h;exact Option.some.inj h
  rw [← hn,List.getElem_cons_drop,List.take_append_drop]
 have e:nzL d=(d.drop (i+1)).foldl (fun l n=>l++[nzN l n]) (nzL (d.take i)++[nzN (nzL (d.take i)) n]):=by
  unfold nzL
  conv=>lhs;rw [hd]
  rw [List.foldl_append,List.foldl_cons]
 have hl:(nzL (d.take i)).length=i:=by
  have:=(nzL_aux (d.take i) []).1;unfold nzL;rw [this];simp;omega
 have hp:=(nzL_aux (d.drop (i+1)) (nzL (d.take i)++[nzN (nzL (d.take i)) n])).2;rw [← e] at hp;obtain ⟨r,hr⟩:=hp;have ht:(nzL d).take i=nzL (d.take i):=by rw [← hr,List.append_assoc,List.take_append_of_le_length (by omega),List.take_of_length_le (by omega)]
 rw [ht,← hr,List.append_assoc,List.getElem?_append_right (by omega),hl];simp
theorem zhq {α:Type} {l:List α} {i:Nat} {k:Int} (h0:0≤k) (h1:k<(i:Int)):at? (l.take i) k=at? l k:=by
 unfold at?;rw [if_pos h0,if_pos h0,List.getElem?_take,if_pos (by omega)]
theorem zos {α:Type} {l:List α} {i:Int} {x:α} (h:at? l i=some x):∃k:Nat,i=(k:Int)∧l[k]?=some x:=by
 unfold at? at h;split at h
 ·exact ⟨i.toNat,by omega,h⟩
 ·cases h
theorem nz_at {d:List SNode} (hd:ROk d) {i:Int} {n:SNode} (h:at? d i=some n):nz d i =
  (if n.1=1 then true else if n.1=4 then nz d n.2.1&&nz d n.2.2.1 else if n.1=5 then nz d n.2.1||nz d n.2.2.1 else if n.1=6 then true else if n.1=7 then decide (n.2.2.2.1=0) else false):=by
 obtain ⟨k,rfl,hk⟩:=zos h;have e:=nzL_at hk;have e2:nz d (k:Int)=nzN ((nzL d).take k) n:=by unfold nz;rw [zb2,e];rfl
 rw [e2];unfold nzN
 by_cases h1:n.1=1
 ·simp [h1]
 ·by_cases h4:n.1=4
  ·obtain ⟨⟨a,b⟩,c,e⟩:=hd.two _ n h (.inl h4);rw [if_neg h1,if_pos h4,if_neg h1,if_pos h4,zhq a b,zhq c e];rfl
  ·by_cases h5:n.1=5
   ·obtain ⟨⟨a,b⟩,c,e⟩:=hd.two _ n h (.inr h5);rw [if_neg h1,if_neg h4,if_pos h5,if_neg h1,if_neg h4,if_pos h5,zhq a b,zhq c e];rfl
   ·by_cases h6:n.1=6
    ·simp [h6]
    ·by_cases h7:n.1=7
     ·obtain ⟨a,b⟩:=hd.one _ n h (.inr (.inl h7));have:=hd.nn _ n h (.inr h7);unfold nz at this;rw [if_neg h1,if_neg h4,if_neg h5,if_neg h6,if_pos h7,if_neg h1,if_neg h4,if_neg h5,if_neg h6,if_pos h7,zhq a b,this,Bool.or_false]
     ·simp [h1,h4,h5,h6,h7]
theorem zjl (a:List SItem):ze0 a a=0:=zd9.2 rfl
theorem zhb {a:List SItem} (h:ze0 a a<0):False:=by rw [zjl] at h;omega
theorem Can.nil:Can (fun _=>0) []:=⟨List.Pairwise.nil,by simp⟩
theorem sat_ne {a b:Nat} (h:sat a=sat b):(a≠0↔b≠0):=by unfold sat at h;omega
theorem Can.congr {f g:List SItem→Nat} {B:List SBranch} (h:Can f B) (e:∀t,sat (f t)=sat (g t)):Can g B:=
 ⟨h.srt,fun t m=>by rw [h.mem,sat_ne (e t),e t]⟩
theorem zk0:∀{B C:List SBranch},B.Pairwise (fun a b=>ze0 a.1 b.1<0)→C.Pairwise (fun a b=>ze0 a.1 b.1<0)→(∀x,x∈B↔x∈C)→B=C
 | [],[],_,_,_=>rfl
 | [],c::C,_,_,h=>by have:=(h c).2 (by simp);cases this
 | b::B,[],_,_,h=>by have:=(h b).1 (by simp);cases this
 | b::B,c::C,hB,hC,h=>by
  rw [List.pairwise_cons] at hB hC;have e:b=c:=by
   rcases List.mem_cons.1 ((h b).1 (by simp)) with e | hb
   ·exact e
   ·rcases List.mem_cons.1 ((h c).2 (by simp)) with e | hc
    ·exact e.symm
    ·exact (zhb (zgm (hB.1 c hc) (hC.1 b hb))).elim
  subst e
  congr 1
  refine zk0 hB.2 hC.2 fun x=>⟨fun hx=>?_,fun hx=>?_⟩
  ·rcases List.mem_cons.1 ((h x).1 (by simp [hx])) with e | hh
   ·subst e;exact (zhb (hB.1 _ hx)).elim
   ·exact hh
  ·rcases List.mem_cons.1 ((h x).2 (by simp [hx])) with e | hh
   ·subst e;exact (zhb (hC.1 _ hx)).elim
   ·exact hh
theorem Can.uniq {f:List SItem→Nat} {B C:List SBranch} (hB:Can f B) (hC:Can f C):B=C:=zk0 hB.srt hC.srt fun ⟨t,m⟩=>by rw [hB.mem,hC.mem]
theorem Can.keys {f:List SItem→Nat} {B:List SBranch} (h:Can f B) (t:List SItem):t∈B.map (·.1)↔f t≠0:=by
 rw [List.mem_map];exact ⟨fun ⟨⟨t',m⟩,h1,h2⟩=>by subst h2;exact ((h.mem _ _).1 h1).1,fun h1=>⟨(t,sat (f t)),(h.mem _ _).2 ⟨h1,rfl⟩,rfl⟩⟩
theorem Can.nodup {f:List SItem→Nat} {B:List SBranch} (h:Can f B):(B.map (·.1)).Nodup:=by
 unfold List.Nodup;rw [List.pairwise_map];exact h.srt.imp fun {a b} hab e=>by rw [e] at hab;exact zhb hab
theorem Can.many {f:List SItem→Nat} {B:List SBranch} (h:Can f B) {b:SBranch} (hb:b∈B):b.2=sat (f b.1)∧f b.1≠0∧1≤b.2∧b.2≤2:=by
 obtain ⟨h1,h2⟩:=(h.mem b.1 b.2).1 hb;exact ⟨h2,h1,by unfold sat at h2;omega,by unfold sat at h2;omega⟩
def zmq (s:List SItem) (many:Int):List SBranch→List SBranch
 | []=>[(s,many)]
 | b::l=>if ze0 s b.1=0 then (s,min 2 (b.2+many))::l else if ze0 s b.1<0 then (s,many)::b::l else b::zmq s many l
theorem addB_mem {s:List SItem} {many:Int}:∀{l:List SBranch} {x:SBranch},x∈zmq s many l→x.1=s∨x∈l
 | [],x,h=>by simp only [zmq,List.mem_singleton] at h;subst h;exact .inl rfl
 | b::l,x,h=>by
  unfold zmq at h;split at h
  ·rcases List.mem_cons.1 h with rfl | h
   ·exact .inl rfl
   ·exact .inr (by simp [h])
  ·split at h
   ·rcases List.mem_cons.1 h with rfl | h
    ·exact .inl rfl
    ·exact .inr h
   ·rcases List.mem_cons.1 h with rfl | h
    ·exact .inr (by simp)
    ·exact (addB_mem h).imp id fun h=>by simp [h]
theorem addB_len (s:List SItem) (many:Int) (l:List SBranch):(zmq s many l).length≤l.length+1:=by
 induction l with
 | nil=>simp [zmq]
 | cons b l ih=>unfold zmq;split;· simp
                split <;> simp;omega
theorem addB_srt {s:List SItem} {many:Int}:∀{l:List SBranch},l.Pairwise (fun a b=>ze0 a.1 b.1<0)→(zmq s many l).Pairwise (fun a b=>ze0 a.1 b.1<0)
 | [],_=>by simp [zmq]
 | b::l,h=>by
  rw [List.pairwise_cons] at h;unfold zmq;split
  ·rename_i h0
   have e:=zd9.1 h0;subst e;exact List.pairwise_cons.2 ⟨h.1,h.2⟩
  ·split
   ·rename_i h1
    refine List.pairwise_cons.2 ⟨fun c hc=>?_,List.pairwise_cons.2 h⟩;rcases List.mem_cons.1 hc with rfl | hc
    ·exact h1
    ·exact zgm h1 (h.1 c hc)
   ·rename_i h0 h1
    refine List.pairwise_cons.2 ⟨fun c hc=>?_,addB_srt h.2⟩;rcases addB_mem hc with e | hc
    ·rw [e];have:=zf9 s b.1;omega
    ·exact h.1 c hc
theorem addB_no {s:List SItem} {many:Int}:∀{l:List SBranch},(∀b∈l,b.1≠s)→l.Pairwise (fun a b=>ze0 a.1 b.1<0)→∀x,x∈zmq s many l↔x=(s,many)∨x∈l
 | [],_,_,x=>by simp [zmq]
 | b::l,hn,h,x=>by
  rw [List.pairwise_cons] at h;unfold zmq;rw [if_neg fun h0=>hn b (by simp) (zd9.1 h0).symm];split
  ·simp
  ·rw [List.mem_cons,addB_no (fun c hc=>hn c (by simp [hc])) h.2,List.mem_cons];constructor
   ·rintro (h | h | h) <;> simp [h]
   ·rintro (h | h | h) <;> simp [h]
theorem addB_yes {s:List SItem} {many m:Int}:∀{l:List SBranch},(s,m)∈l→l.Pairwise (fun a b=>ze0 a.1 b.1<0)→∀x,x∈zmq s many l↔x=(s,min 2 (m+many))∨(x∈l∧x.1≠s)
 | b::l,hm,h,x=>by
  rw [List.pairwise_cons] at h;unfold zmq
  by_cases hb:ze0 s b.1=0
  ·rw [if_pos hb];have e:=zd9.1 hb;have hbm:b=(s,m):=by
    rcases List.mem_cons.1 hm with e' | hm
    ·exact e'.symm
    ·have:=h.1 _ hm;rw [← e] at this;exact (zhb this).elim
   subst hbm;rw [List.mem_cons,List.mem_cons];constructor
   ·rintro (h' | h')
    ·exact .inl h'
    ·refine .inr ⟨.inr h',fun e'=>?_⟩;have:=h.1 _ h';rw [e'] at this;exact zhb this
   ·rintro (h' | ⟨h' | h',h''⟩)
    ·exact .inl h'
    ·subst h';exact absurd rfl h''
    ·exact .inr h'
  ·rw [if_neg hb];have hml:(s,m)∈l:=(List.mem_cons.1 hm).resolve_left fun e=>hb (by rw [← e];exact zjl _);have hlt:=h.1 _ hml;rw [if_neg fun h'=>by have:=zf9 s b.1;have h2:ze0 b.1 s<0:=hlt;omega];rw [List.mem_cons,addB_yes hml h.2,List.mem_cons];have hne:b.1≠s:=fun e=>hb (by rw [e];exact zjl _);constructor
   ·rintro (h' | h' | ⟨h',h''⟩)
    ·subst h';exact .inr ⟨.inl rfl,hne⟩
    ·exact .inl h'
    ·exact .inr ⟨.inr h',h''⟩
   ·rintro (h' | ⟨h' | h',h''⟩)
    ·exact .inr (.inl h')
    ·exact .inl h'
    ·exact .inr (.inr ⟨h',h''⟩)
theorem Can.add {f:List SItem→Nat} {B:List SBranch} (h:Can f B) (s:List SItem) {n:Nat} (h1:n≠0):Can (fun t=>f t+if t=s then n else 0) (zmq s (sat n) B):=by
 refine ⟨addB_srt h.srt,fun t m=>?_⟩
 by_cases hs:f s=0
 ·rw [addB_no (fun b hb e=>by have:=(h.many hb).2.1;rw [e] at this;exact this hs) h.srt,h.mem,Prod.mk.injEq]
  by_cases ht:t=s
  ·subst ht;simp [hs,h1]
  ·simp [ht]
 ·rw [addB_yes ((h.mem s _).2 ⟨hs,rfl⟩) h.srt,h.mem,Prod.mk.injEq]
  by_cases ht:t=s
  ·subst ht;simp only [true_and,if_true,ne_eq,not_true_eq_false,and_false,or_false];have:min 2 (sat (f t)+sat n)=sat (f t+n):=by unfold sat;omega
   rw [this];exact ⟨fun e=>⟨by omega,e⟩,fun e=>e.2⟩
  ·simp [ht]
theorem Can.add1 {L:List (List SItem)} {B:List SBranch} (h:Can (fun t=>L.count t) B) (s:List SItem):Can (fun t=>(L++[s]).count t) (zmq s 1 B):=by
 refine (h.add s (n:=1) (by omega)).congr fun t=>?_;simp only [List.count_append,List.count_singleton,beq_iff_eq]
 by_cases ht:t=s
 ·subst ht;simp
 ·simp [ht,Ne.symm ht]
theorem zii {α:Type} [DecidableEq α]:∀{l U:List α},l.Nodup→(∀t∈l,t∈U)→l.length≤U.length
 | [],_,_,_=>Nat.zero_le _
 | x::l,U,hn,h=>by
  rw [List.nodup_cons] at hn;have hx:=h x (by simp);have:=zii (l:=l) (U:=U.erase x) hn.2 fun t ht=>(List.mem_erase_of_ne (fun e=>hn.1 (by rw [← e];exact ht))).2 (h t (by simp [ht]));rw [List.length_erase_of_mem hx] at this;have:=List.length_pos_of_mem hx;simp only [List.length_cons];omega
theorem zop {f:List SItem→Nat} {B:List SBranch} (h:Can f B) {U:List (List SItem)} (hU:∀t,f t≠0→t∈U):B.length≤U.length:=by
 have:(B.map (·.1)).length≤U.length:=zii h.nodup fun t ht=>hU t ((h.keys t).1 ht);simpa using this
theorem cmp_in {x y:Int}:zc8 x y (sgnI x y):=by
 refine ⟨false,by simp [zer],false,by simp [zer],(fun h=>by cases h),fun _=>⟨(fun h=>by cases h),fun _=>⟨fun h=>?_,fun h=>⟨fun h2=>?_,fun h2=>?_⟩⟩⟩⟩
 ·unfold sgnI;rw [if_pos (dt h)]
 ·unfold sgnI;rw [if_neg (df h),if_pos (dt h2)]
 ·unfold sgnI;rw [if_neg (df h),if_neg (df h2)]
theorem or_in {l:List Int} (hl:l.length<1000000):zc4 l (zsa l):=by
 refine zgf (P:=fun k (_:Unit) v=>zc4.l1 l (zsa l) _ k v) l.length (fun i _=>zsa l=zsa (l.drop i)) ?_ ?_ () (by simp)
 ·intro i _ hi h;have hat:at? l (i:Int)=some l[i]:=by rw [zb2];simp [hi]
  rw [List.drop_eq_getElem_cons hi] at h
  by_cases hz:l[i]=0
  ·rw [zsa,if_neg (by simpa using hz)] at h;exact .inr ⟨(),h,fun k hk=>⟨fun _=>⟨_,hat,fun hb=>by simp [hz] at hb,fun _=>⟨zj (by omega) (by omega),hk⟩⟩,fun h=>absurd (by omega) (df h)⟩⟩
  ·rw [zsa,if_pos hz] at h;exact .inl fun k=>⟨fun _=>⟨_,hat,fun _=>h,fun hb=>by simp at hb;exact absurd hb hz⟩,fun h=>absurd (by omega) (df h)⟩
 ·intro _ h k;refine ⟨fun h=>absurd (dt h) (by omega),fun _=>?_⟩;rw [List.drop_length] at h;exact h
theorem cmp1_in {x y:SItem}:zdv x y (zib (zdk x) (zdk y)):=by
 rw [← cmpItem_lex];exact ⟨_,cmp_in,_,cmp_in,_,cmp_in,_,cmp_in,_,or_in (by simp),rfl⟩
theorem cmpFunc_in {a b:List SItem} (hl:a.length=b.length) (hs:a.length≤1000):zf a b (fun q_=>zdv q_.1 q_.2.1 q_.2.2) (zib (zez a) (zez b)):=by
 refine zgf (P:=fun k (_:Unit) v=>zf.l1 a b (fun q_=>zdv q_.1 q_.2.1 q_.2.2) (zib (zez a) (zez b)) _ k v) a.length (fun i _=>zib (zez a) (zez b)=zib (zez (a.drop i)) (zez (b.drop i))) ?_ ?_ () (by simp)
 ·intro i _ hi h;have ha:at? a (i:Int)=some a[i]:=by rw [zb2];simp [hi]
  have hb:at? b (i:Int)=some (b[i]'(by omega)):=by rw [zb2];simp [show i<b.length by omega]
  rw [List.drop_eq_getElem_cons hi,List.drop_eq_getElem_cons (show i<b.length by omega),zfp,zfp,lexI_app (by simp [zdk])] at h
  by_cases hz:zib (zdk a[i]) (zdk (b[i]'(by omega)))=0
  ·rw [if_neg (by simpa using hz)] at h;refine .inr ⟨(),h,fun k hk=>⟨fun _=>⟨_,ha,fun h2=>absurd (dt h2) (by omega),fun _=>⟨_,hb,zib (zdk a[i]) (zdk (b[i]'(by omega))),cmp1_in,fun h3=>?_,fun _=>⟨zj (by omega) (by omega),hk⟩⟩⟩,fun h=>absurd (by omega) (df h)⟩⟩;rw [hz] at h3;simp at h3
  ·rw [if_pos hz] at h;refine .inl fun k=>⟨fun _=>⟨_,ha,fun h2=>absurd (dt h2) (by omega),fun _=>⟨_,hb,zib (zdk a[i]) (zdk (b[i]'(by omega))),cmp1_in,fun _=>h,fun h3=>?_⟩⟩,fun h=>absurd (by omega) (df h)⟩;simp at h3;exact absurd h3 hz
 ·intro _ h k;refine ⟨fun h=>absurd (dt h) (by omega),fun _=>⟨fun h2=>absurd (dt h2) (by omega),fun _=>?_⟩⟩;rw [h,List.drop_length];exact zd6 _
theorem zgx {a b:List SItem} (hs:a.length≤1000):zf7 a b (ze0 a b):=by
 have e:ze0 a b=if sgnI (a.length:Int) (b.length:Int)≠0 then sgnI (a.length:Int) (b.length:Int) else zib (zez a) (zez b):=by unfold ze0 numsL;rw [zof]
 refine ⟨_,cmp_in,fun h=>?_,fun h=>?_⟩
 ·rw [e,if_pos (by simpa using h)]
 ·have h0:sgnI (a.length:Int) (b.length:Int)=0:=by simpa using h
  have hl:a.length=b.length:=by
   unfold sgnI at h0
   by_cases h1:(a.length:Int)<(b.length:Int)
   ·rw [if_pos h1] at h0;cases h0
   ·by_cases h2:(b.length:Int)<(a.length:Int)
    ·rw [if_neg h1,if_pos h2] at h0;cases h0
    ·omega
  refine ⟨_,cmpFunc_in hl hs, ?_⟩;rw [e,if_neg (by simpa using h0)]
theorem numsS_snoc (s:List SItem) (x:SItem):zez (s++[x])=zez s++zdk x:=by simp [zez]
theorem ziv {s:List SItem} (hs:s.length≤1000):zbv s (numsL s):=by
 refine zgf (P:=fun k (t:List Int) v=>zbv.l1 s _ k t v) s.length (fun i t=>t=(s.length:Int)::zez (s.take i)) ?_ ?_ _ (by simp [zez])
 ·rintro i t hi rfl;have hat:at? s (i:Int)=some s[i]:=by rw [zb2];simp [hi]
  have hl:=zd5 (s.take i);simp only [List.length_take] at hl;refine .inr ⟨_,rfl,fun k h=>⟨fun _=>⟨_,hat,_,hat,_,hat,_,hat,by simp only [List.length_cons,List.length_nil];omega,zj (by omega) (by omega), ?_⟩,fun h=>absurd (by omega) (df h)⟩⟩;rw [List.take_succ_eq_append_getElem hi,numsS_snoc] at h;exact h
 ·rintro t rfl k;refine ⟨fun h=>absurd (dt h) (by omega),fun _=>?_⟩;rw [List.take_length];rfl
theorem zix {a b:List SItem} (ha:a.length≤1000) (hb:b.length≤1000):zbp a b (ze0 a b):=by
 refine ⟨_,ziv ha,_,ziv hb, ?_⟩;have la:(numsL a).length≤4001:=by unfold numsL;rw [List.length_cons,zd5];omega
 show ∃k,zbp.l1 (numsL a) (numsL b) (ze0 a b) (zbp.j1 (ze0 a b)) k 0;unfold ze0;generalize numsL a=X at *;generalize numsL b=Y at *;refine zgf (P:=fun k (_:Unit) v=>zbp.l1 X Y (zib X Y) _ k v) (min X.length Y.length) (fun i _=>zib X Y=zib (X.drop i) (Y.drop i)) ?_ ?_ () (by simp)
 ·intro i _ hi h;have hx:i<X.length:=by omega
  have hy:i<Y.length:=by omega
  have hax:at? X (i:Int)=some X[i]:=by rw [zb2];simp [hx]
  have hay:at? Y (i:Int)=some Y[i]:=by rw [zb2];simp [hy]
  have hb:(true:Bool)=((decide ((i:Int)<(X.length:Int)))&&(decide ((i:Int)<(Y.length:Int)))):=by simp;omega
  rw [List.drop_eq_getElem_cons hx,List.drop_eq_getElem_cons hy,zib] at h
  by_cases h1:X[i] < Y[i]
  ·rw [if_pos h1] at h;exact .inl fun k=>⟨true,hb,fun _=>⟨_,hax,_,hay,fun _=>h,fun h2=>absurd h1 (df h2)⟩,(fun h=>by cases h)⟩
  ·by_cases h2:Y[i] < X[i]
   ·rw [if_neg h1,if_pos h2] at h;exact .inl fun k=>⟨true,hb,fun _=>⟨_,hax,_,hay,fun h3=>absurd (dt h3) h1,fun _=>⟨_,hax,_,hay,fun _=>h,fun h3=>absurd h2 (df h3)⟩⟩,(fun h=>by cases h)⟩
   ·rw [if_neg h1,if_neg h2] at h;exact .inr ⟨(),h,fun k hk=>⟨true,hb,fun _=>⟨_,hax,_,hay,fun h3=>absurd (dt h3) h1,fun _=>⟨_,hax,_,hay,fun h3=>absurd (dt h3) h2,fun _=>⟨zj (by omega) (by omega),hk⟩⟩⟩,(fun h=>by cases h)⟩⟩
 ·intro _ h k;refine ⟨false,by simp;omega,(fun h=>by cases h),fun _=>?_⟩;show zib X Y=0;rw [h];rcases Nat.le_total X.length Y.length with hle | hle
  ·rw [Nat.min_eq_left hle,List.drop_length];exact zd6 _
  ·rw [Nat.min_eq_right hle,List.drop_length];exact zhl _
theorem zq9 {a b:List SItem} (ha:a.length≤1000) (hb:b.length≤1000):zjv a b (decide (a=b)):=by
 refine ⟨_,zix ha hb, ?_⟩;rw [Bool.eq_iff_iff,decide_eq_true_iff,beq_iff_eq,zd9]
def ItR (x:SItem):Prop:=InR .i64 x.1∧InR .i64 x.2.1∧InR .i64 x.2.2.1∧InR .i64 x.2.2.2
theorem clone_in {s:List SItem} (hs:s.length≤1000):zcc s s:=fun b hb=>⟨fun h=>hb h,fun _=>⟨by simp;omega,by simp⟩⟩
theorem znh {s:List SItem} {i:Nat} (hi:i<s.length):(s.take (i+1)).any zlz=((s.take i).any zlz||zlz s[i]):=by
 rw [List.take_succ_eq_append_getElem hi,List.any_append];simp
theorem any_of {s:List SItem} {i:Nat} (hi:i<s.length) (h:zlz s[i]=true):s.any zlz=true:=List.any_eq_true.2 ⟨_,List.getElem_mem hi,h⟩
theorem zog {s:List SItem} (hs:s.length≤1000):zln s (keyS s):=⟨hs,rfl⟩
theorem at0 {α:Type} (x:α) (l:List α):at? (x::l) 0=some x:=rfl
theorem zqc {a b:List SItem} (ha:a.length≤100000) (hb:b.length≤100000):zg [a,b] (a++b):=by
 refine ⟨3,⟨fun _=>⟨a,rfl,zj (by omega) (by omega),fun h=>absurd (dt h) (by omega),fun _=>⟨zj (by omega) (by omega), ?_⟩⟩,fun h=>absurd h (by simp)⟩⟩;refine ⟨fun _=>⟨b,rfl,zj (by omega) (by omega),fun h=>absurd (dt h) (by omega),fun _=>⟨zj (by omega) (by omega), ?_⟩⟩,fun h=>absurd h (by simp)⟩;refine ⟨fun h=>absurd h (by simp),fun _=>?_⟩;refine ⟨[],⟨by omega,by omega,rfl⟩,3, ?_⟩;refine ⟨fun _=>⟨a,rfl,by simp;omega,zj (by omega) (by omega), ?_⟩,fun h=>absurd h (by simp)⟩;refine ⟨fun _=>⟨b,rfl,by simp;omega,zj (by omega) (by omega), ?_⟩,fun h=>absurd h (by simp)⟩;refine ⟨fun h=>absurd h (by simp),fun _=>?_⟩;show a++b=[]++a++b;simp
theorem with_in {rest list:List SItem} (ha:list.length≤100000) (hb:rest.length≤100000):zcy rest list (list++rest):=⟨_,zqc ha hb,rfl⟩
theorem zsg {rest list:List SItem} (ha:list.length≤100000) (hb:rest.length≤100000):zb8 list rest (list++rest):=⟨by simp;omega,by simp;omega,by simp⟩
theorem zd1 {d:List SNode} {x:SItem} {s:List SItem} (h:zeh d (x::s)=true):ze7 d x=true∧zeh d s=true:=by simpa [zeh] using h
theorem zf8 {d:List SNode} {x:SItem} (h:ze7 d x=true) (h5:x.1≠5):∃n,at? d x.2.1=some n∧(x.1=1∨(x.1=2∧n.1=7)∨(x.1=3∧n.1=3)∨(x.1=4∧n.1=9)):=by
 unfold ze7 at h;rw [if_neg h5] at h;cases hn:at? d x.2.1 with
 | none=>rw [hn] at h;cases h
 | some n=>
  rw [hn] at h;refine ⟨n,rfl, ?_⟩;simp only at h
  by_cases h1:x.1=1
  ·exact .inl h1
  ·rw [if_neg h1] at h
   by_cases h2:x.1=2
   ·rw [if_pos h2] at h;simp at h;exact .inr (.inl ⟨h2,h.1.1.1⟩)
   ·rw [if_neg h2] at h
    by_cases h3:x.1=3
    ·rw [if_pos h3] at h;simp at h;exact .inr (.inr (.inl ⟨h3,h.1.1.1⟩))
    ·rw [if_neg h3] at h
     by_cases h4:x.1=4
     ·rw [if_pos h4] at h;simp at h;exact .inr (.inr (.inr ⟨h4,h.1.1.1⟩))
     ·rw [if_neg h4] at h;cases h
theorem kinds9 {k:Int} (h:1≤k∧k≤9):k=1∨k=2∨k=3∨k=4∨k=5∨k=6∨k=7∨k=8∨k=9:=by omega
theorem zpj {d:List SNode} (hd:ROk d) {s:List SItem} (hf:zeh d s=true):zkq d s (rdy d s):=by
 cases s with
 | nil=>exact ⟨fun _=>rfl,fun h=>absurd h (by simp)⟩
 | cons x s=>
  refine ⟨fun h=>absurd h (by simp;omega),fun _=>⟨x,at0 x s,fun h1=>?_,fun h1=>⟨fun h3=>⟨fun _=>by simp only [rdy,h3,Bool.true_or],fun h=>absurd h3 (by rw [h];simp)⟩,fun h3=>⟨fun h4=>by simp only [rdy,h4,Bool.true_or,Bool.or_true],fun h4=>by simp only [rdy,h1,h3,h4,Bool.false_and,Bool.or_false]⟩⟩⟩⟩;have e1:x.1=1:=by simpa using h1
  obtain ⟨n,hn,_⟩:=zf8 (zd1 hf).1 (by omega);have hk:=hd.kind _ n hn;refine ⟨n,hn,(n.1==2||n.1==8||n.1==9),fun _=>?_, ?_⟩
  ·rcases kinds9 hk with e | e | e | e | e | e | e | e | e <;> rw [e] <;> rfl
  ·simp only [rdy,hn,e1];have:decide (n.1<10)=true:=by simp;omega
   rw [this];simp
theorem zkd {d:List SNode} {s:List SItem} (hf:zeh d s=true) (hd0:∃n,at? d 0=some n):zig d s (rdy d s):=by
 cases s with
 | nil=>exact ⟨(0,0,0,0),fun h=>absurd h (by simp),(0,0,0,0),fun h=>absurd h (by simp),true,by simp,fun _=>rfl,fun h=>by cases h⟩
 | cons x s=>
  refine ⟨x,fun _=>at0 x s,x,fun _=>at0 x s,_,rfl,fun h=>?_,fun h=>?_⟩
  ·simp only [List.length_cons,Bool.or_eq_true,beq_iff_eq] at h;have:x.1=3∨x.1=4:=by omega
   rcases this with e | e <;> simp [rdy,e]
  ·simp only [List.length_cons,Bool.or_eq_false_iff] at h;have hnode:∃n,at? d x.2.1=some n:=by
    by_cases h5:x.1=5
    ·have:=(zd1 hf).1;unfold ze7 at this;rw [if_pos h5] at this;simp at this;rw [this.1.1];exact hd0
    ·obtain ⟨n,hn,_⟩:=zf8 (zd1 hf).1 h5;exact ⟨n,hn⟩
   obtain ⟨n,hn⟩:=hnode;refine ⟨x,at0 x s,n,hn,x,at0 x s,_,rfl, ?_⟩;simp only [rdy,hn,h.1.2,h.2,Bool.false_or]
theorem opn_len {d:List SNode} (s:List SItem):(opn d s).length≤2:=by
 cases s with
 | nil=>simp [opn]
 | cons x s=>
  simp only [opn]
  by_cases h5:x.1=5
  ·rw [if_pos h5];split <;> simp
  ·rw [if_neg h5];cases at? d x.2.1 with
   | none=>simp
   | some n=>
    simp only
    by_cases h2:x.1=2
    ·rw [if_pos h2];split <;> split <;> simp
    ·rw [if_neg h2]
     by_cases h1:n.1=1
     ·simp [h1]
     ·by_cases h3:n.1=3
      ·simp [h3]
      ·by_cases h4:n.1=4
       ·simp [h4]
       ·by_cases h5:n.1=5
        ·simp [h5]
        ·by_cases h6:n.1=6
         ·simp [h6]
         ·simp [h1,h3,h4,h5,h6]
theorem zr9 {d:List SNode} (hd:ROk d) {s:List SItem} (hf:zeh d s=true) (hr:rdy d s=false) (hl:s.length≤10000) (hd0:∃n,at? d 0=some n):zda d s (opn d s):=by
 cases s with
 | nil=>simp [rdy] at hr
 | cons x s=>
  simp only [List.length_cons] at hl;have hdrop:(x::s).drop (1:Int).toNat=s:=rfl;have w0:zcy s [] s:=with_in (by simp) (by omega);have wl:∀l:List SItem,l.length≤2→zcy s l (l++s):=fun l h=>with_in (by omega) (by omega);have hx:=(zd1 hf).1
  by_cases h5:x.1=5
  ·obtain ⟨n0,hn0⟩:=hd0;have hx':=hx;unfold ze7 at hx';rw [if_pos h5] at hx';simp at hx';refine ⟨x,at0 x s,⟨by omega,by simp;omega⟩,n0,by rw [hx'.1.1];exact hn0,fun h=>⟨s,w0, ?_⟩,fun h=>⟨fun _=>?_,fun h'=>absurd h' (by simp [h5])⟩⟩
   ·simp at h;simp [opn,h5,h.2]
   ·simp [h5] at h;simp [opn,h5,h]
  ·obtain ⟨n,hn,hk⟩:=zf8 hx h5;refine ⟨x,at0 x s,⟨by omega,by simp;omega⟩,n,hn,fun h=>absurd h (by simp [h5]),fun _=>⟨fun h=>absurd h (by simp [h5]),fun _=>⟨fun h2=>?_,fun h2=>?_⟩⟩⟩
   ·have e2:x.1=2:=by simpa using h2
    have hlo:0≤x.2.2.1∧x.2.2.1≤x.2.2.2∧x.2.2.2≤255:=by
     have hx':=hx;unfold ze7 at hx';rw [if_neg h5,hn] at hx';simp [e2] at hx';have:=hd.rep _ n hn hx'.1.1.1;omega
    have hj:∀out:List (List SItem),out.length≤1→∀r,r=out++(if 0<x.2.2.2 then [(1,n.2.1,0,0)::(2,x.2.1,max (x.2.2.1-1) 0,x.2.2.2-1)::s] else [])→zda.j2 (x::s) r x n out:=by
     intro out hout r hrr;refine ⟨fun h=>⟨(1,n.2.1,0,0),rfl,zj (by omega) (by omega),zj (by omega) (by omega),_,wl _ (by simp),by simp;omega, ?_⟩,fun h=>?_⟩
     ·have:0<x.2.2.2:=dt h;show r=_;rw [hrr,if_pos this,e2];rfl
     ·have:¬ 0<x.2.2.2:=df h;show r=_;rw [hrr,if_neg this,List.append_nil]
    refine ⟨fun h=>⟨s,w0,by simp,hj _ (by simp) _ ?_⟩,fun h=>hj _ (by simp) _ ?_⟩
    ·have e0:x.2.2.1=0:=by simpa using h
     simp [opn,hn,e2,e0]
    ·have e0:¬ x.2.2.1=0:=by simpa using h
     simp [opn,hn,e2,e0]
   ·have e2:¬ x.1=2:=by simpa using h2
    have e1:x.1=1:=by
     rcases hk with h | ⟨h,_⟩ | ⟨h,_⟩ | ⟨h,_⟩
     ·exact h
     ·exact absurd h e2
     ·simp [rdy,h] at hr
     ·simp [rdy,h] at hr
    refine ⟨fun h=>⟨s,w0, ?_⟩,fun k1=>⟨fun h=>⟨_,wl _ (by simp), ?_⟩,fun k3=>⟨fun h=>⟨_,rfl,_,rfl,_,wl _ (by simp), ?_⟩,fun k4=>⟨fun h=>⟨_,rfl,_,wl _ (by simp),_,rfl,_,wl _ (by simp), ?_⟩,fun k5=>⟨fun h=>⟨s,w0,_,rfl,_,wl _ (by simp), ?_⟩,fun k6=>⟨_,wl _ (by simp), ?_⟩⟩⟩⟩⟩⟩
    all_goals simp only [opn,hn,if_neg h5,if_neg e2]
    all_goals simp_all
theorem zq7 {d:List SNode} (hd:ROk d) {s:List SItem} (hf:zeh d s=true) (hr:rdy d s=false) (hl:s.length≤10000) (hd0:∃n,at? d 0=some n):zb7 d s (opn d s):=by
 cases s with
 | nil=>simp [rdy] at hr
 | cons x s=>
  simp only [List.length_cons] at hl;have w0:zb8 [] s s:=zsg (by simp) (by omega);have wl:∀l:List SItem,l.length≤2→zb8 l s (l++s):=fun l h=>zsg (by omega) (by omega);have hx:=(zd1 hf).1
  by_cases h5:x.1=5
  ·obtain ⟨n0,hn0⟩:=hd0;have hx':=hx;unfold ze7 at hx';rw [if_pos h5] at hx';simp at hx';refine ⟨x,at0 x s,⟨by omega,by simp;omega⟩,n0,by rw [hx'.1.1];exact hn0,fun _=>⟨fun h=>⟨s,w0,by simp, ?_⟩,fun h=>?_⟩,fun h=>absurd h (by simp [h5])⟩
   ·simp at h;show opn d (x::s)=_;simp [opn,h5,h]
   ·simp at h;show opn d (x::s)=_;simp [opn,h5,h]
  ·obtain ⟨n,hn,hk⟩:=zf8 hx h5;refine ⟨x,at0 x s,⟨by omega,by simp;omega⟩,n,hn,fun h=>absurd h (by simp [h5]),fun _=>⟨fun h2=>?_,fun h2=>?_⟩⟩
   ·have e2:x.1=2:=by simpa using h2
    have hlo:0≤x.2.2.1∧x.2.2.1≤x.2.2.2∧x.2.2.2≤255:=by
     have hx':=hx;unfold ze7 at hx';rw [if_neg h5,hn] at hx';simp [e2] at hx';have:=hd.rep _ n hn hx'.1.1.1;omega
    have hj:∀out:List (List SItem),out.length≤1→∀r,r=out++(if 0<x.2.2.2 then [(1,n.2.1,0,0)::(2,x.2.1,max (x.2.2.1-1) 0,x.2.2.2-1)::s] else [])→zb7.j3 (x::s) r x n out:=by
     intro out hout r hrr;refine ⟨fun h=>⟨zj (by omega) (by omega),zj (by omega) (by omega),_,wl _ (by simp),by simp;omega, ?_⟩,fun h=>?_⟩
     ·have:0<x.2.2.2:=dt h;show r=_;rw [hrr,if_pos this,Int.max_comm];rfl
     ·have:¬ 0<x.2.2.2:=df h;show r=_;rw [hrr,if_neg this,List.append_nil]
    refine ⟨fun h=>⟨s,w0,by simp,hj _ (by simp) _ ?_⟩,fun h=>hj _ (by simp) _ ?_⟩
    ·have e0:x.2.2.1=0:=by simpa using h
     simp [opn,hn,e2,e0]
    ·have e0:¬ x.2.2.1=0:=by simpa using h
     simp [opn,hn,e2,e0]
   ·have e2:¬ x.1=2:=by simpa using h2
    have e1:x.1=1:=by
     rcases hk with h | ⟨h,_⟩ | ⟨h,_⟩ | ⟨h,_⟩
     ·exact h
     ·exact absurd h e2
     ·simp [rdy,h] at hr
     ·simp [rdy,h] at hr
    have h289:n.1≠2∧n.1≠8∧n.1≠9:=by
     simp only [rdy,hn,e1] at hr;simp at hr;omega
    have hk9:=hd.kind _ n hn;refine ⟨fun h=>⟨s,w0,by simp, ?_⟩,fun k1=>⟨fun h=>⟨_,wl _ (by simp),by simp, ?_⟩,fun k3=>⟨fun h=>⟨_,wl _ (by simp),by simp, ?_⟩,fun k4=>⟨fun h=>⟨_,wl _ (by simp),_,wl _ (by simp),by simp, ?_⟩,fun k5=>⟨fun h=>⟨s,w0,_,wl _ (by simp),by simp, ?_⟩,fun k6=>⟨fun h=>⟨_,wl _ (by simp),by simp, ?_⟩,fun k7=>?_⟩⟩⟩⟩⟩⟩
    ·simp only [opn,hn,if_neg h5,if_neg e2];simp_all
    ·simp only [opn,hn,if_neg h5,if_neg e2];simp_all
    ·simp only [opn,hn,if_neg h5,if_neg e2];simp_all
    ·simp only [opn,hn,if_neg h5,if_neg e2];simp_all
    ·simp only [opn,hn,if_neg h5,if_neg e2];simp_all
    ·simp only [opn,hn,if_neg h5,if_neg e2];simp_all
    ·exfalso;simp at k1 k3 k4 k5 k6 k7;omega
theorem zim {d:List SNode} {a:Int} (h:∃m,at? d a=some m):ze7 d (1,a,0,0)=true:=by
 obtain ⟨m,hm⟩:=h;unfold ze7;simp [hm]
theorem zet {d:List SNode} {i a:Int} {n:SNode} (hn:at? d i=some n) (h0:0≤a) (h1:a<i):∃m,at? d a=some m:=by
 obtain ⟨j,rfl,hj⟩:=zos hn;have:=(List.getElem?_eq_some_iff.1 hj).1;obtain ⟨m,hm,_⟩:=zot (xs:=d) h0 (by omega);exact ⟨m,hm⟩
theorem zb6 {α:Type} {d:List α} {i:Int} {n:α} (hn:at? d i=some n):0≤i∧i<(d.length:Int):=by
 obtain ⟨j,rfl,hj⟩:=zos hn;have:=(List.getElem?_eq_some_iff.1 hj).1;omega
theorem opn_cases {d:List SNode} (hd:ROk d) {x:SItem} {rest:List SItem} (hf:zeh d (x::rest)=true) (hr:rdy d (x::rest)=false) {t:List SItem} (ht:t∈opn d (x::rest)):
  t=rest∨∃n,at? d x.2.1=some n∧x.1≠5∧((∃a,0≤a∧a<x.2.1∧t=(1,a,0,0)::rest)∨(∃a b,0≤a∧a<x.2.1∧0≤b∧b<x.2.1∧t=(1,a,0,0)::(1,b,0,0)::rest)∨(∃a lo hi k,0≤a∧a<x.2.1∧t=(1,a,0,0)::(k,x.2.1,lo,hi)::rest∧ze7 d (k,x.2.1,lo,hi)=true)∨∃k lo hi,t=(k,x.2.1,lo,hi)::rest∧ze7 d (k,x.2.1,lo,hi)=true):=by
 have hx:=(zd1 hf).1
 by_cases h5:x.1=5
 ·simp only [opn] at ht;rw [if_pos h5] at ht;split at ht
  ·exact .inl (List.mem_singleton.1 ht)
  ·cases ht
 ·obtain ⟨n,hn,hk⟩:=zf8 hx h5;simp only [opn,hn] at ht;rw [if_neg h5] at ht
  by_cases h2:x.1=2
  ·rw [if_pos h2] at ht;have hx':=hx;unfold ze7 at hx';rw [if_neg h5,hn] at hx';simp [h2] at hx';obtain ⟨a0,a1⟩:=hd.one _ n hn (.inr (.inl hx'.1.1.1));rcases List.mem_append.1 ht with ht | ht
   ·split at ht
    ·exact .inl (List.mem_singleton.1 ht)
    ·cases ht
   ·split at ht
    ·rename_i hpos
     refine .inr ⟨n,hn,h5,.inr (.inr (.inl ⟨n.2.1,_,_,2,a0,a1,List.mem_singleton.1 ht, ?_⟩))⟩;unfold ze7;simp [hn,hx'.1.1.1];omega
    ·cases ht
  ·rw [if_neg h2] at ht;have e1:x.1=1:=by
    rcases hk with h | ⟨h,_⟩ | ⟨h,_⟩ | ⟨h,_⟩
    ·exact h
    ·exact absurd h h2
    ·simp [rdy,h] at hr
    ·simp [rdy,h] at hr
   have h289:n.1≠2∧n.1≠8∧n.1≠9:=by
    simp only [rdy,hn,e1] at hr;simp at hr;omega
   by_cases k1:n.1=1
   ·rw [if_pos k1] at ht;exact .inl (List.mem_singleton.1 ht)
   ·rw [if_neg k1] at ht
    by_cases k3:n.1=3
    ·rw [if_pos k3] at ht;refine .inr ⟨n,hn,h5,.inr (.inr (.inr ⟨3,0,0,List.mem_singleton.1 ht, ?_⟩))⟩;have:=hd.ntx _ n hn k3;unfold ze7;simp [hn,k3];exact List.length_pos_iff.2 this
    ·rw [if_neg k3] at ht
     by_cases k4:n.1=4
     ·rw [if_pos k4] at ht;obtain ⟨⟨a,b⟩,c,e⟩:=hd.two _ n hn (.inl k4);exact .inr ⟨n,hn,h5,.inr (.inl ⟨_,_,a,b,c,e,List.mem_singleton.1 ht⟩)⟩
     ·rw [if_neg k4] at ht
      by_cases k5:n.1=5
      ·rw [if_pos k5] at ht;obtain ⟨⟨a,b⟩,c,e⟩:=hd.two _ n hn (.inr k5);simp only [List.mem_cons,List.not_mem_nil,or_false] at ht;rcases ht with ht | ht
       ·exact .inr ⟨n,hn,h5,.inl ⟨_,a,b,ht⟩⟩
       ·exact .inr ⟨n,hn,h5,.inl ⟨_,c,e,ht⟩⟩
      ·rw [if_neg k5] at ht
       by_cases k6:n.1=6
       ·rw [if_pos k6] at ht;obtain ⟨a,b⟩:=hd.one _ n hn (.inl k6);simp only [List.mem_cons,List.not_mem_nil,or_false] at ht;rcases ht with ht | ht
        ·exact .inl ht
        ·obtain ⟨xk,xi,xl,xh⟩:=x;exact .inr ⟨n,hn,h5,.inr (.inr (.inl ⟨_,xl,xh,xk,a,b,ht,hx⟩))⟩
       ·rw [if_neg k6] at ht;have k7:n.1=7:=by have:=hd.kind _ n hn;omega
        refine .inr ⟨n,hn,h5,.inr (.inr (.inr ⟨2,_,_,List.mem_singleton.1 ht, ?_⟩))⟩;obtain ⟨b0,b1,b2⟩:=hd.rep _ n hn k7;unfold ze7;simp [hn,k7,b0,b1]
theorem zft {d:List SNode} {x:SItem} {s:List SItem} (h:ze7 d x=true) (k:zeh d s=true):zeh d (x::s)=true:=by
 simp only [zeh,List.all_cons,Bool.and_eq_true];exact ⟨h,k⟩
theorem form_opn {d:List SNode} (hd:ROk d) {s:List SItem} (hf:zeh d s=true) (hr:rdy d s=false):∀t∈opn d s,zeh d t=true:=by
 intro t ht;cases s with
 | nil=>simp [opn] at ht
 | cons x rest=>
  have hrest:=(zd1 hf).2;rcases opn_cases hd hf hr ht with rfl | ⟨n,hn,h5,h⟩
  ·exact hrest
  ·rcases h with ⟨a,h0,h1,rfl⟩ | ⟨a,b,h0,h1,h2,h3,rfl⟩ | ⟨a,lo,hi,k,h0,h1,rfl,h2⟩ | ⟨k,lo,hi,rfl,h2⟩
   ·exact zft (zim (zet hn h0 h1)) hrest
   ·exact zft (zim (zet hn h0 h1)) (zft (zim (zet hn h2 h3)) hrest)
   ·exact zft (zim (zet hn h0 h1)) (zft h2 hrest)
   ·exact zft h2 hrest
def SufI (D:Nat):List SItem→Prop
 | []=>True
 | x::u=>(u.length:Int)+1+x.2.1≤(D:Int)∧0≤x.2.1∧SufI D u
theorem SufI.len {D:Nat}:∀{u:List SItem},SufI D u→u.length≤D
 | [],_=>Nat.zero_le _
 | x::u,h=>by
  have h1:=h.1;have h2:=h.2.1;simp only [List.length_cons];omega
structure Vs (d:List SNode) (n0:Nat) (t:List SItem):Prop where
 form:zeh d t=true
 cut:∃u v,t=u++v∧SufI d.length u∧v.length≤n0
theorem Vs.len {d:List SNode} {n0:Nat} {t:List SItem} (h:Vs d n0 t):t.length≤n0+d.length:=by
 obtain ⟨u,v,rfl,h1,h2⟩:=h.cut;have:=h1.len;simp;omega
theorem Vs.start {d:List SNode} {s:List SItem} {n0:Nat} (hf:zeh d s=true) (h:s.length≤n0):Vs d n0 s:=⟨hf,[],s,rfl,trivial,h⟩
theorem Vs.opn {d:List SNode} (hd:ROk d) {n0:Nat} {s:List SItem} (h:Vs d n0 s) (hr:rdy d s=false):∀t∈opn d s,Vs d n0 t:=by
 intro t ht;refine ⟨form_opn hd h.form hr t ht, ?_⟩;obtain ⟨u,v,hs,h1,h2⟩:=h.cut;cases s with
 | nil=>simp [V.opn] at ht
 | cons x rest=>
  have key:∃u' v',rest=u'++v'∧SufI d.length u'∧v'.length≤n0∧(x.1≠5→(u'.length:Int)+1+x.2.1≤(d.length:Int)∧0≤x.2.1):=by
   cases u with
   | nil=>
    simp at hs;refine ⟨[],rest,rfl,trivial,by rw [← hs] at h2;simp at h2;omega,fun h5=>?_⟩;obtain ⟨n,hn,_⟩:=zf8 (zd1 h.form).1 h5;have:=zb6 hn;simp;omega
   | cons y u'=>
    simp at hs;obtain ⟨e1,e2⟩:=hs;subst e1;exact ⟨u',v,e2,h1.2.2,h2,fun _=>⟨h1.1,h1.2.1⟩⟩
  obtain ⟨u',v',rfl,k1,k2,k3⟩:=key;rcases opn_cases hd h.form hr ht with rfl | ⟨n,hn,h5,hc⟩
  ·exact ⟨u',v',rfl,k1,k2⟩
  ·obtain ⟨k4,k5⟩:=k3 h5;rcases hc with ⟨a,h0,h1,rfl⟩ | ⟨a,b,h0,h1,h2,h3,rfl⟩ | ⟨a,lo,hi,k,h0,h1,rfl,h2⟩ | ⟨k,lo,hi,rfl,h2⟩
   ·exact ⟨(1,a,0,0)::u',v',rfl,⟨by simp only;omega,h0,k1⟩,k2⟩
   ·exact ⟨(1,a,0,0)::(1,b,0,0)::u',v',rfl,⟨by simp only [List.length_cons];omega,h0,by simp only;omega,h2,k1⟩,k2⟩
   ·exact ⟨(1,a,0,0)::(k,x.2.1,lo,hi)::u',v',rfl,⟨by simp only [List.length_cons];omega,h0,by simp only;omega,k5,k1⟩,k2⟩
   ·exact ⟨(k,x.2.1,lo,hi)::u',v',rfl,⟨by simp only;omega,k5,k1⟩,k2⟩
section
variable {κ ν : Type} [DecidableEq κ]
theorem zrt {xs:List (κ × ν)} {k:κ} {v:ν} {p:κ × ν}:p∈zf5 xs k v↔p=(k,v)∨(p.1≠k∧p∈xs):=by
 unfold zf5;cases h:zh2 xs k
 ·rw [cond_false,List.mem_append,List.mem_singleton];constructor
  ·rintro (hp | hp)
   ·exact .inr ⟨fun e=>(by have:=zfe.2 ⟨p,hp,e⟩;rw [h] at this;cases this),hp⟩
   ·exact .inl hp
  ·rintro (hp | hp)
   ·exact .inr hp
   ·exact .inl hp.2
 ·rw [cond_true,List.mem_map];constructor
  ·rintro ⟨q,hq,e⟩
   by_cases hk:q.1=k
   ·simp [hk] at e;exact .inl e.symm
   ·have:(q.1==k)=false:=by simpa using hk
    rw [this] at e;simp at e;subst e;exact .inr ⟨hk,hq⟩
  ·rintro (hp | ⟨hk,hp⟩)
   ·obtain ⟨q,hq,e⟩:=zfe.1 h;exact ⟨q,hq,by simp [e,hp]⟩
   ·have:(p.1==k)=false:=by simpa using hk
    exact ⟨p,hp,by simp [this]⟩
theorem mput_kn {xs:List (κ × ν)} (hn:KN xs) (k:κ) (v:ν):KN (zf5 xs k v):=by
 unfold zf5 KN;cases h:zh2 xs k
 ·rw [cond_false,List.map_append,List.nodup_append];refine ⟨hn,by simp,fun a ha b hb=>?_⟩;simp at hb;subst hb;intro e;subst e;obtain ⟨p,hp,e⟩:=List.mem_map.1 ha;have:=zfe.2 ⟨p,hp,e⟩;rw [h] at this;cases this
 ·rw [cond_true,List.map_map];have:(xs.map ((fun x=>x.1) ∘ fun p=>bif p.1==k then (k,v) else p))=xs.map (·.1):=by
   apply List.map_congr_left;intro p _;simp only [Function.comp]
   by_cases hk:p.1=k
   ·simp [hk]
   ·have:(p.1==k)=false:=by simpa using hk
    rw [this];rfl
  rw [this];exact hn
theorem mget_in {xs:List (κ × ν)} {k:κ} (h:zh2 xs k=true) (z:ν):(k,zel xs k z)∈xs:=by
 unfold zel;cases hf:xs.find? (fun p=>p.1==k) with
 | none=>
  obtain ⟨p,hp,e⟩:=zfe.1 h;have:=List.find?_eq_none.1 hf p hp;simp [e] at this
 | some q=>
  have h1:=List.find?_some hf;have h2:=List.mem_of_find?_eq_some hf;have e:q.1=k:=by simpa using h1
  rw [← e];exact h2
end
structure zl6 (f:List SItem→Nat) (m:List (Str × SBranch)):Prop where
 kn:KN m
 mem:∀k b,(k,b)∈m↔k=keyS b.1∧f b.1≠0∧b.2=sat (f b.1)
theorem zl6.nil:zl6 (fun _=>0) []:=⟨List.nodup_nil,by simp⟩
theorem zl6.congr {f g:List SItem→Nat} {m} (h:zl6 f m) (e:∀t,sat (f t)=sat (g t)):zl6 g m:=⟨h.kn,fun k b=>by rw [h.mem,sat_ne (e b.1),e b.1]⟩
theorem zl6.get {f:List SItem→Nat} {m} (h:zl6 f m) (u:List SItem):(zel m (keyS u) (([],0):SBranch)).2=sat (f u):=by
 by_cases hu:f u=0
 ·rw [zh3 fun p hp e=>?_]
  ·rw [hu];rfl
  ·obtain ⟨k,b⟩:=p;obtain ⟨h1,h2,_⟩:=(h.mem k b).1 hp;simp only at e;rw [e] at h1;rw [zgj.1 h1] at hu;exact h2 hu
 ·have hm:=(h.mem (keyS u) (u,sat (f u))).2 ⟨rfl,hu,rfl⟩;have:=znb h.kn hm (([],0):SBranch);simp only at this;rw [this]
theorem zl6.put {f:List SItem→Nat} {m} (h:zl6 f m) (u:List SItem) {n:Nat} (hn:n≠0):zl6 (fun t=>f t+if t=u then n else 0) (zf5 m (keyS u) (u,min ((zel m (keyS u) (([],0):SBranch)).2+sat n) 2)):=by
 refine ⟨mput_kn h.kn _ _,fun k b=>?_⟩;rw [zrt,h.get,h.mem];have e:min (sat (f u)+sat n) 2=sat (f u+n):=by unfold sat;omega
 rw [e]
 by_cases hb:b.1=u
 ·subst hb;simp only [if_true,Prod.mk.injEq];constructor
  ·rintro (⟨h1,h2⟩ | ⟨h1,h2,_⟩)
   ·exact ⟨h1,by omega,by rw [h2]⟩
   ·exact absurd h2 h1
  ·rintro ⟨h1,_,h2⟩;exact .inl ⟨h1,by rw [← h2]⟩
 ·simp only [if_neg hb,Nat.add_zero,Prod.mk.injEq];constructor
  ·rintro (⟨h1,h2⟩ | ⟨h1,h2⟩)
   ·rw [h2] at hb;exact absurd rfl hb
   ·exact h2
  ·rintro ⟨h1,h2⟩;exact .inr ⟨fun e=>hb (zgj.1 (h1.symm.trans e)),h1,h2⟩
theorem zl6.one (s:List SItem):zl6 (fun t=>[s].count t) (zf5 [] (keyS s) (s,1)):=by
 have:=zl6.nil.put s (n:=1) (by omega);have e:(zf5 ([]:List (Str × SBranch)) (keyS s) (s,min ((zel [] (keyS s) (([],0):SBranch)).2+sat 1) 2))=zf5 [] (keyS s) (s,1):=rfl;rw [e] at this;refine this.congr fun t=>?_;simp only [List.count_singleton,Nat.zero_add,beq_iff_eq]
 by_cases ht:t=s
 ·subst ht;simp
 ·simp [ht,Ne.symm ht]
theorem zoh (b:SBranch):∀l:List SBranch,(insB b l).Perm (b::l)
 | []=>.refl _
 | c::l=>by
  unfold insB;split
  ·exact .refl _
  ·exact ((zoh b l).cons c).trans (List.Perm.swap _ _ _)
theorem zgo:∀l:List SBranch,(srtB l).Perm l
 | []=>.refl _
 | b::l=>(zoh b _).trans ((zgo l).cons b)
theorem insB_srt {b:SBranch}:∀{l:List SBranch},(∀c∈l,c.1≠b.1)→l.Pairwise (fun a b=>ze0 a.1 b.1<0)→(insB b l).Pairwise (fun a b=>ze0 a.1 b.1<0)
 | [],_,_=>by simp [insB]
 | c::l,hn,h=>by
  rw [List.pairwise_cons] at h;unfold insB;split
  ·rename_i hlt
   refine List.pairwise_cons.2 ⟨fun x hx=>?_,List.pairwise_cons.2 h⟩;rcases List.mem_cons.1 hx with rfl | hx
   ·exact hlt
   ·exact zgm hlt (h.1 x hx)
  ·rename_i hge
   refine List.pairwise_cons.2 ⟨fun x hx=>?_,insB_srt (fun x hx=>hn x (by simp [hx])) h.2⟩;rcases List.mem_cons.1 ((zoh b l).mem_iff.1 hx) with rfl | hx
   ·have h1:=zf9 x.1 c.1;have h2:ze0 x.1 c.1≠0:=fun e=>hn c (by simp) (zd9.1 e).symm;omega
   ·exact h.1 x hx
theorem zm9:∀{l:List SBranch},(l.map (·.1)).Nodup→(srtB l).Pairwise (fun a b=>ze0 a.1 b.1<0)
 | [],_=>List.Pairwise.nil
 | b::l,h=>by
  rw [List.map_cons,List.nodup_cons] at h;refine insB_srt (fun c hc e=>h.1 ?_) (zm9 h.2);rw [← e];exact List.mem_map.2 ⟨c,(zgo l).mem_iff.1 hc,rfl⟩
theorem zl6.can {f:List SItem→Nat} {m:List (Str × SBranch)} (h:zl6 f m) {out:List SBranch} (hp:out.Perm (m.map (·.2))):(out.map (·.1)).Nodup∧Can f (srtB out):=by
 have hk:m.map (·.1)=(m.map (·.2)).map (fun b=>keyS b.1):=by
  rw [List.map_map];apply List.map_congr_left;rintro ⟨k,b⟩ hm;exact ((h.mem k b).1 hm).1
 have hn:((m.map (·.2)).map (·.1)).Nodup:=by
  have h1:=h.kn;unfold KN at h1;rw [hk] at h1;have e:(m.map (·.2)).map (fun b=>keyS b.1)=((m.map (·.2)).map (·.1)).map keyS:=by rw [List.map_map (f:=fun b:SBranch=>b.1)];rfl
  rw [e] at h1;exact List.Pairwise.imp (fun {a b} hab he=>hab (by rw [he])) (List.pairwise_map.1 h1)
 have hn2:(out.map (·.1)).Nodup:=(hp.map (·.1)).nodup_iff.2 hn;refine ⟨hn2,zm9 hn2,fun t c=>?_⟩;rw [(zgo out).mem_iff,hp.mem_iff,List.mem_map];constructor
 ·rintro ⟨⟨k,b⟩,hm,e⟩;simp only at e;subst e;exact ((h.mem k _).1 hm).2
 ·rintro h1;exact ⟨(keyS t,(t,c)),(h.mem _ _).2 ⟨rfl,h1⟩,rfl⟩
end Go.Proofs.YtbojklnokglbhaaGreatDoor.V
namespace Go.Proofs.YtbojklnokglbhaaGreatDoor.V
open Go Go.Shelf Go.Sort
set_option linter.unusedVariables false
theorem cmpS_le {x y z:List SItem} (h1:ze0 x y≤0) (h2:ze0 y z≤0):ze0 x z≤0:=by
 rcases Int.lt_or_le (ze0 x y) 0 with a | a
 ·rcases Int.lt_or_le (ze0 y z) 0 with b | b
  ·have:=zgm a b;omega
  ·have e:ze0 y z=0:=by omega
   rw [← zd9.1 e];exact h1
 ·have e:ze0 x y=0:=by omega
  rw [zd9.1 e];exact h2
theorem swo_branch:SWO (Go.Proofs.ltOf fun x y:SBranch=>ze0 x.1 y.1):=swo_cmp (fun x=>zjl _) (fun x y=>zf9 _ _) fun x y z h1 h2=>cmpS_le h1 h2
theorem srtB_uniq {x y:List SBranch} (hn:(x.map (·.1)).Nodup) (hp:y.Perm x) (hs:y.Pairwise (fun a b=>¬ ze0 b.1 a.1<0)):y=srtB x:=by
 have hny:(y.map (·.1)).Nodup:=(hp.map (·.1)).nodup_iff.2 hn;refine zk0 ?_ (zm9 hn) fun b=>by rw [hp.mem_iff,(zgo x).mem_iff]
 have h2:y.Pairwise (fun a b=>a.1≠b.1):=List.pairwise_map.1 hny;refine (hs.and h2).imp fun {a b} h=>?_;have h3:=zf9 b.1 a.1;have h4:ze0 a.1 b.1≠0:=fun e=>h.2 (zd9.1 e);omega
theorem fm_branch {g:FuncId} (eg:∀(args:Array Value) (w:World),(callFunc g args).run Tryz.prog w = .ok (.enter g args) w) {x r:List SBranch} (hn:(x.map (·.1)).Nodup) (hl:x.length≤2147483648) (hr:r=srtB x)
  (hc:∀a∈x,∀b∈x,VD.Fn Tryz.prog g [VD.Pd.rep En.SBranch a,VD.Pd.rep En.SBranch b] (VD.Rq (VD.Pd.rep (VD.En.int .i64) (ze0 a.1 b.1)))) (v0:Value):
  Fm Tryz.prog 88 (fun b=>v0.ownBlock=some b) [Pd.prow En.SBranch 98 v0 x,Pd.is (.func (.func g) #[] #[])] (fun _ s' _=>(Pd.prow En.SBranch 98 v0 r).p s' v0):=by
 have h:=fm_sort slsort (E:=En.SBranch) (E':=En.SBranch) (te:=98) (g:=g) (cf:=fun a b:SBranch=>ze0 a.1 b.1) rfl ty98 rfl rfl (fun h=>h) (zfh Tryz.func88 rfl (by rfl)) eg swo_branch hl hc v0;refine ⟨h.call,fun s vs hg hM hv=>(h.run s vs hg hM hv).mono fun e w' ⟨v,s',he,hw,hfr,ys,hp,hs,hrow⟩=>⟨v,s',he,hw,hfr, ?_⟩⟩;rw [hr,← srtB_uniq hn hp hs];exact hrow
theorem zi2 (v0:Value) {x r:List SBranch} (h:zg6 x r):Fm Tryz.prog 88 (fun b=>v0.ownBlock=some b) [Pd.prow En.SBranch 98 v0 x,Pd.is (.func (.func 113) #[] #[])] (fun _ s' _=>(Pd.prow En.SBranch 98 v0 r).p s' v0):=fm_branch (zfh Tryz.func113 rfl (by rfl)) h.1 h.2.2.1 h.2.2.2 (fun a ha b hb=>@zm4 true dLe _ _ _ ⟨_,zgx (h.2.1 a ha),rfl⟩) v0
theorem o_isf {L:Lst} {f:FuncId}:Opn L (.func f) (Pd.is (.func (.func f) #[] #[])):=fun _ _ _ _ _ _=>rfl
end Go.Proofs.YtbojklnokglbhaaGreatDoor.V
namespace Go.Proofs.YtbojklnokglbhaaGreatDoor.V
open Go
set_option linter.unusedVariables false
set_option maxRecDepth 100000
noncomputable abbrev Efmp:En (List (Str × SBranch)):=En.fmap En.str kvStr En.SBranch
noncomputable abbrev Efinder:En (SDesc × Option Nat):=En.cat En.SDesc En.mref
theorem tyzFinder:TyZ Tryz.prog 163 Efinder (([],none):SDesc × Option Nat):=⟨_,_,([.slice none 0 0]++[.map none]),rfl,rfl,by rfl,fun _ _=>⟨[.slice none 0 0],[.map none],rfl,⟨_,rfl,zdf _ _ _⟩,rfl⟩⟩
theorem sttFinder:Stt Tryz.prog 163 [(0,1),(1,1)]:=⟨_,Tryz.underlying163,by kernel_rfl⟩
theorem tyMap:Ty Tryz.prog 161 En.mref:=⟨⟨_,_,rfl,rfl,rfl,rfl,by decide⟩,_,rfl,rfl⟩
theorem tyvMap:TyV Tryz.prog 164 Efmp []:=⟨_,[.map none],rfl,by rfl,fun _ _=>⟨_,rfl,.inl ⟨rfl,rfl⟩⟩⟩
theorem tyvBranch:TyV Tryz.prog 98 En.SBranch (([],0):SBranch):=⟨_,[.slice none 0 0]++[.int .i64 0],rfl,by rfl,fun _ _=>⟨_,_,rfl,⟨_,rfl,zdf _ _ _⟩,⟨rfl,by decide⟩⟩⟩
def GoodM (d:List SNode) (t:List SItem) (m:List (Str × SBranch)):Prop:=∃h l,lv d h t=some l∧zl6 (fun u=>l.count u) m
def InvS (d:List SNode) (xs:List (Str × List (Str × SBranch))):Prop:=∀k m,(k,m)∈xs→∃t,k=keyS t∧GoodM d t m
theorem InvS.get {d:List SNode} {xs} (h:InvS d xs) {t:List SItem} (hm:zh2 xs (keyS t)=true):GoodM d t (zel xs (keyS t) []):=by
 obtain ⟨t',e,hg⟩:=h _ _ (mget_in hm []);have:=zgj.1 e;subst this;exact hg
theorem InvS.put {d:List SNode} {xs} (h:InvS d xs) {t:List SItem} {m} (hg:GoodM d t m):InvS d (zf5 xs (keyS t) m):=by
 intro k m' hm;rcases zrt.1 hm with e | ⟨_,hm⟩
 ·cases e;exact ⟨t,rfl,hg⟩
 ·exact h k m' hm
theorem InvS.nil (d:List SNode):InvS d []:=fun k m h=>by cases h
abbrev FndOk (d:List SNode) (g:Nat) (t:List SItem) (xs:List (Str × List (Str × SBranch))):Prop:=
 Fc Tryz.prog 112 En.str kvStr Efmp g xs [Pd.ptr Efinder (d,some g),Pd.rep (En.slice En.SItem) t] (fun i:List (Str × SBranch) × List (Str × List (Str × SBranch))=>GoodM d t i.1∧InvS d i.2) (fun i=>Pd.rep Efmp i.1) (fun i=>i.2)
theorem no_g {og:Option Nat} {g N:Nat} (hg:g<N) (h:∀b,og=some b→N≤b):∀b,og=some b→¬ some g=some b:=fun b hb e=>by cases e;have:=h g hb;omega
theorem no_o {og:Option Nat} {g N:Nat} (hg:g<N) (h:∀b,og=some b→N≤b):∀b,some g=some b→¬ og=some b:=fun b e hb=>by cases e;have:=h g hb;omega
structure Left (c:List SItem→Nat) (rem:List (Str × SBranch)):Prop where
 kn:KN rem
 ent:∀p∈rem,p.1=keyS p.2.1∧c p.2.1≠0∧p.2.2=sat (c p.2.1)
theorem zl6.left {c:List SItem→Nat} {m:List (Str × SBranch)} (h:zl6 c m):Left c m:=⟨h.kn,fun p hp=>(h.mem p.1 p.2).1 hp⟩
theorem Left.perm {c:List SItem→Nat} {l m:List (Str × SBranch)} (h:Left c l) (hp:l.Perm m):Left c m:=⟨h.kn.perm hp,fun p hm=>h.ent p (hp.mem_iff.2 hm)⟩
theorem Left.tail {c:List SItem→Nat} {p:Str × SBranch} {l:List (Str × SBranch)} (h:Left c (p::l)):Left c l∧keyS p.2.1 ∉ l.map (·.1):=by
 have hk:=h.kn;unfold KN at hk;rw [List.map_cons,List.nodup_cons] at hk;exact ⟨⟨hk.2,fun q hq=>h.ent q (by simp [hq])⟩,by rw [← (h.ent p (by simp)).1];exact hk.1⟩
def cnt (f c:List SItem→Nat) (rem:List (Str × SBranch)) (u:List SItem):Nat:=f u+if keyS u∈rem.map (·.1) then 0 else c u
theorem cnt_start {f c:List SItem→Nat} {m rem:List (Str × SBranch)} (h:zl6 c m) (hp:m.Perm rem) (u:List SItem):cnt f c rem u=f u:=by
 unfold cnt
 by_cases hc:c u=0
 ·simp [hc]
 ·rw [if_pos];· rfl
  exact List.mem_map.2 ⟨(keyS u,(u,sat (c u))),hp.mem_iff.1 ((h.mem _ _).2 ⟨rfl,hc,rfl⟩),rfl⟩
theorem cnt_perm {f c:List SItem→Nat} {l m:List (Str × SBranch)} (hp:l.Perm m) (u:List SItem):cnt f c l u=cnt f c m u:=by
 unfold cnt;have h:=(hp.map (·.1)).mem_iff (a:=keyS u)
 by_cases hu:keyS u∈l.map (·.1)
 ·rw [if_pos hu,if_pos (h.1 hu)]
 ·rw [if_neg hu,if_neg (fun k=>hu (h.2 k))]
theorem cnt_nil {f c:List SItem→Nat} (u:List SItem):cnt f c [] u=f u+c u:=by simp [cnt]
theorem cnt_step {f c:List SItem→Nat} {p:Str × SBranch} {l:List (Str × SBranch)} (h:Left c (p::l)) {out:List (Str × SBranch)} (ho:zl6 (cnt f c (p::l)) out):
  zl6 (cnt f c l) (zf5 out p.1 (p.2.1,min ((zel out p.1 (([],0):SBranch)).2+p.2.2) 2)):=by
 obtain ⟨h1,h2⟩:=h.tail;obtain ⟨e1,e2,e3⟩:=h.ent p (by simp);rw [e1,e3];refine (ho.put p.2.1 e2).congr fun t=>?_;unfold cnt;simp only [List.map_cons,List.mem_cons,e1,zgj]
 by_cases ht:t=p.2.1
 ·subst ht;rw [if_pos (.inl rfl),if_neg h2,if_pos rfl];rfl
 ·simp only [ht,false_or,if_false,Nat.add_zero]
theorem znc {α β:Type} {f:α→Option β}:∀{l:List α} {r:List β},l.mapM f=some r→r.length=l.length
 | [],r,h=>by simp at h;subst h;rfl
 | a::l,r,h=>by
  rw [List.mapM_cons] at h;cases ha:f a with
  | none=>rw [ha] at h;simp at h
  | some b=>
   rw [ha] at h;cases hl:l.mapM f with
   | none=>rw [hl] at h;simp at h
   | some bs=>
    rw [hl] at h;have e:b::bs=r:=by simpa using h
    rw [← e];simp [znc hl]
theorem zrw {α β:Type} {f:α→Option β}:∀{l:List α} {r:List β},l.mapM f=some r→∀{i:Nat} (hi:i<l.length),∃b,f l[i]=some b∧r[i]?=some b
 | [],r,_,i,hi=>by simp at hi
 | a::l,r,h,i,hi=>by
  rw [List.mapM_cons] at h;cases ha:f a with
  | none=>rw [ha] at h;simp at h
  | some b=>
   rw [ha] at h;cases hl:l.mapM f with
   | none=>rw [hl] at h;simp at h
   | some bs=>
    rw [hl] at h;have e:b::bs=r:=by simpa using h
    subst e;cases i with
    | zero=>exact ⟨b,ha,rfl⟩
    | succ i=>
     obtain ⟨b',h1,h2⟩:=zrw hl (i:=i) (by simpa using hi);exact ⟨b',by simpa using h1,by simpa using h2⟩
theorem take_flat {α:Type} {ls:List (List α)} {i:Nat} {l:List α} (h:ls[i]?=some l):(ls.take (i+1)).flatten=(ls.take i).flatten++l:=by
 have hi:=(List.getElem?_eq_some_iff.1 h).1;have e:=(List.getElem?_eq_some_iff.1 h).2;rw [List.take_succ_eq_append_getElem hi,e,List.flatten_append];simp
theorem find_step {d:List SNode} (hd:ROk d) (hk:DOk d) (hl4:d.length≤400) (g:Nat) {h:Nat} (ih:∀(t:List SItem) (l:List (List SItem)),lv d h t=some l→Vs d 400 t→∀xs,InvS d xs→FndOk d g t xs) (hd0:∃n,at? d 0=some n)
  {t:List SItem} {l:List (List SItem)} (hl:lv d (h+1) t=some l) (hv:Vs d 400 t) {xs:List (Str × List (Str × SBranch))} (hxs:InvS d xs):FndOk d g t xs:=by
 have htl:=hv.len;refine fc_of Tryz.func112 rfl Tryz.ntmps112 (by rfl) (by simp) fun s0 a hL=>?_;have hgs:g<s0.w.heap.size:=by
  obtain ⟨hX,_⟩:=hL.get 999902 rfl;exact s0.lt g hX
 refine wp_seq_k fun K0 hK0=>?_;refine rg ?_;refine st 4 (zbn (q:=Pd.any) (fun _ _ _ _ _ _=>trivial) rfl rfl) rfl rfl hL fun a s e_ hL=>?_;refine en' ?_;show K0 a s.w;refine hK0 _ _ ?_;refine wp_seq_k fun K1 hK1=>?_;refine rg ?_;refine st 14 (zq (o_t 1 rfl) rfl rfl) rfl rfl hL fun a s e_ hL=>?_;refine st 15 (ze3 (zik (zog (s:=t) (by omega))) (xs:=[.tmp 14]) (.cons (o_t 14 rfl) .nil) rfl rfl) rfl rfl hL fun a s e_ hL=>?_;refine st 5 (zbn (o_t 15 rfl) rfl rfl) rfl rfl hL fun a s e_ hL=>?_;refine en' ?_;show K1 a s.w;refine hK1 _ _ ?_;refine wp_seq_k fun K2 hK2=>?_;refine wp_seq_k fun K3 hK3=>?_;refine rg ?_;refine st 17 (zq (o_t 0 rfl) rfl rfl) rfl rfl hL fun a s e_ hL=>?_;refine st 18 (t_nc (o_t 17 rfl) zlg rfl rfl) rfl rfl hL fun a s e_ hL=>?_;refine st 19 (zl4 (off:=1) (o_t 18 rfl) Tryz.underlying163 rfl (zw (z7 _ _) rfl) rfl tyMap rfl rfl) rfl rfl hL fun a s e_ hL=>?_;refine st 20 (zcj tyMap (o_t 19 rfl) rfl rfl) rfl rfl hL fun a s e_ hL=>?_;refine st 21 (zq (o_t 5 rfl) rfl rfl) rfl rfl hL fun a s e_ hL=>?_;refine st 22 (t_mgetcok (m:=999902) rfl (o_t 20 rfl) (o_t 21 rfl) Tryz.underlying161 (zem Tryz.underlying9) tyvMap rfl rfl) rfl rfl hL fun a s e_ hL=>?_;refine st 16 (zq (o_t 22 rfl) rfl rfl) rfl rfl hL fun a s e_ hL=>?_;refine st 23 (t_ext0 (o_t 16 rfl) rfl rfl) rfl rfl hL fun a s e_ hL=>?_;refine st 24 (znm (o_t 16 rfl) rfl rfl) rfl rfl hL fun a s e_ hL=>?_;refine st 6 (zbn (o_t 23 rfl) rfl rfl) rfl rfl hL fun a s e_ hL=>?_;refine st 7 (zbn (o_t 24 rfl) rfl rfl) rfl rfl hL fun a s e_ hL=>?_
 refine en' ?_;show K3 a s.w;refine hK3 _ _ ?_;refine wp_seq_k fun K4 hK4=>?_;refine rg ?_;refine st 25 (zq (o_t 7 rfl) rfl rfl) rfl rfl hL fun a s e_ hL=>?_;refine en' ?_;show K4 a s.w;refine hK4 _ _ ?_;refine cnd hL rfl (fun hb_=>?_) (fun hb_=>?_)
 ·refine wp_seq_k fun K5 hK5=>?_;refine rg ?_;refine st 26 (zq (o_t 6 rfl) rfl rfl) rfl rfl hL fun a s e_ hL=>?_;refine st 4 (zbn (o_t 26 rfl) rfl rfl) rfl rfl hL fun a s e_ hL=>?_;refine en' ?_;show K5 a s.w;refine hK5 _ _ ?_;exact wp_ret (retc (zel xs (keyS t) [],xs) ⟨hxs.get hb_,hxs⟩ rfl hL rfl rfl)
 refine wp_skip ?_;show K2 a s.w;refine hK2 _ _ ?_;refine wp_seq_k fun K6 hK6=>?_;refine rg ?_;refine zjs 27 En.str kvStr En.SBranch hL rfl rfl rfl rfl fun a s g8 hg8 hL=>?_;have hng:∀b,some g8=some b→s0.w.heap.size≤b:=fun b hb=>(zmv (hL.get 27 rfl) b hb).1;refine st 8 (zbn (o_t 27 rfl) rfl rfl) rfl rfl hL fun a s e_ hL=>?_;refine en' ?_;show K6 a s.w;refine hK6 _ _ ?_;refine wp_seq_k fun K7 hK7=>?_;refine wp_seq_k fun K8 hK8=>?_;refine rg ?_;refine st 28 (zq (o_t 0 rfl) rfl rfl) rfl rfl hL fun a s e_ hL=>?_;refine st 29 (t_nc (o_t 28 rfl) zlg rfl rfl) rfl rfl hL fun a s e_ hL=>?_;refine st 30 (zl4 (off:=0) (o_t 29 rfl) Tryz.underlying163 rfl (zbr (z7 _ _)) rfl ty24 rfl rfl) rfl rfl hL fun a s e_ hL=>?_;refine st 31 (zcj ty24 (o_t 30 rfl) rfl rfl) rfl rfl hL fun a s e_ hL=>?_;refine st 32 (zq (o_t 1 rfl) rfl rfl) rfl rfl hL fun a s e_ hL=>?_;refine st 33 (ze3 (zpi (zpj hd hv.form)) (xs:=[.tmp 31,.tmp 32]) (.cons (o_t 31 rfl) (.cons (o_t 32 rfl) .nil)) rfl rfl) rfl rfl hL fun a s e_ hL=>?_;refine en' ?_;show K8 a s.w;refine hK8 _ _ ?_;refine cnd hL rfl (fun hb_=>?_) (fun hb_=>?_)
 ·have hgood:GoodM d t (zf5 [] (keyS t) (t,1)):=⟨1,[t],by simp [lv,hb_],zl6.one t⟩;refine wp_seq_k fun K9 hK9=>?_;refine rg ?_;refine st 34 (zq (o_t 8 rfl) rfl rfl) rfl rfl hL fun a s e_ hL=>?_;refine st 35 (zq (o_t 5 rfl) rfl rfl) rfl rfl hL fun a s e_ hL=>?_;refine st 36 (zq (o_t 1 rfl) rfl rfl) rfl rfl hL fun a s e_ hL=>?_;refine st 37 (ze3 (zdq (clone_in (s:=t) (by omega))).frz (xs:=[.tmp 36]) (.cons (o_t 36 rfl) .nil) rfl rfl) rfl rfl hL fun a s e_ hL=>?_;refine st 38 (zbj (x:=((t,1):SBranch)) (ps:=[(0,.tmp 37),(1,.const (.int .i64 1))]) zl8 rfl stt98 (.cons (i:=0) (o_t 37 rfl) rfl (zu (zk _ _ _)) (.cons (i:=1) (o_i (k:=.i64) (by decide)) rfl (zi (zk _ _ _) rfl) .nil)) rfl rfl) rfl rfl hL fun a s e_ hL=>?_;refine zg4 (L':=[(0,Pd.ptr Efinder (d,some g)),(5,Pd.rep En.str (keyS t)),(8,Pd.map En.str kvStr En.SBranch s0.w.heap.size (some g8) (zf5 [] (keyS t) (t,1))),(999902,Pd.mapc En.str kvStr Efmp g xs)]) hL (o_t 34 rfl) (o_t 35 rfl) (o_t 38 rfl) Tryz.underlying164 (zem Tryz.underlying9) (.inl rfl) rfl rfl
   (.cons (t:=0) rfl (fun _ h_=>h_.elim) (.cons (t:=5) rfl (fun _ h_=>h_.elim) (.turn (t:=8) rfl (.cons (t:=999902) rfl (no_o hgs hng) .nil)))) fun s hL=>?_
  refine en' ?_;show K9 a s.w;refine hK9 _ _ ?_;refine wp_seq_k fun K10 hK10=>?_;refine rg ?_;obtain ⟨s2,hw2,hL⟩:=hL.freezem (L':=[(0,Pd.ptr Efinder (d,some g)),(5,Pd.rep En.str (keyS t)),(999902,Pd.mapc En.str kvStr Efmp g xs)]) 8 rfl (.cons (t:=0) rfl (fun _ h_=>h_.elim) (.cons (t:=5) rfl (fun _ h_=>h_.elim) (.cons (t:=999902) rfl (no_o hgs hng) .nil)));rw [← hw2];clear hw2;generalize s2=s at *;refine st 39 (zq (o_t 0 rfl) rfl rfl) rfl rfl hL fun a s e_ hL=>?_;refine st 40 (t_nc (o_t 39 rfl) zlg rfl rfl) rfl rfl hL fun a s e_ hL=>?_;refine st 41 (zl4 (off:=1) (o_t 40 rfl) Tryz.underlying163 rfl (zw (z7 _ _) rfl) rfl tyMap rfl rfl) rfl rfl hL fun a s e_ hL=>?_;refine st 42 (zcj tyMap (o_t 41 rfl) rfl rfl) rfl rfl hL fun a s e_ hL=>?_;refine st 43 (zq (o_t 5 rfl) rfl rfl) rfl rfl hL fun a s e_ hL=>?_;refine st 44 (zq (o_t 8 rfl) rfl rfl) rfl rfl hL fun a s e_ hL=>?_;refine st_mputc (m:=999902) (L':=[(8,Pd.rep Efmp (zf5 [] (keyS t) (t,1)))]) hL rfl (.inl rfl) (o_t 42 rfl) (o_t 43 rfl) (o_t 44 rfl) Tryz.underlying161 (zem Tryz.underlying9) (.inl rfl) rfl rfl (.cons (t:=8) rfl (fun _ h_=>h_.elim) .nil) fun s hL=>?_;refine en' ?_;show K10 a s.w;refine hK10 _ _ ?_;refine wp_seq_k fun K11 hK11=>?_;refine rg ?_;refine st 45 (zq (o_t 8 rfl) rfl rfl) rfl rfl hL fun a s e_ hL=>?_;refine st 4 (zbn (o_t 45 rfl) rfl rfl) rfl rfl hL fun a s e_ hL=>?_;refine en' ?_;show K11 a s.w;refine hK11 _ _ ?_;exact wp_ret (retc (zf5 [] (keyS t) (t,1),zf5 xs (keyS t) (zf5 [] (keyS t) (t,1))) ⟨hgood,hxs.put hgood⟩ rfl hL rfl rfl)
 refine wp_skip ?_;show K7 a s.w;refine hK7 _ _ ?_;have hrd:rdy d t=false:=hb_;have hopn:=hv.opn hd hrd;obtain ⟨ls,hls,hlf⟩:∃ls,(opn d t).mapM (lv d h)=some ls∧ls.flatten=l:=by
  unfold lv at hl;rw [if_neg (by rw [hrd];simp)] at hl;exact Option.map_eq_some_iff.1 hl
 have hlen2:=opn_len (d:=d) t;have hlsl:ls.length=(opn d t).length:=znc hls;refine wp_seq_k fun K12 hK12=>?_;refine wp_seq_k fun K13 hK13=>?_;refine rg ?_;refine st 46 (zq (o_t 0 rfl) rfl rfl) rfl rfl hL fun a s e_ hL=>?_;refine st 47 (t_nc (o_t 46 rfl) zlg rfl rfl) rfl rfl hL fun a s e_ hL=>?_;refine st 48 (zl4 (off:=0) (o_t 47 rfl) Tryz.underlying163 rfl (zbr (z7 _ _)) rfl ty24 rfl rfl) rfl rfl hL fun a s e_ hL=>?_;refine st 49 (zcj ty24 (o_t 48 rfl) rfl rfl) rfl rfl hL fun a s e_ hL=>?_;refine st 50 (zq (o_t 1 rfl) rfl rfl) rfl rfl hL fun a s e_ hL=>?_;refine st 51 (ze3 (zr8 (zr9 hd hv.form hrd (by omega) hd0)).frz (xs:=[.tmp 49,.tmp 50]) (.cons (o_t 49 rfl) (.cons (o_t 50 rfl) .nil)) rfl rfl) rfl rfl hL fun a s e_ hL=>?_;refine st 52 (t_len (o_t 51 rfl) Tryz.underlying29 rfl rfl) rfl rfl hL fun a s e_ hL=>?_;refine st 53 (zq (o_i (k:=.i64) (by decide)) rfl rfl) rfl rfl hL fun a s e_ hL=>?_;refine en' ?_;show K13 a s.w;refine hK13 _ _ ?_;refine wp_block ?_;have hg8s:=hng g8 rfl;have J:∀(a:Act) (s:St) (out:List (Str × SBranch)) (ys:List (Str × List (Str × SBranch))),Has (fun b=>some g=some b) 88 s0 a s [(0,Pd.ptr Efinder (d,some g)),(5,Pd.rep En.str (keyS t)),(8,Pd.map En.str kvStr En.SBranch s0.w.heap.size (some g8) out),(999902,Pd.mapc En.str kvStr Efmp g ys)] →
   zl6 (fun u=>l.count u) out→InvS d ys→K12 a s.w:=by
  intro a s out ys hL hout hys;have hgood:GoodM d t out:=⟨h+1,l,hl,hout⟩;refine hK12 _ _ ?_;refine wp_seq_k fun K19 hK19=>?_;refine rg ?_;obtain ⟨s2,hw2,hL⟩:=hL.freezem (L':=[(0,Pd.ptr Efinder (d,some g)),(5,Pd.rep En.str (keyS t)),(999902,Pd.mapc En.str kvStr Efmp g ys)]) 8 rfl (.cons (t:=0) rfl (fun _ h_=>h_.elim) (.cons (t:=5) rfl (fun _ h_=>h_.elim) (.cons (t:=999902) rfl (no_o hgs hng) .nil)));rw [← hw2];clear hw2;generalize s2=s at *;refine st 81 (zq (o_t 0 rfl) rfl rfl) rfl rfl hL fun a s e_ hL=>?_;refine st 82 (t_nc (o_t 81 rfl) zlg rfl rfl) rfl rfl hL fun a s e_ hL=>?_;refine st 83 (zl4 (off:=1) (o_t 82 rfl) Tryz.underlying163 rfl (zw (z7 _ _) rfl) rfl tyMap rfl rfl) rfl rfl hL fun a s e_ hL=>?_;refine st 84 (zcj tyMap (o_t 83 rfl) rfl rfl) rfl rfl hL fun a s e_ hL=>?_;refine st 85 (zq (o_t 5 rfl) rfl rfl) rfl rfl hL fun a s e_ hL=>?_;refine st 86 (zq (o_t 8 rfl) rfl rfl) rfl rfl hL fun a s e_ hL=>?_;refine st_mputc (m:=999902) (L':=[(8,Pd.rep Efmp out)]) hL rfl (.inl rfl) (o_t 84 rfl) (o_t 85 rfl) (o_t 86 rfl) Tryz.underlying161 (zem Tryz.underlying9) (.inl rfl) rfl rfl (.cons (t:=8) rfl (fun _ h_=>h_.elim) .nil) fun s hL=>?_;refine en' ?_;show K19 a s.w;refine hK19 _ _ ?_;refine wp_seq_k fun K20 hK20=>?_;refine rg ?_;refine st 87 (zq (o_t 8 rfl) rfl rfl) rfl rfl hL fun a s e_ hL=>?_;refine st 4 (zbn (o_t 87 rfl) rfl rfl) rfl rfl hL fun a s e_ hL=>?_;refine en' ?_;show K20 a s.w;refine hK20 _ _ ?_;exact wp_ret (retc (out,zf5 ys (keyS t) out) ⟨hgood,hys.put hgood⟩ rfl hL rfl rfl)
 refine lpg (fun k a s=>∃(i:Nat) (out:List (Str × SBranch)) (ys:List (Str × List (Str × SBranch))),i+k=(opn d t).length+1∧Has (fun b=>some g=some b) 88 s0 a s [(0,Pd.ptr Efinder (d,some g)),(5,Pd.rep En.str (keyS t)),(8,Pd.map En.str kvStr En.SBranch s0.w.heap.size (some g8) out),(51,Pd.rep (En.slice (En.slice En.SItem)) (opn d t)),(52,Pd.rep (En.int .i64) ((opn d t).length:Int)),(53,Pd.rep (En.int .i64) (i:Int)),(999902,Pd.mapc En.str kvStr Efmp g ys)] ∧
   zl6 (fun u=>(ls.take i).flatten.count u) out∧InvS d ys) ((opn d t).length+1) ⟨0,[],xs,by omega,hL.keep (.cons (t:=0) rfl (fun _ h_=>h_.elim) (.cons (t:=5) rfl (fun _ h_=>h_.elim) (.cons (t:=8) rfl (fun _ _ h_=>h_) (.cons (t:=51) rfl (fun _ h_=>h_.elim) (.cons (t:=52) rfl (fun _ h_=>h_.elim) (.cons (t:=53) rfl (fun _ h_=>h_.elim) (.cons (t:=999902) rfl (fun _ _ h_=>h_) .nil))))))),zl6.nil,hxs⟩ ?_
 rintro k a s ⟨i,out,ys,hik,hL,hout,hys⟩ KL hKL;refine wp_seq_k fun K14 hK14=>?_;refine rg ?_;refine st 54 (t_lss (o_t 53 rfl) (o_t 52 rfl) rfl rfl) rfl rfl hL fun a s e_ hL=>?_;refine en' ?_;show K14 a s.w;refine hK14 _ _ ?_;refine wp_seq_k fun K15 hK15=>?_;refine cnd hL rfl (fun hb2_=>?_) (fun hb2_=>?_)
 case refine_2=>
  refine wp_exit ?_;have hi:(opn d t).length≤i:=by have:=df hb2_;omega
  refine J a s out ys (hL.keep (.cons (t:=0) rfl (fun _ h_=>h_.elim) (.cons (t:=5) rfl (fun _ h_=>h_.elim) (.cons (t:=8) rfl (fun _ _ h_=>h_) (.cons (t:=999902) rfl (fun _ _ h_=>h_) .nil))))) ?_ hys;rw [List.take_of_length_le (by omega),hlf] at hout;exact hout
 refine wp_skip ?_;show K15 a s.w;refine hK15 _ _ ?_;have hi:i<(opn d t).length:=by have:=dt hb2_;omega
 have hti:at? (opn d t) (i:Int)=some (opn d t)[i]:=by rw [zb2];simp [hi]
 have hmem:(opn d t)[i]∈opn d t:=List.getElem_mem hi;obtain ⟨li,hli,hlsi⟩:=zrw hls hi;refine wp_seq_k fun K18 hK18=>?_;refine wp_block ?_;refine wp_seq_k fun K21 hK21=>?_;refine rg ?_;refine st 55 (zql (o_t 51 rfl) (o_t 53 rfl) hti Tryz.underlying29 ty59 rfl rfl) rfl rfl hL fun a s e_ hL=>?_;refine st 56 (zcj ty59 (o_t 55 rfl) rfl rfl) rfl rfl hL fun a s e_ hL=>?_;refine st 10 (zbn (o_t 56 rfl) rfl rfl) rfl rfl hL fun a s e_ hL=>?_;refine en' ?_;show K21 a s.w;refine hK21 _ _ ?_;refine wp_seq_k fun K22 hK22=>?_;refine rg ?_;refine st 57 (zq (o_t 0 rfl) rfl rfl) rfl rfl hL fun a s e_ hL=>?_;refine st 58 (zq (o_t 10 rfl) rfl rfl) rfl rfl hL fun a s e_ hL=>?_;refine st_callc (L':=[(0,Pd.ptr Efinder (d,some g)),(5,Pd.rep En.str (keyS t)),(8,Pd.map En.str kvStr En.SBranch s0.w.heap.size (some g8) out),(51,Pd.rep (En.slice (En.slice En.SItem)) (opn d t)),(52,Pd.rep (En.int .i64) ((opn d t).length:Int)),(53,Pd.rep (En.int .i64) (i:Int))]) 59 999902 hL (ih _ li hli (hopn _ hmem) ys hys) rfl (.inl rfl) (zs:=[.tmp 57,.tmp 58]) (.cons (o_t 57 rfl) (.cons (o_t 58 rfl) .nil)) rfl rfl rfl rfl
  (.cons (t:=0) rfl (fun _ h_=>h_.elim) (.cons (t:=5) rfl (fun _ h_=>h_.elim) (.cons (t:=8) rfl (no_g hgs hng) (.cons (t:=51) rfl (fun _ h_=>h_.elim) (.cons (t:=52) rfl (fun _ h_=>h_.elim) (.cons (t:=53) rfl (fun _ h_=>h_.elim) .nil)))))) fun a s im him hL=>?_
 obtain ⟨m,ys2⟩:=im;obtain ⟨⟨hh,l2,hl2,hm⟩,hys2⟩:=him;simp only at hl2 hm hys2;have hl2e:l2=li:=by
  have h1:=zje (Nat.le_max_left hh h) hl2;have h2:=zje (Nat.le_max_right hh h) hli;rw [h1] at h2;exact Option.some.inj h2
 subst hl2e;have hg8lt:=(zmv (hL.get 8 rfl) g8 rfl).2;refine zqq 60 hL (o_t 59 rfl) Tryz.underlying164 rfl rfl rfl rfl fun a s r hr hL=>?_;have hr8:g8<r:=Nat.lt_of_lt_of_le hg8lt hr;refine en' ?_;show K22 a s.w;refine hK22 _ _ ?_;refine wp_block ?_
 let f:=fun u=>(ls.take i).flatten.count u
 let c:=fun u=>l2.count u
 have J2:∀(a:Act) (s:St) (out:List (Str × SBranch)),Has (fun b=>some g=some b) 88 s0 a s [(0,Pd.ptr Efinder (d,some g)),(5,Pd.rep En.str (keyS t)),(8,Pd.map En.str kvStr En.SBranch s0.w.heap.size (some g8) out),(51,Pd.rep (En.slice (En.slice En.SItem)) (opn d t)),(52,Pd.rep (En.int .i64) ((opn d t).length:Int)),(53,Pd.rep (En.int .i64) (i:Int)),(999902,Pd.mapc En.str kvStr Efmp g ys2)] →
   zl6 (fun u=>f u+c u) out→K18 a s.w:=by
  intro a s out hL hout;refine hK18 _ _ ?_;refine rg ?_;refine st 80 (t_add (o_t 53 rfl) (o_i (k:=.i64) (by decide)) (zj (by omega) (by omega)) rfl rfl) rfl rfl hL fun a s e_ hL=>?_;refine st 53 (zq (o_t 80 rfl) rfl rfl) rfl rfl hL fun a s e_ hL=>?_;refine en' ?_;refine hKL (k-1) a s (by omega) ⟨i+1,out,ys2,by omega,hL.keep (.cons (t:=0) rfl (fun _ h_=>h_.elim) (.cons (t:=5) rfl (fun _ h_=>h_.elim) (.cons (t:=8) rfl (fun _ _ h_=>h_) (.cons (t:=51) rfl (fun _ h_=>h_.elim) (.cons (t:=52) rfl (fun _ h_=>h_.elim) (.cons (t:=53) rfl (fun _ h_=>h_.elim) (.cons (t:=999902) rfl (fun _ _ h_=>h_) .nil))))))), ?_,hys2⟩;refine hout.congr fun u=>?_;rw [take_flat hlsi,List.count_append]
 refine lpg (fun k a s=>∃(rem:List (Str × SBranch)) (cur:Option (Str × SBranch)) (out:List (Str × SBranch)),rem.length+1=k∧Has (fun b=>some g=some b) 88 s0 a s [(0,Pd.ptr Efinder (d,some g)),(5,Pd.rep En.str (keyS t)),(8,Pd.map En.str kvStr En.SBranch s0.w.heap.size (some g8) out),(51,Pd.rep (En.slice (En.slice En.SItem)) (opn d t)),(52,Pd.rep (En.int .i64) ((opn d t).length:Int)),(53,Pd.rep (En.int .i64) (i:Int)),(60,Pd.iter En.str kvStr En.SBranch s0.w.heap.size r rem cur),(999902,Pd.mapc En.str kvStr Efmp g ys2)] ∧
   Left c rem∧zl6 (cnt f c rem) out) (m.length+1) ⟨m,none,out,rfl,hL.keep (.cons (t:=0) rfl (fun _ h_=>h_.elim) (.cons (t:=5) rfl (fun _ h_=>h_.elim) (.cons (t:=8) rfl (fun _ _ h_=>h_) (.cons (t:=51) rfl (fun _ h_=>h_.elim) (.cons (t:=52) rfl (fun _ h_=>h_.elim) (.cons (t:=53) rfl (fun _ h_=>h_.elim) (.cons (t:=60) rfl (fun _ _ h_=>h_) (.cons (t:=999902) rfl (fun _ _ h_=>h_) .nil)))))))),hm.left,hout.congr fun u=>by rw [cnt_start hm (.refl _)]⟩ ?_
 rintro k2 a s ⟨rem,cur,out,hrk,hL,hleft,hout⟩ KM hKM;refine wp_seq_k fun K23 hK23=>?_;refine rg ?_;have hrs0:s0.w.heap.size≤r:=(hL.get 60 rfl).2.1;refine st_next (L':=[(0,Pd.ptr Efinder (d,some g)),(5,Pd.rep En.str (keyS t)),(8,Pd.map En.str kvStr En.SBranch s0.w.heap.size (some g8) out),(51,Pd.rep (En.slice (En.slice En.SItem)) (opn d t)),(52,Pd.rep (En.int .i64) ((opn d t).length:Int)),(53,Pd.rep (En.int .i64) (i:Int)),(999902,Pd.mapc En.str kvStr Efmp g ys2)]) 61 hL (x:=60) rfl rfl rfl rfl rfl (by decide)
  (.cons (t:=0) rfl (fun _ h_=>h_.elim) (.cons (t:=5) rfl (fun _ h_=>h_.elim) (.cons (t:=8) rfl (fun b hb e=>by cases hb;cases e;omega) (.cons (t:=51) rfl (fun _ h_=>h_.elim) (.cons (t:=52) rfl (fun _ h_=>h_.elim) (.cons (t:=53) rfl (fun _ h_=>h_.elim) (.cons (t:=999902) rfl (fun b hb e=>by cases hb;cases e;omega) .nil))))))) (fun a hrem hL=>?_) (fun a s p rem' hp hL=>?_)
 ·subst hrem;refine st 62 (t_nx (o_t 61 rfl) rfl rfl) rfl rfl hL fun a s e_ hL=>?_;refine en' ?_;show K23 a s.w;refine hK23 _ _ ?_;refine wp_seq_k fun K24 hK24=>?_;refine cnd hL rfl (fun hb3_=>by cases hb3_) (fun _=>?_);refine wp_exit ?_;refine J2 a s out (hL.keep (.cons (t:=0) rfl (fun _ h_=>h_.elim) (.cons (t:=5) rfl (fun _ h_=>h_.elim) (.cons (t:=8) rfl (fun _ _ h_=>h_) (.cons (t:=51) rfl (fun _ h_=>h_.elim) (.cons (t:=52) rfl (fun _ h_=>h_.elim) (.cons (t:=53) rfl (fun _ h_=>h_.elim) (.cons (t:=999902) rfl (fun _ _ h_=>h_) .nil)))))))) (hout.congr fun u=>by rw [cnt_nil])
 have hleft2:=hleft.perm hp;have hout2:zl6 (cnt f c (p::rem')) out:=hout.congr fun u=>by rw [cnt_perm hp]
 obtain ⟨e1,e2,e3⟩:=hleft2.ent p (by simp);have hp2:1≤p.2.2∧p.2.2≤2:=by rw [e3];unfold sat;omega
 have hmg:0≤(zel out p.1 (([],0):SBranch)).2∧(zel out p.1 (([],0):SBranch)).2≤2:=by rw [e1,hout2.get];unfold sat;omega
 refine st 62 (t_nx (o_t 61 rfl) rfl rfl) rfl rfl hL fun a s e_ hL=>?_;refine en' ?_;show K23 a s.w;refine hK23 _ _ ?_;refine wp_seq_k fun K24 hK24=>?_;refine cnd hL rfl (fun _=>?_) (fun hb3_=>by cases hb3_);refine wp_skip ?_;show K24 a s.w;refine hK24 _ _ ?_;refine wp_block ?_;refine wp_seq_k fun K25 hK25=>?_;refine rg ?_;refine st 63 (t_entry (o_t 60 rfl) (zem Tryz.underlying9) rfl rfl) rfl rfl hL fun a s e_ hL=>?_;refine st 64 (t_ext0 (o_t 63 rfl) rfl rfl) rfl rfl hL fun a s e_ hL=>?_;refine st 65 (znm (o_t 63 rfl) rfl rfl) rfl rfl hL fun a s e_ hL=>?_;have l8:=(zmv (hL.get 8 rfl) g8 rfl).2;have lr:=hL.ilt 60 rfl r rfl;have lg:g<s.w.heap.size:=Nat.lt_of_lt_of_le hgs hL.ent.mv.size;refine z8 En.SBranch (z:=(([],0):SBranch)) 12 hL zl8 rfl rfl rfl rfl fun a s g12 hg12 hL=>?_;refine st 11 (zbn (o_t 64 rfl) rfl rfl) rfl rfl hL fun a s e_ hL=>?_;refine st_stb (L':=[(0,Pd.ptr Efinder (d,some g)),(5,Pd.rep En.str (keyS t)),(8,Pd.map En.str kvStr En.SBranch s0.w.heap.size (some g8) out),(11,Pd.rep En.str p.1),(51,Pd.rep (En.slice (En.slice En.SItem)) (opn d t)),(52,Pd.rep (En.int .i64) ((opn d t).length:Int)),(53,Pd.rep (En.int .i64) (i:Int)),(60,Pd.iter En.str kvStr En.SBranch s0.w.heap.size r rem' (some p)),(999902,Pd.mapc En.str kvStr Efmp g ys2)]) 12 hL rfl (o_t 65 rfl) ty98 rfl rfl rfl
  (.cons (t:=0) rfl (fun _ h_=>h_.elim) (.cons (t:=5) rfl (fun _ h_=>h_.elim) (.cons (t:=8) rfl (fun b hb e=>by cases hb;cases e;omega) (.cons (t:=11) rfl (fun _ h_=>h_.elim) (.cons (t:=51) rfl (fun _ h_=>h_.elim) (.cons (t:=52) rfl (fun _ h_=>h_.elim) (.cons (t:=53) rfl (fun _ h_=>h_.elim) (.cons (t:=60) rfl (fun b hb e=>by cases hb;cases e;omega) (.cons (t:=999902) rfl (fun b hb e=>by cases hb;cases e;omega) .nil))))))))) fun s hL=>?_
 refine en' ?_;show K25 a s.w;refine hK25 _ _ ?_;refine wp_seq_k fun K26 hK26=>?_;refine rg ?_;refine st 66 (zq (o_t 8 rfl) rfl rfl) rfl rfl hL fun a s e_ hL=>?_;refine st 67 (zq (o_t 11 rfl) rfl rfl) rfl rfl hL fun a s e_ hL=>?_;refine st 68 (zpr (z:=(([],0):SBranch)) (o_t 66 rfl) (o_t 67 rfl) Tryz.underlying164 (zem Tryz.underlying9) tyvBranch rfl rfl) rfl rfl hL fun a s e_ hL=>?_;have l8:=(zmv (hL.get 8 rfl) g8 rfl).2;have lr:=hL.ilt 60 rfl r rfl;have lg:g<s.w.heap.size:=Nat.lt_of_lt_of_le hgs hL.ent.mv.size;have l12:=hL.blt 12 rfl g12 rfl;refine z8 En.SBranch (z:=(([],0):SBranch)) 13 hL zl8 rfl rfl rfl rfl fun a s g13 hg13 hL=>?_;refine st_stb (L':=[(0,Pd.ptr Efinder (d,some g)),(5,Pd.rep En.str (keyS t)),(8,Pd.map En.str kvStr En.SBranch s0.w.heap.size (some g8) out),(11,Pd.rep En.str p.1),(12,Pd.box En.SBranch s0.w.heap.size g12 p.2),(51,Pd.rep (En.slice (En.slice En.SItem)) (opn d t)),(52,Pd.rep (En.int .i64) ((opn d t).length:Int)),(53,Pd.rep (En.int .i64) (i:Int)),(60,Pd.iter En.str kvStr En.SBranch s0.w.heap.size r rem' (some p)),(999902,Pd.mapc En.str kvStr Efmp g ys2)]) 13 hL rfl (o_t 68 rfl) ty98 rfl rfl rfl
  (.cons (t:=0) rfl (fun _ h_=>h_.elim) (.cons (t:=5) rfl (fun _ h_=>h_.elim) (.cons (t:=8) rfl (fun b hb e=>by cases hb;cases e;omega) (.cons (t:=11) rfl (fun _ h_=>h_.elim) (.cons (t:=12) rfl (fun b hb e=>by cases hb;cases e;omega) (.cons (t:=51) rfl (fun _ h_=>h_.elim) (.cons (t:=52) rfl (fun _ h_=>h_.elim) (.cons (t:=53) rfl (fun _ h_=>h_.elim) (.cons (t:=60) rfl (fun b hb e=>by cases hb;cases e;omega) (.cons (t:=999902) rfl (fun b hb e=>by cases hb;cases e;omega) .nil)))))))))) fun s hL=>?_
 refine en' ?_;show K26 a s.w;refine hK26 _ _ ?_;refine rg ?_;refine st 69 (zq (o_t 8 rfl) rfl rfl) rfl rfl hL fun a s e_ hL=>?_;refine st 70 (zq (o_t 11 rfl) rfl rfl) rfl rfl hL fun a s e_ hL=>?_;refine st 71 (zqm (off:=0) (o_t 12 rfl) Tryz.underlying98 rfl (zbr (z7 _ _)) rfl ty59 rfl rfl) rfl rfl hL fun a s e_ hL=>?_;refine st 72 (zcq ty59 (o_t 71 rfl) rfl rfl) rfl rfl hL fun a s e_ hL=>?_;refine st 73 (zqm (off:=1) (o_t 13 rfl) Tryz.underlying98 rfl (zw (z7 _ _) rfl) rfl ty3 rfl rfl) rfl rfl hL fun a s e_ hL=>?_;refine st 74 (zcq ty3 (o_t 73 rfl) rfl rfl) rfl rfl hL fun a s e_ hL=>?_;refine st 75 (zqm (off:=1) (o_t 12 rfl) Tryz.underlying98 rfl (zw (z7 _ _) rfl) rfl ty3 rfl rfl) rfl rfl hL fun a s e_ hL=>?_;refine st 76 (zcq ty3 (o_t 75 rfl) rfl rfl) rfl rfl hL fun a s e_ hL=>?_;refine st 77 (t_add (o_t 74 rfl) (o_t 76 rfl) (zj (by omega) (by omega)) rfl rfl) rfl rfl hL fun a s e_ hL=>?_;refine st 78 (t_min (o_t 77 rfl) (o_i (k:=.i64) (by decide)) rfl rfl) rfl rfl hL fun a s e_ hL=>?_;refine st 79 (zbj (x:=((p.2.1,min ((zel out p.1 (([],0):SBranch)).2+p.2.2) 2):SBranch)) (ps:=[(0,.tmp 72),(1,.tmp 78)]) zl8 rfl stt98 (.cons (i:=0) (o_t 72 rfl) rfl (zu (zk _ _ _)) (.cons (i:=1) (o_t 78 rfl) rfl (zi (zk _ _ _) rfl) .nil)) rfl rfl) rfl rfl hL fun a s e_ hL=>?_;refine zg4 (L':=[(0,Pd.ptr Efinder (d,some g)),(5,Pd.rep En.str (keyS t)),(8,Pd.map En.str kvStr En.SBranch s0.w.heap.size (some g8) (zf5 out p.1 (p.2.1,min ((zel out p.1 (([],0):SBranch)).2+p.2.2) 2))),(51,Pd.rep (En.slice (En.slice En.SItem)) (opn d t)),(52,Pd.rep (En.int .i64) ((opn d t).length:Int)),(53,Pd.rep (En.int .i64) (i:Int)),(60,Pd.iter En.str kvStr En.SBranch s0.w.heap.size r rem' (some p)),(999902,Pd.mapc En.str kvStr Efmp g ys2)]) hL (o_t 69 rfl) (o_t 70 rfl) (o_t 79 rfl) Tryz.underlying164 (zem Tryz.underlying9) (.inl rfl) rfl rfl
  (.cons (t:=0) rfl (fun _ h_=>h_.elim) (.cons (t:=5) rfl (fun _ h_=>h_.elim) (.turn (t:=8) rfl (.cons (t:=51) rfl (fun _ h_=>h_.elim) (.cons (t:=52) rfl (fun _ h_=>h_.elim) (.cons (t:=53) rfl (fun _ h_=>h_.elim) (.cons (t:=60) rfl (fun b hb e=>by cases hb;cases e;omega) (.cons (t:=999902) rfl (fun b hb e=>by cases hb;cases e;omega) .nil)))))))) fun s hL=>?_
 refine en' ?_;have hpl:=hp.length_eq;simp only [List.length_cons] at hpl;exact hKM (k2-1) a s (by omega) ⟨rem',some p,_,by omega,hL,hleft2.tail.1,cnt_step hleft2 hout2⟩
theorem find_ok {d:List SNode} (hd:ROk d) (hk:DOk d) (hl4:d.length≤400) (g:Nat) (hd0:∃n,at? d 0=some n):∀(h:Nat) (t:List SItem) (l:List (List SItem)),lv d h t=some l→Vs d 400 t→∀xs,InvS d xs→FndOk d g t xs
 | 0,t,l,hl,_,_,_=>by simp [lv] at hl
 | h+1,t,l,hl,hv,xs,hxs=>find_step hd hk hl4 g (find_ok hd hk hl4 g hd0 h) hd0 hl hv hxs
theorem lv_vs {d:List SNode} (hd:ROk d) {n0:Nat}:∀(h:Nat) (t:List SItem) (l:List (List SItem)),lv d h t=some l→Vs d n0 t→∀u∈l,Vs d n0 u∧rdy d u=true
 | 0,t,l,hl,_=>by simp [lv] at hl
 | h+1,t,l,hl,hv=>by
  intro u hu;unfold lv at hl
  by_cases hr:rdy d t=true
  ·rw [if_pos hr] at hl;cases hl;rw [List.mem_singleton.1 hu];exact ⟨hv,hr⟩
  ·rw [if_neg hr] at hl;obtain ⟨ls,h1,h2⟩:=Option.map_eq_some_iff.1 hl;subst h2;obtain ⟨l',hl',hu'⟩:=List.mem_flatten.1 hu;obtain ⟨i,hi⟩:=List.getElem?_of_mem hl';have hil:i<(opn d t).length:=by rw [← znc h1];exact (List.getElem?_eq_some_iff.1 hi).1
   obtain ⟨b,hb1,hb2⟩:=zrw h1 hil;rw [hi] at hb2;cases hb2;exact lv_vs hd h _ _ hb1 (hv.opn hd (by simpa using hr) _ (List.getElem_mem hil)) u hu'
theorem zhn {d_:SDesc} {s_:List SItem} {r_:List SBranch} (hh:zfs d_ s_ r_):Fn Tryz.prog 86 [Pd.rep En.SDesc d_,Pd.rep (En.slice En.SItem) s_] (Ro En.SBranch 98 r_):=by
 obtain ⟨hd,hk,hl4,hne,hf,hs4,hr31,h,l,hl,hcan⟩:=hh;have hv:Vs d_ 400 s_:=Vs.start hf hs4;refine zbk Tryz.func86 rfl Tryz.ntmps86 (by rfl) (by simp) fun s0 a hL=>?_;refine wp_seq_k fun K0 hK0=>?_;refine rg ?_;refine st 2 (t_box (o_t 0 rfl) rfl rfl) rfl rfl hL fun a s e_ hL=>?_;refine st 4 (zbn (q:=Pd.any) (fun _ _ _ _ _ _=>trivial) rfl rfl) rfl rfl hL fun a s e_ hL=>?_;refine en' ?_;show K0 a s.w;refine hK0 _ _ ?_;refine wp_seq_k fun K1 hK1=>?_;refine rg ?_;refine st 9 (zcj ty24 (o_t 2 rfl) rfl rfl) rfl rfl hL fun a s e_ hL=>?_;refine zjs 10 En.str kvStr Efmp hL rfl rfl rfl rfl fun a s g hg hL=>?_;have hgN:s0.w.heap.size≤g:=(zmv (hL.get 10 rfl) g rfl).1;have hL:=hL.mapc 10 999902 rfl;refine st 11 (zbj (x:=((d_,some g):SDesc × Option Nat)) (ps:=[(0,.tmp 9),(1,.tmp 10)]) tyzFinder rfl sttFinder (.cons (i:=0) (o_t 9 rfl) rfl (zu (zk _ _ _)) (.cons (i:=1) (o_t 10 rfl) rfl (zi (zk _ _ _) rfl) .nil)) rfl rfl) rfl rfl hL fun a s e_ hL=>?_;refine st 12 (t_box (o_t 11 rfl) rfl rfl) rfl rfl hL fun a s e_ hL=>?_;refine st 5 (zbn (o_t 12 rfl) rfl rfl) rfl rfl hL fun a s e_ hL=>?_;refine en' ?_;show K1 a s.w;refine hK1 _ _ ?_;refine wp_seq_k fun K2 hK2=>?_;refine rg ?_;refine st 6 (zbn (o_nil (E:=En.SBranch) (N:=s0.w.heap.size) (te:=98)) rfl rfl) rfl rfl hL fun a s e_ hL=>?_;refine en' ?_;show K2 a s.w;refine hK2 _ _ ?_;refine wp_seq_k fun K3 hK3=>?_;refine wp_seq_k fun K4 hK4=>?_;refine rg ?_;refine st 13 (zq (o_t 5 rfl) rfl rfl) rfl rfl hL fun a s e_ hL=>?_;refine st 14 (zq (o_t 1 rfl) rfl rfl) rfl rfl hL fun a s e_ hL=>?_
 have hd0:∃n,at? d_ 0=some n:=by
  cases d_ with
  | nil=>exact absurd rfl hne
  | cons n d=>exact ⟨n,rfl⟩
 refine st_callc (L':=[(6,Pd.row En.SBranch s0.w.heap.size 98 none [])]) 15 999902 hL (find_ok hd hk hl4 g hd0 h s_ l hl hv [] (InvS.nil _)) rfl (.inr hgN) (zs:=[.tmp 13,.tmp 14]) (.cons (o_t 13 rfl) (.cons (o_t 14 rfl) .nil)) rfl rfl rfl rfl
  (.cons (t:=6) rfl no_own .nil) fun a s im him hL=>?_
 obtain ⟨m,ys2⟩:=im;obtain ⟨⟨h2,l2,hl2,hm⟩,hys2⟩:=him;simp only at hl2 hm hys2;have hl2e:l2=l:=by
  have h3:=zje (Nat.le_max_left h2 h) hl2;have h4:=zje (Nat.le_max_right h2 h) hl;rw [h3] at h4;exact Option.some.inj h4
 subst hl2e;refine zqq 16 hL (o_t 15 rfl) Tryz.underlying164 rfl rfl rfl rfl fun a s r hr hL=>?_;refine en' ?_;show K4 a s.w;refine hK4 _ _ ?_;refine wp_block ?_;have J:∀(a:Act) (s:St) (og:Option Nat) (out:List SBranch),Has N0 28 s0 a s [(6,Pd.row En.SBranch s0.w.heap.size 98 og out)]→out.Perm (m.map (·.2))→K3 a s.w:=by
  intro a s og out hL hp;obtain ⟨hnd,hc2⟩:=hm.can hp;have hrr:r_=srtB out:=hcan.uniq hc2;have hlen:out.length≤2147483648:=by
   have:=(zgo out).length_eq;rw [hrr] at hr31;omega
  have hsrt:zg6 out r_:=by
   refine ⟨hnd,fun b hb=>?_,hlen,hrr⟩;obtain ⟨p,hp1,hp2⟩:=List.mem_map.1 (hp.mem_iff.1 hb);obtain ⟨k,b'⟩:=p;simp only at hp2;subst hp2;have hc:=((hm.mem k _).1 hp1).2.1;have hmem:b'.1∈l2:=by
    rcases Nat.eq_zero_or_pos (l2.count b'.1) with h0 | h0
    ·exact absurd h0 hc
    ·exact List.count_pos_iff.1 h0
   have:=(lv_vs hd h s_ l2 hl hv _ hmem).1.len;omega
  refine hK3 _ _ ?_;refine wp_seq_k fun K7 hK7=>?_;refine rg ?_;refine st 25 (zq (o_t 6 rfl) rfl rfl) rfl rfl hL fun a s e_ hL=>?_;refine zkz (L':=[(6,Pd.row En.SBranch s0.w.heap.size 98 og r_)]) 26 (fun v0=>zi2 v0 hsrt) hL (o_t 25 rfl) (zs:=[.func 113]) (.cons o_isf .nil) rfl rfl rfl rfl (.turn (t:=6) rfl .nil) fun a s hL=>?_;refine en' ?_;show K7 a s.w;refine hK7 _ _ ?_;refine wp_seq_k fun K8 hK8=>?_;refine rg ?_;refine st 27 (zq (o_t 6 rfl) rfl rfl) rfl rfl hL fun a s e_ hL=>?_;refine st 4 (zbn (o_t 27 rfl) rfl rfl) rfl rfl hL fun a s e_ hL=>?_;refine en' ?_;show K8 a s.w;refine hK8 _ _ ?_;exact wp_ret (zfj rfl hL rfl)
 have hmlen:m.length≤2147483648:=by
  have hp:=(hm.can (List.Perm.refl (m.map (·.2)))).2;have e:=hcan.uniq hp;have:=(zgo (m.map (·.2))).length_eq;rw [e] at hr31;rw [List.length_map] at this;omega
 refine lpg (fun k a s=>∃(rem:List (Str × SBranch)) (cur:Option (Str × SBranch)) (og:Option Nat) (out:List SBranch),rem.length+1=k∧Has N0 28 s0 a s [(6,Pd.row En.SBranch s0.w.heap.size 98 og out),(16,Pd.iter En.str kvStr En.SBranch s0.w.heap.size r rem cur)]∧(∀b,og=some b→¬ some r=some b)∧(out++rem.map (·.2)).Perm (m.map (·.2)))
  (m.length+1) ⟨m,none,none,[],rfl,hL.keep (.cons (t:=6) rfl (fun _ _ h_=>h_) (.cons (t:=16) rfl (fun _ _ h_=>h_) .nil)),(fun b hb=>by cases hb),by simp⟩ ?_
 rintro k a s ⟨rem,cur,og,out,hrk,hL,hdis,hperm⟩ KL hKL;refine wp_seq_k fun K5 hK5=>?_;refine rg ?_;refine st_next (L':=[(6,Pd.row En.SBranch s0.w.heap.size 98 og out)]) 17 hL (x:=16) rfl rfl rfl rfl rfl (by decide) (.cons (t:=6) rfl hdis .nil) (fun a hrem hL=>?_) (fun a s p rem' hp hL=>?_)
 ·subst hrem;refine st 18 (t_nx (o_t 17 rfl) rfl rfl) rfl rfl hL fun a s e_ hL=>?_;refine en' ?_;show K5 a s.w;refine hK5 _ _ ?_;refine wp_seq_k fun K6 hK6=>?_;refine cnd hL rfl (fun hb3_=>by cases hb3_) (fun _=>?_);refine wp_exit ?_;exact J a s og out (hL.keep (.cons (t:=6) rfl (fun _ _ h_=>h_) .nil)) (by simpa using hperm)
 refine st 18 (t_nx (o_t 17 rfl) rfl rfl) rfl rfl hL fun a s e_ hL=>?_;refine en' ?_;show K5 a s.w;refine hK5 _ _ ?_;refine wp_seq_k fun K6 hK6=>?_;refine cnd hL rfl (fun _=>?_) (fun hb3_=>by cases hb3_);refine wp_skip ?_;show K6 a s.w;refine hK6 _ _ ?_;refine wp_block ?_;refine wp_seq_k fun K9 hK9=>?_;refine rg ?_;refine st 19 (t_entry (o_t 16 rfl) (zem Tryz.underlying9) rfl rfl) rfl rfl hL fun a s e_ hL=>?_;refine st 20 (znm (o_t 19 rfl) rfl rfl) rfl rfl hL fun a s e_ hL=>?_;have l6:=hL.rlt 6 rfl;have lr:=hL.ilt 16 rfl r rfl;refine z8 En.SBranch (z:=(([],0):SBranch)) 8 hL zl8 rfl rfl rfl rfl fun a s g8 hg8 hL=>?_;have d6:∀b,og=some b→¬ some g8=some b:=fun b hb e=>by cases e;have:=l6 g8 hb;omega
 refine st_stb (L':=[(6,Pd.row En.SBranch s0.w.heap.size 98 og out),(16,Pd.iter En.str kvStr En.SBranch s0.w.heap.size r rem' (some p))]) 8 hL rfl (o_t 20 rfl) ty98 rfl rfl rfl (.cons (t:=6) rfl d6 (.cons (t:=16) rfl (fun b hb e=>by cases hb;cases e;omega) .nil)) fun s hL=>?_;refine en' ?_;show K9 a s.w;refine hK9 _ _ ?_;refine rg ?_;have hpl:=hp.length_eq;simp only [List.length_cons] at hpl;have hol:out.length+(rem.length:Nat)=m.length:=by
  have:=hperm.length_eq;simpa using this
 refine st 21 (zq (o_t 6 rfl) rfl rfl) rfl rfl hL fun a s e_ hL=>?_;refine st 22 (zqk ty98 (o_t 8 rfl) rfl rfl) rfl rfl hL fun a s e_ hL=>?_;refine st 23 (t_lit (xs:=[.tmp 22]) (.cons (o_t 22 rfl) .nil) Tryz.underlying94 ty98 rfl rfl (by decide) rfl rfl) rfl rfl hL fun a s e_ hL=>?_;have lr:=hL.ilt 16 rfl r rfl;refine zb1 (L':=[(16,Pd.iter En.str kvStr En.SBranch s0.w.heap.size r rem' (some p))]) 24 hL (o_t 21 rfl) (o_t 23 rfl) Tryz.underlying94 ty98 (by simp;omega) rfl rfl rfl rfl (.cons (t:=16) rfl (fun b hb e=>hdis b e hb) .nil) fun a s og' hg' hL=>?_;refine st 6 (zbn (o_t 24 rfl) rfl rfl) rfl rfl hL fun a s e_ hL=>?_;refine en' ?_;refine hKL (k-1) a s (by omega) ⟨rem',some p,og',out++[p.2],by omega,hL.keep (.cons (t:=6) rfl (fun _ _ h_=>h_) (.cons (t:=16) rfl (fun _ _ h_=>h_) .nil)),fun b hb e=>?_, ?_⟩
 ·rcases hg' b hb with h3 | h3
  ·exact hdis b h3 e
  ·cases e;omega
 ·refine List.Perm.trans ?_ hperm;have h5:=hp.map (·.2);rw [List.map_cons] at h5;rw [List.append_assoc,List.singleton_append];exact (h5.symm.append_left out)
set_option maxRecDepth 100000
set_option maxHeartbeats 2000000
set_option synthInstance.maxSize 100000
set_option synthInstance.maxHeartbeats 200000
theorem zo8 {d_:SDesc} {s_:(List SItem)} {r_:Bool} (h:zig d_ s_ r_):Fn Tryz.prog 137 [(Pd.rep En.SDesc d_),(Pd.rep (En.slice En.SItem) s_)] (Rq (Pd.rep En.bool r_)):=by
 unfold zig at h;refine zbk Tryz.func137 J Tryz.ntmps137 (by rfl) (by simp) fun s0 a L=>?_;refine rA 2 L fun a s L=>?_;refine wp_seq_k fun K1 H1=>?_;obtain ⟨e2,h3,e4,h5,b6,h7,h⟩:=h;refine ra 17 (pp h3 (pp h5 (p1 h7))) L fun a s L=>?_;refine cn L h (fun h=>?_) fun h=>?_
 ·refine rA 1 L fun a s L=>?_;subst h;exact wp_ret (zdp J L J)
 ·refine wp_skip (H1 _ _ ?_);obtain ⟨e8,h9,e10,h11,h⟩:=h;refine wp_seq (rdx 9 (pp h9 (p1 h11)) L fun a s L=>?_);refine sA 1 L fun a s L=>?_;refine es ?_;obtain ⟨e12,h13,b14,h15,h⟩:=h;refine ra 18 (pp h13 (p1 h15)) L fun a s L=>?_;subst h;exact wp_ret (zdp J L J)
theorem zcb {l_:(List SItem)} {s_:(List SItem)} {r_:(List SItem)} (h:zb8 l_ s_ r_):Fn Tryz.prog 138 [(Pd.rep (En.slice En.SItem) l_),(Pd.rep (En.slice En.SItem) s_)] (Ro En.SItem 57 r_):=by
 unfold zb8 at h;refine zbk Tryz.func138 J Tryz.ntmps138 (by rfl) (by simp) fun s0 a L=>?_;refine rs (sno En.SItem 57 L fun a s L=>?_);refine es ?_;obtain ⟨h2,h4,h⟩:=h;refine rs (st_new En.SItem 5 L Ud.h Tq.h J J J J fun a s g1 hg_ L=>?_);refine sA 1 L fun a s L=>?_;refine st_appu 7 L op op Ud.h Ud.h Tq.h h2 J J J J ka fun a s og3 hg_ L=>?_;refine sA 1 L fun a s L=>?_;refine zb1 9 L op op Ud.h Tq.h h4 J J J J ka fun a s og5 hg_ L=>?_;refine sA 1 L fun a s L=>?_;refine es ?_;subst h;exact wp_ret (zfj J L J)
theorem zi8 {l_:(List SBranch)} {s_:(List SItem)} {many_:Int} {r_:(List SBranch)} (h:zby l_ s_ many_ r_):Fn Tryz.prog 57 [(Pd.rep (En.slice En.SBranch) l_),(Pd.rep (En.slice En.SItem) s_),(Pi many_)] (Ro En.SBranch 98 r_):=by
 unfold zby at h;refine zbk Tryz.func57 J Tryz.ntmps57 (by rfl) (by simp) fun s0 a L=>?_;refine rs (sno En.SBranch 98 L fun a s L=>?_);refine es (rs ?_);refine sno En.SBranch 98 L fun a s L=>?_;refine es (rA 1 L fun a s L=>?_);refine wp_seq_k fun K1 H1=>rA 1 L fun a s L=>?_;refine wp_block ?_;have J5:∀(out2:(List SBranch)) (done4:Bool) (og3:Option Nat) (a:Act) (s:St),Has N0 67 s0 a s [(1,(Pd.rep (En.slice En.SItem) s_)),(2,(Pi many_)),(7,(Pd.row En.SBranch s0.w.heap.size 98 og3 out2)),(8,(Pd.rep En.bool done4))]→((zby.j1 s_ many_ r_) out2 done4)→K1 a s.w:=by
  intro out2 done4 og3 a s L h;unfold zby.j1 at h;show K1 a s.w;refine H1 _ _ (wp_seq_k fun K6 H6=>?_);refine rA 2 L fun a s L=>?_;refine cn L h (fun h=>?_) fun h=>?_
  ·obtain ⟨h7,h⟩:=h;refine rg (sA 3 L fun a s L=>?_);refine sv (zbj (x:=(s_,many_)) (ps:=[(0,.tmp 61),(1,.tmp 62)]) zl8 J stt98 (.cons (i:=0) op J (zu (zk _ _ _)) (.cons (i:=1) op J (zi (zk _ _ _) J) .nil)) J J) L fun a s L=>?_;refine sA 1 L fun a s L=>?_;refine zb1 65 L op op Ud.h Tq.h h7 J J J J ka fun a s og8 hg_ L=>?_;refine sA 1 L fun a s L=>?_;refine en' (H6 _ _ ?_);refine rA 2 L fun a s L=>?_;subst h;exact wp_ret (zfj J L J)
  ·refine wp_skip (H6 _ _ ?_);refine rA 2 L fun a s L=>?_;subst h;exact wp_ret (zfj J L J)
 obtain ⟨k13,h⟩:=h;refine lpn (fun k14 a s=>∃(out9:(List SBranch)) (done11:Bool) (i12:Int) (og10:Option Nat),Has N0 67 s0 a s [(0,(Pd.rep (En.slice En.SBranch) l_)),(1,(Pd.rep (En.slice En.SItem) s_)),(2,(Pi many_)),(7,(Pd.row En.SBranch s0.w.heap.size 98 og10 out9)),(8,(Pd.rep En.bool done11)),(9,(Pi i12))]∧zby.l1 l_ s_ many_ (zby.j1 s_ many_ r_) k14 out9 done11 i12) k13 ⟨([]:(List SBranch)),false,0,none,L.kk,h⟩ ?_;rintro k14 a s ⟨out9,done11,i12,og10,L,h⟩ KL15 hKL15;unfold zby.l1 at h;refine wp_seq_k fun K16 H16=>rA 4 L fun a s L=>?_;refine cn L h (fun h=>?_) fun h=>?_
 ·refine wp_skip (H16 _ _ ?_);refine wp_seq_k fun K17 H17=>wp_block ?_;obtain ⟨e18,h19,r20,h21,h⟩:=h;refine ra 8 (pp h19 (p1 (ziw h21))) L fun a s L=>?_;refine wp_seq_k fun K22 H22=>rA 2 L fun a s L=>?_;refine cn L h (fun h=>?_) fun h=>?_
  ·obtain ⟨e23,h24,h25,h26,h⟩:=h;refine rs (sl 10 (p1 h24) L fun a s L=>?_);refine sv (zbj (x:=(s_,(min 2 (e23.2+many_)))) (ps:=[(0,.tmp 27),(1,.tmp 35)]) zl8 J stt98 (.cons (i:=0) op J (zu (zk _ _ _)) (.cons (i:=1) op J (zi (zk _ _ _) J) .nil)) J J) L fun a s L=>?_;refine sA 1 L fun a s L=>?_;refine zb1 38 L op op Ud.h Tq.h h26 J J J J ka fun a s og27 hg_ L=>?_;refine sA 1 L fun a s L=>?_;refine es (rA 1 L fun a s L=>?_);refine wp_exit ?_;show K17 a s.w;refine H17 _ _ ?_;obtain ⟨h28,h⟩:=h;refine rg (sA 3 L fun a s L=>?_);refine en' ?_;exact hKL15 a s ⟨(out9++[(s_,(min 2 (e23.2+many_)))]),true,(i12+1),og27,L.kk,h⟩
  ·refine wp_skip (H22 _ _ ?_);refine wp_seq_k fun K29 H29=>rA 6 L fun a s L=>?_;have J33:∀(out30:(List SBranch)) (done32:Bool) (og31:Option Nat) (a:Act) (s:St),Has N0 67 s0 a s [(0,(Pd.rep (En.slice En.SBranch) l_)),(1,(Pd.rep (En.slice En.SItem) s_)),(2,(Pi many_)),(7,(Pd.row En.SBranch s0.w.heap.size 98 og31 out30)),(8,(Pd.rep En.bool done32)),(9,(Pi i12))]→((zby.j2 (zby.l1 l_ s_ many_ (zby.j1 s_ many_ r_) k14) l_ i12) out30 done32)→K29 a s.w:=by
    intro out30 done32 og31 a s L h;unfold zby.j2 at h;show K29 a s.w;refine H29 _ _ ?_;obtain ⟨e34,h35,h36,h⟩:=h;refine rg (sl 6 (p1 h35) L fun a s L=>?_);refine zb1 57 L op op Ud.h Tq.h h36 J J J J ka fun a s og37 hg_ L=>?_;refine sA 1 L fun a s L=>?_;refine en' (H17 _ _ ?_);obtain ⟨h38,h⟩:=h;refine rg (sA 3 L fun a s L=>?_);refine en' ?_;exact hKL15 a s ⟨(out30++[e34]),done32,(i12+1),og37,L.kk,h⟩
   refine cn L h (fun h=>?_) fun h=>?_
   ·obtain ⟨h39,h⟩:=h;refine rs (sA 3 L fun a s L=>?_);refine sv (zbj (x:=(s_,many_)) (ps:=[(0,.tmp 46),(1,.tmp 47)]) zl8 J stt98 (.cons (i:=0) op J (zu (zk _ _ _)) (.cons (i:=1) op J (zi (zk _ _ _) J) .nil)) J J) L fun a s L=>?_;refine sA 1 L fun a s L=>?_;refine zb1 50 L op op Ud.h Tq.h h39 J J J J ka fun a s og40 hg_ L=>?_;refine sA 1 L fun a s L=>?_;refine es (rg ?_);refine sA 1 L fun a s L=>?_;refine en' ?_;exact J33 (out9++[(s_,many_)]) true og40 a s (L.kk) h
   ·refine wp_skip ?_;exact J33 out9 done11 og10 a s (L.kk) h
 ·refine wp_exit ?_;exact J5 out9 done11 og10 a s (L.kk) h
theorem zq6 {d_:SDesc} {s_:(List SItem)} {r_:(List (List SItem))} (h:zb7 d_ s_ r_):Fn Tryz.prog 139 [(Pd.rep En.SDesc d_),(Pd.rep (En.slice En.SItem) s_)] (Ro (En.slice En.SItem) 59 r_):=by
 unfold zb7 at h;refine zbk Tryz.func139 J Tryz.ntmps139 (by rfl) (by simp) fun s0 a L=>?_;refine rs (sA 1 L fun a s L=>?_);refine sno (En.slice En.SItem) 59 L fun a s L=>?_;refine es ?_;obtain ⟨e1,h2,h⟩:=h;refine rs (sl 3 (p1 h2) L fun a s L=>?_);refine z8 En.SItem (z:=(0,0,0,0)) 5 L zej J J J J fun a s g3 hg_ L=>?_;refine sB 5 L fun s L=>?_;refine es ?_;obtain ⟨h4,h⟩:=h;refine rA 3 L fun a s L=>?_;obtain ⟨e5,h6,h⟩:=h;refine rs (sl 6 (p1 h6) L fun a s L=>?_);have lt_d8:=L.blt 5 rfl;refine z8 En.SNode (z:=(0,0,0,0,0,(0#256),([]:Str))) 7 L zkx J J J J fun a s g7 hg_ L=>?_;have d8:=Dis.newg hg_ lt_d8;refine sB 7 L fun s L=>?_;refine es (rs ?_);refine sA 2 L fun a s L=>?_;refine sv (zbj (x:=(1,e5.2.1,0,0)) (ps:=[(0,.const (.int .i64 1)),(1,.tmp 23)]) zej J zhu (.cons (i:=0) op J (zu (zk _ _ _)) (.cons (i:=1) op J (zi (zu (zk _ _ _)) J) .nil)) J J) L fun a s L=>?_;have lt_d11:=L.blt 7 rfl;have lt_d10:=L.blt 5 rfl;refine z8 En.SItem (z:=(0,0,0,0)) 8 L zej J J J J fun a s g9 hg_ L=>?_;have d10:=Dis.newg hg_ lt_d10;have d11:=Dis.newg hg_ lt_d11;refine sB 8 L fun s L=>?_;refine es (rs ?_);refine sA 2 L fun a s L=>?_;refine sv (zbj (x:=(1,e5.2.2.1,0,0)) (ps:=[(0,.const (.int .i64 1)),(1,.tmp 26)]) zej J zhu (.cons (i:=0) op J (zu (zk _ _ _)) (.cons (i:=1) op J (zi (zu (zk _ _ _)) J) .nil)) J J) L fun a s L=>?_;have lt_d15:=L.blt 8 rfl;have lt_d14:=L.blt 7 rfl;have lt_d13:=L.blt 5 rfl;refine z8 En.SItem (z:=(0,0,0,0)) 9 L zej J J J J fun a s g12 hg_ L=>?_;have d13:=Dis.newg hg_ lt_d13;have d14:=Dis.newg hg_ lt_d14
 have d15:=Dis.newg hg_ lt_d15;refine sB 9 L fun s L=>?_;refine es (rs ?_);refine sno (En.slice En.SItem) 59 L fun a s L=>?_;refine es (wp_seq_k fun K16 H16=>?_);refine rA 3 L fun a s L=>?_;refine cn L h (fun h=>?_) fun h=>?_
 ·refine wp_seq_k fun K17 H17=>?_;refine rA 3 L fun a s L=>?_;have J20:∀(out18:(List (List SItem))) (og19:Option Nat) (a:Act) (s:St),Has N0 143 s0 a s [(10,(Pd.row (En.slice En.SItem) s0.w.heap.size 59 og19 out18))]→((zb7.j1 r_) out18)→K17 a s.w:=by
   intro out18 og19 a s L h;unfold zb7.j1 at h;show K17 a s.w;refine H17 _ _ (rA 2 L fun a s L=>?_);subst h;exact wp_ret (zfj J L J)
  refine cn L h (fun h=>?_) fun h=>?_
  ·obtain ⟨r21,h22,h23,h⟩:=h;refine rg (sl 4 (p1 ((zcb h22).frz)) L fun a s L=>?_);refine zb1 38 L op op Ud.h Tq.h h23 J J J J ka fun a s og24 hg_ L=>?_;refine sA 1 L fun a s L=>?_;refine en' ?_;exact J20 (([]:(List (List SItem)))++[r21]) og24 a s (L.kk) h
  ·refine wp_skip ?_;exact J20 ([]:(List (List SItem))) none a s (L.kk) h
 ·refine wp_skip (H16 _ _ ?_);refine wp_seq_k fun K25 H25=>rA 3 L fun a s L=>?_;refine cn L h (fun h=>?_) fun h=>?_
  ·refine wp_seq_k fun K26 H26=>?_;refine rA 3 L fun a s L=>?_;have J29:∀(out27:(List (List SItem))) (og28:Option Nat) (a:Act) (s:St),Has N0 143 s0 a s [(5,(Pd.box En.SItem s0.w.heap.size g3 e1)),(6,(Pd.rep (En.slice En.SItem) (s_.drop (1:Int).toNat))),(8,(Pd.box En.SItem s0.w.heap.size g9 (1,e5.2.1,0,0))),(10,(Pd.row (En.slice En.SItem) s0.w.heap.size 59 og28 out27))]→Dis (some g3) (some g9)→Dis (some g3) og28→Dis (some g9) og28→((zb7.j3 s_ r_ e1 e5) out27)→K26 a s.w:=by
    intro out27 og28 a s L d30 d31 d32 h;unfold zb7.j3 at h;show K26 a s.w;refine H26 _ _ (wp_seq_k fun K33 H33=>?_);refine rA 3 L fun a s L=>?_;have J36:∀(out34:(List (List SItem))) (og35:Option Nat) (a:Act) (s:St),Has N0 143 s0 a s [(10,(Pd.row (En.slice En.SItem) s0.w.heap.size 59 og35 out34))]→((zb7.j2 r_) out34)→K33 a s.w:=by
     intro out34 og35 a s L h;unfold zb7.j2 at h;show K33 a s.w;refine H33 _ _ (rA 2 L fun a s L=>?_);subst h;exact wp_ret (zfj J L J)
    refine cn L h (fun h=>?_) fun h=>?_
    ·obtain ⟨h37,h38,r39,h40,h41,h⟩:=h;refine rg (sA 11 L fun a s L=>?_);refine sv (zbj (x:=(2,e1.2.1,(max 0 (e1.2.2.1-1)),e1.2.2.2-1)) (ps:=[(0,.const (.int .i64 2)),(1,.tmp 57),(2,.tmp 61),(3,.tmp 64)]) zej J zhu (.cons (i:=0) op J (zu (zk _ _ _)) (.cons (i:=1) op J (zi (zu (zk _ _ _)) J) (.cons (i:=2) op J (zi (zi (zu (zk _ _ _)) J) J) (.cons (i:=3) op J (zi (zi (zi (zk _ _ _) J) J) J) .nil)))) J J) L fun a s L=>?_;refine sl 4 (p1 ((zcb h40).frz)) L fun a s L=>?_;refine zb1 70 L op op Ud.h Tq.h h41 J J J J ka fun a s og42 hg_ L=>?_;refine sA 1 L fun a s L=>?_;refine en' ?_;exact J36 (out27++[r39]) og42 a s (L.kk) h
    ·refine wp_skip ?_;exact J36 out27 og28 a s (L.kk) h
   refine cn L h (fun h=>?_) fun h=>?_
   ·obtain ⟨r43,h44,h45,h⟩:=h;refine rg (sl 4 (p1 ((zcb h44).frz)) L fun a s L=>?_);have lt_og46_0:=L.blt 5 rfl;have lt_og46_1:=L.blt 8 rfl;refine zb1 50 L op op Ud.h Tq.h h45 J J J J ka fun a s og46 hg_ L=>?_;have d47:=Dis.app hg_ Dis.none lt_og46_0;have d48:=Dis.app hg_ Dis.none lt_og46_1;refine sA 1 L fun a s L=>?_;refine en' ?_;exact J29 (([]:(List (List SItem)))++[r43]) og46 a s (L.kk) (Dis.symm d10) (Dis.symm d47) (Dis.symm d48) h
   ·refine wp_skip ?_;exact J29 ([]:(List (List SItem))) none a s (L.kk) (Dis.symm d10) (Dis.symm Dis.none) (Dis.symm Dis.none) h
  ·refine wp_skip (H25 _ _ ?_);refine wp_seq_k fun K49 H49=>rA 2 L fun a s L=>?_;refine wp_block (rA 2 L fun a s L=>?_);refine cn L h (fun h=>?_) fun h=>?_
   ·obtain ⟨r50,h51,h52,h⟩:=h;refine rg (sl 4 (p1 ((zcb h51).frz)) L fun a s L=>?_);refine zb1 80 L op op Ud.h Tq.h h52 J J J J ka fun a s og53 hg_ L=>?_;refine sA 1 L fun a s L=>?_;refine en' (H49 _ _ ?_);refine rA 2 L fun a s L=>?_;subst h;exact wp_ret (zfj J L J)
   ·refine rA 2 L fun a s L=>?_;refine cn L h (fun h=>?_) fun h=>?_
    ·obtain ⟨r54,h55,h56,h⟩:=h;refine rg (sA 3 L fun a s L=>?_);refine sv (zbj (x:=(3,e1.2.1,0,0)) (ps:=[(0,.const (.int .i64 3)),(1,.tmp 85)]) zej J zhu (.cons (i:=0) op J (zu (zk _ _ _)) (.cons (i:=1) op J (zi (zu (zk _ _ _)) J) .nil)) J J) L fun a s L=>?_;refine sl 4 (p1 ((zcb h55).frz)) L fun a s L=>?_;refine zb1 91 L op op Ud.h Tq.h h56 J J J J ka fun a s og57 hg_ L=>?_;refine sA 1 L fun a s L=>?_;refine en' (H49 _ _ ?_);refine rA 2 L fun a s L=>?_;subst h;exact wp_ret (zfj J L J)
    ·refine rA 2 L fun a s L=>?_;refine cn L h (fun h=>?_) fun h=>?_
     ·obtain ⟨r58,h59,h60,h⟩:=h;refine rg (sl 7 (p1 ((zcb h59).frz)) L fun a s L=>?_);refine zb1 101 L op op Ud.h Tq.h h60 J J J J ka fun a s og61 hg_ L=>?_;refine sA 1 L fun a s L=>?_;refine en' (H49 _ _ ?_);refine rA 2 L fun a s L=>?_;subst h;exact wp_ret (zfj J L J)
     ·refine rA 2 L fun a s L=>?_;refine cn L h (fun h=>?_) fun h=>?_
      ·obtain ⟨r62,h63,r64,h65,h66,h⟩:=h;refine rdx 10 (pp ((zcb h63).frz) (p1 ((zcb h65).frz))) L fun a s L=>?_;refine zb1 114 L op op Ud.h Tq.h h66 J J J J ka fun a s og67 hg_ L=>?_;refine sA 1 L fun a s L=>?_;refine en' (H49 _ _ ?_);refine rA 2 L fun a s L=>?_;subst h;exact wp_ret (zfj J L J)
      ·refine rA 2 L fun a s L=>?_;refine cn L h (fun h=>?_) fun h=>?_
       ·obtain ⟨r68,h69,r70,h71,h72,h⟩:=h;refine rdx 9 (pp ((zcb h69).frz) (p1 ((zcb h71).frz))) L fun a s L=>?_;refine zb1 126 L op op Ud.h Tq.h h72 J J J J ka fun a s og73 hg_ L=>?_;refine sA 1 L fun a s L=>?_;refine en' (H49 _ _ ?_);refine rA 2 L fun a s L=>?_;subst h;exact wp_ret (zfj J L J)
       ·refine rA 2 L fun a s L=>?_;refine cn L h (fun h=>?_) fun h=>?_
        ·obtain ⟨r74,h75,h76,h⟩:=h;refine rg (sA 7 L fun a s L=>?_);refine sv (zbj (x:=(2,e1.2.1,e5.2.2.2.1,e5.2.2.2.2.1)) (ps:=[(0,.const (.int .i64 2)),(1,.tmp 131),(2,.tmp 133),(3,.tmp 135)]) zej J zhu (.cons (i:=0) op J (zu (zk _ _ _)) (.cons (i:=1) op J (zi (zu (zk _ _ _)) J) (.cons (i:=2) op J (zi (zi (zu (zk _ _ _)) J) J) (.cons (i:=3) op J (zi (zi (zi (zk _ _ _) J) J) J) .nil)))) J J) L fun a s L=>?_;refine sl 4 (p1 ((zcb h75).frz)) L fun a s L=>?_;refine zb1 141 L op op Ud.h Tq.h h76 J J J J ka fun a s og77 hg_ L=>?_;refine sA 1 L fun a s L=>?_;refine en' (H49 _ _ ?_);refine rA 2 L fun a s L=>?_;subst h;exact wp_ret (zfj J L J)
        ·refine wp_skip (H49 _ _ ?_);refine rA 2 L fun a s L=>?_;subst h;exact wp_ret (zfj J L J)
theorem zbt.n_ok (k_:Nat):∀{d_:SDesc} {s_:(List SItem)} {l_:(List SBranch)} {r_:(List SBranch)} (h:zbt.n k_ d_ s_ l_ r_),Fn Tryz.prog 109 [(Pd.rep En.SDesc d_),(Pd.rep (En.slice En.SItem) s_),(Pd.rep (En.slice En.SBranch) l_)] (Rq (Pd.rep (En.slice En.SBranch) r_)):=by
 induction k_ with
 | zero=>intro d_ s_ l_ r_ h;exact h.elim
 | succ k_ ih_=>
 intro d_ s_ l_ r_ h;unfold zbt.n at h;refine zbk Tryz.func109 J Tryz.ntmps109 (by rfl) (by simp) fun s0 a L=>?_;refine rs (sA 1 L fun a s L=>?_);refine snr En.SBranch L fun a s L=>?_;refine es (wp_seq_k fun K1 H1=>?_);obtain ⟨r2,h3,h⟩:=h;refine ra 3 (p1 (zo8 h3)) L fun a s L=>?_;refine cn L h (fun h=>?_) fun h=>?_
 ·obtain ⟨r4,h5,r6,h7,h⟩:=h;refine ra 5 (pp ((zcb h5).frz) (p1 ((zi8 h7).frz))) L fun a s L=>?_;subst h;exact wp_ret (zdp J L J)
 ·refine wp_skip (H1 _ _ ?_);obtain ⟨r8,h9,h⟩:=h;refine ra 4 (p1 ((zq6 h9).frz)) L fun a s L=>?_;refine wp_seq_k fun K10 H10=>rA 1 L fun a s L=>?_;refine wp_block ?_;have J12:∀(l11:(List SBranch)) (a:Act) (s:St),Has N0 33 s0 a s [(2,(Pd.rep (En.slice En.SBranch) l11))]→((zbt.j1 r_) l11)→K10 a s.w:=by
   intro l11 a s L h;unfold zbt.j1 at h;show K10 a s.w;refine H10 _ _ (rA 2 L fun a s L=>?_);subst h;exact wp_ret (zdp J L J)
  obtain ⟨k15,h⟩:=h;refine lpn (fun k16 a s=>∃(l13:(List SBranch)) (i14:Int),Has N0 33 s0 a s [(2,(Pd.rep (En.slice En.SBranch) l13)),(3,(Pd.ptr En.SDesc d_)),(7,(Pd.rep (En.slice (En.slice En.SItem)) r8)),(8,(Pi i14))]∧zbt.l1 (zbt.n k_) d_ r8 (zbt.j1 r_) k16 l13 i14) k15 ⟨l_,0,L.kk,h⟩ ?_;rintro k16 a s ⟨l13,i14,L,h⟩ KL17 hKL17;unfold zbt.l1 at h;refine wp_seq_k fun K18 H18=>rA 4 L fun a s L=>?_;refine cn L h (fun h=>?_) fun h=>?_
  ·refine wp_skip (H18 _ _ ?_);refine wp_seq_k fun K19 H19=>wp_block ?_;obtain ⟨e20,h21,r22,h23,h⟩:=h;refine rdx 7 (pp h21 (p1 (ih_ h23))) L fun a s L=>?_;refine sA 1 L fun a s L=>?_;refine en' (H19 _ _ ?_);obtain ⟨h24,h⟩:=h;refine rg (sA 3 L fun a s L=>?_);refine en' ?_;exact hKL17 a s ⟨r22,(i14+1),L.kk,h⟩
  ·refine wp_exit ?_;exact J12 l13 a s (L.kk) h
theorem zq5 {d_:SDesc} {s_:(List SItem)} {l_:(List SBranch)} {r_:(List SBranch)} (h:zbt d_ s_ l_ r_):Fn Tryz.prog 109 [(Pd.rep En.SDesc d_),(Pd.rep (En.slice En.SItem) s_),(Pd.rep (En.slice En.SBranch) l_)] (Rq (Pd.rep (En.slice En.SBranch) r_)):=by
 obtain ⟨k_,h⟩:=h;exact zbt.n_ok k_ h
theorem zhg {d_:SDesc} {s_:(List SItem)} {r_:(List SBranch)} (h:zfo d_ s_ r_):Fn Tryz.prog 83 [(Pd.rep En.SDesc d_),(Pd.rep (En.slice En.SItem) s_)] (Rq (Pd.rep (En.slice En.SBranch) r_)):=by
 unfold zfo at h;refine zbk Tryz.func83 J Tryz.ntmps83 (by rfl) (by simp) fun s0 a L=>?_;refine rs (sA 1 L fun a s L=>?_);refine snr En.SBranch L fun a s L=>?_;refine es ?_;obtain ⟨r1,h2,h⟩:=h;refine ra 4 (p1 (zq5 h2)) L fun a s L=>?_;subst h;exact wp_ret (zdp J L J)
open Go.Shelf Go.Sort
theorem zme (v0:Value) {x r:List SBranch} (h:zj8 x r):Fm Tryz.prog 88 (fun b=>v0.ownBlock=some b) [Pd.prow En.SBranch 98 v0 x,Pd.is (.func (.func 89) #[] #[])] (fun _ s' _=>(Pd.prow En.SBranch 98 v0 r).p s' v0):=fm_branch (zfh Tryz.func89 rfl (by rfl)) h.1 h.2.2.1 h.2.2.2 (fun a ha b hb=>@next_On_1_ok true dLe _ _ _ ⟨_,zgx (h.2.1 a ha),rfl⟩) v0
end Go.Proofs.YtbojklnokglbhaaGreatDoor.V
namespace Go.Proofs.YtbojklnokglbhaaGreatDoor.V
open Go
set_option linter.unusedVariables false
set_option maxRecDepth 100000
set_option maxHeartbeats 2000000
set_option synthInstance.maxSize 100000
set_option synthInstance.maxHeartbeats 200000
theorem zlh {nv_:SNode} {ahead_:Int} {r_:(List SItem)} (h:zj0 nv_ ahead_ r_):Fn Tryz.prog 202 [(Pd.rep En.SNode nv_),(Pi ahead_)] (Ro En.SItem 57 r_):=by
 unfold zj0 at h;refine zbk Tryz.func202 J Tryz.ntmps202 (by rfl) (by simp) fun s0 a L=>?_;refine rs (sA 1 L fun a s L=>?_);refine sno En.SItem 57 L fun a s L=>?_;refine es (rs ?_);refine sA 2 L fun a s L=>?_;refine sv (zbj (x:=(1,nv_.2.1,0,0)) (ps:=[(0,.const (.int .i64 1)),(1,.tmp 6)]) zej J zhu (.cons (i:=0) op J (zu (zk _ _ _)) (.cons (i:=1) op J (zi (zu (zk _ _ _)) J) .nil)) J J) L fun a s L=>?_;refine sA 1 L fun a s L=>?_;refine sv (zbj (x:=(5,0,ahead_,0)) (ps:=[(0,.const (.int .i64 5)),(2,.tmp 8)]) zej J zhu (.cons (i:=0) op J (zu (zk _ _ _)) (.cons (i:=2) op J (zi (zi (zu (zk _ _ _)) J) J) .nil)) J J) L fun a s L=>?_;refine zdy (xs:=[.tmp 7,.tmp 9]) 10 L (.cons op (.cons op .nil)) Ud.h Tq.h J J (by decide) J J J J fun a s g1 hg_ L=>?_;refine sA 1 L fun a s L=>?_;refine es ?_;subst h;exact wp_ret (zfj J L J)
theorem zmk {s_:Sstep_next} {r_:((List SItem) × Bool)} (h:zhj s_ r_):Fn Tryz.prog 200 [(Pd.rep En.Sstep_next s_)] (Ro2 En.SItem 57 r_.1 (Pd.rep En.bool r_.2)):=by
 unfold zhj at h;refine zbk Tryz.func200 J Tryz.ntmps200 (by rfl) (by simp) fun s0 a L=>?_;refine rs (sA 1 L fun a s L=>?_);refine sno En.SItem 57 L fun a s L=>?_;refine sA 1 L fun a s L=>?_;refine es (wp_seq_k fun K1 H1=>?_);refine rA 3 L fun a s L=>?_;refine wp_block (rA 2 L fun a s L=>?_);refine cn L h (fun h=>?_) fun h=>?_
 ·obtain ⟨r2,h3,h⟩:=h;refine rs (sA 5 L fun a s L=>?_);refine zen 14 L (zlh h3) opz J J J J fun a s og4 hg_ L=>?_;refine sA 2 L fun a s L=>?_;refine es ?_;subst h;exact wp_ret (zgi J L J J)
 ·refine rA 2 L fun a s L=>?_;refine cn L h (fun h=>?_) fun h=>?_
  ·refine rs ?_;refine sA 6 L fun a s L=>?_;refine sv (zbj (x:=(4,s_.2.1.2.1,s_.2.2,0)) (ps:=[(0,.const (.int .i64 4)),(1,.tmp 19),(2,.tmp 22)]) zej J zhu (.cons (i:=0) op J (zu (zk _ _ _)) (.cons (i:=1) op J (zi (zu (zk _ _ _)) J) (.cons (i:=2) op J (zi (zi (zu (zk _ _ _)) J) J) .nil))) J J) L fun a s L=>?_;refine zdy (xs:=[.tmp 23]) 24 L (.cons op .nil) Ud.h Tq.h J J (by decide) J J J J fun a s g5 hg_ L=>?_;refine sA 2 L fun a s L=>?_;refine es ?_;subst h;exact wp_ret (zgi J L J J)
  ·refine wp_skip (H1 _ _ ?_);obtain ⟨r6,h7,h⟩:=h;refine rs (sl 6 (p1 (zjm h7)) L fun a s L=>?_);refine sno En.SItem 57 L fun a s L=>?_;refine sA 1 L fun a s L=>?_;refine es ?_;subst h;exact wp_ret (zgi J L J J)
theorem zmj {s_:Sstep_next} {r_:((List SItem) × Bool)} (h:zhi s_ r_):Fn Tryz.prog 201 [(Pd.rep En.Sstep_next s_)] (Ro2 En.SItem 57 r_.1 (Pd.rep En.bool r_.2)):=by
 unfold zhi at h;refine zbk Tryz.func201 J Tryz.ntmps201 (by rfl) (by simp) fun s0 a L=>?_;refine rs (sA 1 L fun a s L=>?_);refine sno En.SItem 57 L fun a s L=>?_;refine sA 1 L fun a s L=>?_;refine es (rs ?_);refine sA 2 L fun a s L=>?_;refine z8 En.SItem (z:=(0,0,0,0)) 4 L zej J J J J fun a s g1 hg_ L=>?_;refine sB 4 L fun s L=>?_;refine es ?_;obtain ⟨h2,h⟩:=h;refine rs (sA 4 L fun a s L=>?_);refine zee 4 L J op op (zi (zi (zu (zk _ _ _)) J) J) Tq.h J J J ka fun s L=>?_;refine es (wp_seq_k fun K3 H3=>?_);obtain ⟨b4,h5,h⟩:=h;refine ra 7 (p1 h5) L fun a s L=>?_;refine cn L h (fun h=>?_) fun h=>?_
 ·obtain ⟨c6,h7,h⟩:=h;refine wp_seq ?_;replace L:=L.kk (L':=[(1,(Pd.ptr En.Sstep_next s_))]);refine rda zc3 12 [(Pd.ptr En.SNode s_.1),(Pd.ptr En.str s_.1.2.2.2.2.2.2),(Pd.rep En.str s_.1.2.2.2.2.2.2),(Pd.ptr En.SItem s_.2.1),(Pd.ptr (En.int .i64) s_.2.1.2.2.1),(Pi s_.2.1.2.2.1),(Pd.rep (En.int .u8) c6),(Pd.ptr (En.int .u8) s_.2.2),(Pd.rep (En.int .u8) s_.2.2),(Pd.rep En.bool (c6==s_.2.2)),(Pd.row En.SItem s0.w.heap.size 57 none ([]:(List SItem))),(Pd.rep En.bool (c6==s_.2.2))] L (by kernel_rfl) J J ?_ ?_
  ·refine zbe.cons (zl4 (off:=0) (O 1 J) U171 J (zbr (z7 _ _)) J ty54 J J) ?_;refine zbe.cons (zl4 (off:=9) (O 18 J) U54 J (zw (zw (zw (zw (zw (zw (z7 _ _) J) J) J) J) J) J) J ty9 J J) ?_;refine zbe.cons (zcj ty9 (O 19 J) J J) ?_;refine zbe.cons (zl4 (off:=10) (O 1 J) U171 J (zw (zbr (z7 _ _)) J) J ty57 J J) ?_;refine zbe.cons (zl4 (off:=2) (O 21 J) U57 J (zw (zw (zbr (z7 _ _)) J) J) J ty3 J J) ?_;refine zbe.cons (zcj ty3 (O 22 J) J J) ?_;refine zbe.cons (t_sidx (O 20 J) (O 23 J) h7 U9 J J) ?_;refine zbe.cons (zl4 (off:=14) (O 1 J) U171 J (zw (zw (z7 _ _) J) J) J ty5 J J) ?_;refine zbe.cons (zcj ty5 (O 25 J) J J) ?_;refine zbe.cons (t_eqi (O 24 J) (O 26 J) J J) ?_;refine zbe.cons (zbn (o_nil (E:=En.SItem) (N:=s0.w.heap.size) (te:=57)) J J) ?_;refine zbe.cons (zbn (O 27 J) J J) ?_;exact zbe.nil
  intro a s _ L;replace L:=L.kk (L':=[(2,(Pd.row En.SItem s0.w.heap.size 57 none ([]:(List SItem)))),(3,(Pd.rep En.bool (c6==s_.2.2)))]);refine dp ?_;refine es ?_;subst h;exact wp_ret (zgi J L J J)
 ·refine wp_skip (H3 _ _ ?_);obtain ⟨c10,h11,h⟩:=h;refine wp_seq ?_;obtain ⟨K8,H8,nK8,L⟩:=L.mark 999983;have lt9:∀k,(some g1)=some k→k<K8:=by rw [H8];exact L.blt 4 rfl
  replace L:=L.kk (L':=[(999983,Pd.ge K8),(1,(Pd.ptr En.Sstep_next s_)),(4,(Pd.box En.SItem s0.w.heap.size g1 (s_.2.1.1,s_.2.1.2.1,s_.2.1.2.2.1+1,s_.2.1.2.2.2)))]);refine rda zc3 14 [(Pd.rep En.SItem (s_.2.1.1,s_.2.1.2.1,s_.2.1.2.2.1+1,s_.2.1.2.2.2)),(Pd.erow En.SItem s0.w.heap.size K8 57 [(s_.2.1.1,s_.2.1.2.1,s_.2.1.2.2.1+1,s_.2.1.2.2.2)]),(Pd.ptr En.SNode s_.1),(Pd.ptr En.str s_.1.2.2.2.2.2.2),(Pd.rep En.str s_.1.2.2.2.2.2.2),(Pd.ptr En.SItem s_.2.1),(Pd.ptr (En.int .i64) s_.2.1.2.2.1),(Pi s_.2.1.2.2.1),(Pd.rep (En.int .u8) c10),(Pd.ptr (En.int .u8) s_.2.2),(Pd.rep (En.int .u8) s_.2.2),(Pd.rep En.bool (c10==s_.2.2)),(Pd.erow En.SItem s0.w.heap.size K8 57 [(s_.2.1.1,s_.2.1.2.1,s_.2.1.2.2.1+1,s_.2.1.2.2.2)]),(Pd.rep En.bool (c10==s_.2.2))] L (by kernel_rfl) J J ?_ ?_
  ·refine zbe.cons (zqk ty57 (O 4 J) J J) ?_;refine zbe.cons (t_litx (xs:=[.tmp 28]) (K:=K8) (m:=999983) J nK8 (.cons (O 28 J) .nil) U58 ty57 J J (by decide) J J) ?_;refine zbe.cons (zl4 (off:=0) (O 1 J) U171 J (zbr (z7 _ _)) J ty54 J J) ?_;refine zbe.cons (zl4 (off:=9) (O 30 J) U54 J (zw (zw (zw (zw (zw (zw (z7 _ _) J) J) J) J) J) J) J ty9 J J) ?_;refine zbe.cons (zcj ty9 (O 31 J) J J) ?_;refine zbe.cons (zl4 (off:=10) (O 1 J) U171 J (zw (zbr (z7 _ _)) J) J ty57 J J) ?_;refine zbe.cons (zl4 (off:=2) (O 33 J) U57 J (zw (zw (zbr (z7 _ _)) J) J) J ty3 J J) ?_;refine zbe.cons (zcj ty3 (O 34 J) J J) ?_;refine zbe.cons (t_sidx (O 32 J) (O 35 J) h11 U9 J J) ?_;refine zbe.cons (zl4 (off:=14) (O 1 J) U171 J (zw (zw (z7 _ _) J) J) J ty5 J J) ?_;refine zbe.cons (zcj ty5 (O 37 J) J J) ?_;refine zbe.cons (t_eqi (O 36 J) (O 38 J) J J) ?_;refine zbe.cons (zbn (O 29 J) J J) ?_;refine zbe.cons (zbn (O 39 J) J J) ?_;exact zbe.nil
  intro a s _ L;obtain ⟨og12,hg_,L⟩:=L.openr 2 rfl;have d13:=Dis.new hg_ lt9;replace L:=L.kk (L':=[(2,(Pd.row En.SItem s0.w.heap.size 57 og12 [(s_.2.1.1,s_.2.1.2.1,s_.2.1.2.2.1+1,s_.2.1.2.2.2)])),(3,(Pd.rep En.bool (c10==s_.2.2)))]);refine dp ?_;refine es ?_;subst h;exact wp_ret (zgi J L J J)
theorem zml {s_:Sstep_next} {r_:((List SItem) × Bool)} (h:zhk s_ r_):Fn Tryz.prog 198 [(Pd.rep En.Sstep_next s_)] (Ro2 En.SItem 57 r_.1 (Pd.rep En.bool r_.2)):=by
 unfold zhk at h;refine zbk Tryz.func198 J Tryz.ntmps198 (by rfl) (by simp) fun s0 a L=>?_;refine rs (sA 1 L fun a s L=>?_);refine sno En.SItem 57 L fun a s L=>?_;refine sA 1 L fun a s L=>?_;refine es ?_;obtain ⟨h1,h2,r3,h4,h⟩:=h;refine rs (sA 10 L fun a s L=>?_);refine zen 14 L (zlh h4) opz J J J J fun a s og5 hg_ L=>?_;refine sA 2 L fun a s L=>?_;refine es ?_;subst h;exact wp_ret (zgi J L J J)
theorem dyn0_ok {f_:Option Nat} {x0_:Sstep_next} {r_:((List SItem) × Bool)} (h:dyn0 f_ x0_ r_):∃f,f_=some f∧Fn Tryz.prog f [Pd.rep En.Sstep_next x0_] (Rq (Pd.tup2 (Pd.rep (En.slice En.SItem) r_.1) (Pd.rep En.bool r_.2))):=by
 rcases h with ⟨e,h⟩ | ⟨e,h⟩ | ⟨e,h⟩
 ·exact ⟨200,e,((zmk h).frz2 (Pd.rep_stable _ _)).tup⟩
 ·exact ⟨201,e,((zmj h).frz2 (Pd.rep_stable _ _)).tup⟩
 ·exact ⟨198,e,((zml h).frz2 (Pd.rep_stable _ _)).tup⟩
theorem next_Read_ok {d_:SDesc} {s_:(List SItem)} {cv_:Int} {r_:((List SItem) × Bool)} (h:zli d_ s_ cv_ r_):Fn Tryz.prog 87 [(Pd.rep En.SDesc d_),(Pd.rep (En.slice En.SItem) s_),(Pd.rep (En.int .u8) cv_)] (Ro2 En.SItem 57 r_.1 (Pd.rep En.bool r_.2)):=by
 unfold zli at h;refine zbk Tryz.func87 J Tryz.ntmps87 (by rfl) (by simp) fun s0 a L=>?_;refine rs (sA 1 L fun a s L=>?_);refine sno En.SItem 57 L fun a s L=>?_;refine sA 1 L fun a s L=>?_;refine es (wp_seq_k fun K1 H1=>?_);refine rA 3 L fun a s L=>?_;refine cn L h (fun h=>?_) fun h=>?_
 ·refine rs ?_;refine sno En.SItem 57 L fun a s L=>?_;refine sA 1 L fun a s L=>?_;refine es ?_;subst h;exact wp_ret (zgi J L J J)
 ·refine wp_skip (H1 _ _ ?_);obtain ⟨h2,r3,h4,h⟩:=h;refine ra 8 (pp (((zr5 h4).frz2 (Pd.rep_stable _ _)).tup) trivial) L fun a s L=>?_;obtain ⟨e5,h6,h⟩:=h;refine wp_seq (rda zc3 11 [(Pd.rep (En.fmap (En.int .i64) kvI64 En.fid) gfm0),(Pd.rep (En.slice En.SItem) s_),(Pd.ptr En.SItem e5),(Pd.ptr (En.int .i64) e5.1),(Pi e5.1),(Pd.tup2 (Pd.rep En.fid (zel gfm0 e5.1 none)) (Pd.rep En.bool (zh2 gfm0 e5.1))),(Pd.tup2 (Pd.rep En.fid (zel gfm0 e5.1 none)) (Pd.rep En.bool (zh2 gfm0 e5.1))),(Pd.rep En.fid (zel gfm0 e5.1 none)),(Pd.rep En.bool (zh2 gfm0 e5.1)),(Pd.rep En.fid (zel gfm0 e5.1 none)),(Pd.rep En.bool (zh2 gfm0 e5.1))] L (by kernel_rfl) J J ?_ ?_)
  ·refine zbe.cons (zcj (⟨⟨_,_,J,J,J,J,by decide⟩,_,J,J⟩:Ty Tryz.prog 168 (En.fmap (En.int .i64) kvI64 En.fid)) (o_gm (g:=0) (by simp [gmap])) J J) ?_;refine zbe.cons (zq (O 1 J) J J) ?_;refine zbe.cons (zql (O 25 J) oI h6 U59 ty57 J J) ?_;refine zbe.cons (zl4 (off:=0) (O 26 J) U57 J (zbr (z7 _ _)) J ty3 J J) ?_;refine zbe.cons (zcj ty3 (O 27 J) J J) ?_;refine zbe.cons (t_mgetfok (z:=none) (O 24 J) (O 28 J) U168 (key_i64 U3) (⟨_,[.nilFunc],J,by rfl,fun _ _=>J⟩:TyV Tryz.prog 166 En.fid none) J J) ?_;refine zbe.cons (zq (O 29 J) J J) ?_;refine zbe.cons (t_ext0 (O 23 J) J J) ?_;refine zbe.cons (znm (O 23 J) J J) ?_;refine zbe.cons (zbn (O 30 J) J J) ?_;refine zbe.cons (zbn (O 31 J) J J) ?_;exact zbe.nil
  intro a s _ L;replace L:=L.kk (L':=[(1,(Pd.rep (En.slice En.SItem) s_)),(2,(Pd.rep (En.int .u8) cv_)),(3,(Pd.ptr En.SDesc d_)),(8,(Pd.rep (En.slice En.SItem) r3.1)),(9,(Pd.rep En.bool r3.2)),(10,(Pd.rep En.fid (zel gfm0 e5.1 none))),(11,(Pd.rep En.bool (zh2 gfm0 e5.1)))]);refine dp ?_;refine es (wp_seq_k fun K7 H7=>?_);refine rA 6 L fun a s L=>?_;refine cn L h (fun h=>?_) fun h=>?_
  ·refine rs ?_;refine sno En.SItem 57 L fun a s L=>?_;refine sA 1 L fun a s L=>?_;refine es ?_;subst h;exact wp_ret (zgi J L J J)
  ·refine wp_skip (H7 _ _ ?_);obtain ⟨e8,h9,e10,h11,e12,h13,r14,h15,h⟩:=h;refine wp_seq (rda zc3 20 [(Pd.rep En.fid (zel gfm0 e5.1 none)),(Pd.ptr (En.slice En.SNode) d_),(Pd.rep (En.slice En.SNode) d_),(Pd.rep (En.slice En.SItem) s_),(Pd.ptr En.SItem e8),(Pd.ptr (En.int .i64) e8.2.1),(Pi e8.2.1),(Pd.ptr En.SNode e10),(Pd.rep En.SNode e10),(Pd.rep (En.slice En.SItem) s_),(Pd.ptr En.SItem e12),(Pd.rep En.SItem e12),(Pd.rep (En.int .u8) cv_),(Pd.rep En.Sstep_next (e10,e12,cv_)),(Pd.tup2 (Pd.rep (En.slice En.SItem) r14.1) (Pd.rep En.bool r14.2)),(Pd.tup2 (Pd.rep (En.slice En.SItem) r14.1) (Pd.rep En.bool r14.2)),(Pd.rep (En.slice En.SItem) r14.1),(Pd.rep En.bool r14.2),(Pd.rep (En.slice En.SItem) r14.1),(Pd.rep En.bool r14.2)] L (by kernel_rfl) J J ?_ ?_)
   ·refine zbe.cons (zq (O 10 J) J J) ?_;refine zbe.cons (zl4 (off:=0) (O 3 J) U24 J (zih (z7 _ _)) J ty22 J J) ?_;refine zbe.cons (zcj ty22 (O 40 J) J J) ?_;refine zbe.cons (zq (O 1 J) J J) ?_;refine zbe.cons (zql (O 42 J) oI h9 U59 ty57 J J) ?_;refine zbe.cons (zl4 (off:=1) (O 43 J) U57 J (zw (zbr (z7 _ _)) J) J ty3 J J) ?_;refine zbe.cons (zcj ty3 (O 44 J) J J) ?_;refine zbe.cons (zql (O 41 J) (O 45 J) h11 U22 ty54 J J) ?_;refine zbe.cons (zcj ty54 (O 46 J) J J) ?_;refine zbe.cons (zq (O 1 J) J J) ?_;refine zbe.cons (zql (O 48 J) oI h13 U59 ty57 J J) ?_;refine zbe.cons (zcj ty57 (O 49 J) J J) ?_;refine zbe.cons (zq (O 2 J) J J) ?_;refine zbe.cons (zbj (x:=(e10,e12,cv_)) (ps:=[(0,.tmp 47),(1,.tmp 50),(2,.tmp 51)]) tyz171 J stt171 (.cons (i:=0) (O 47 J) J (zu (zk _ _ _)) (.cons (i:=1) (O 50 J) J (zi (zu (zk _ _ _)) J) (.cons (i:=2) (O 51 J) J (zi (zi (zk _ _ _) J) J) .nil))) J J) ?_;refine zbe.cons (t_callid (dyn0_ok h15) (O 39 J) (xs:=[.tmp 52]) (.cons (O 52 J) .nil) J J) ?_;refine zbe.cons (zq (O 53 J) J J) ?_;refine zbe.cons (t_ext0 (O 38 J) J J) ?_;refine zbe.cons (znm (O 38 J) J J) ?_;refine zbe.cons (zbn (O 54 J) J J) ?_;refine zbe.cons (zbn (O 55 J) J J) ?_;exact zbe.nil
   intro a s _ L;replace L:=L.kk (L':=[(8,(Pd.rep (En.slice En.SItem) r3.1)),(12,(Pd.rep (En.slice En.SItem) r14.1)),(13,(Pd.rep En.bool r14.2))]);refine dp ?_;refine es (wp_seq_k fun K16 H16=>?_);refine rA 2 L fun a s L=>?_;refine cn L h (fun h=>?_) fun h=>?_
   ·refine rs ?_;refine sno En.SItem 57 L fun a s L=>?_;refine sA 1 L fun a s L=>?_;refine es ?_;subst h;exact wp_ret (zgi J L J J)
   ·refine wp_skip (H16 _ _ ?_);obtain ⟨r17,h18,h⟩:=h;refine rs (sA 3 L fun a s L=>?_);refine zen 61 L (zdm h18) opz J J J J fun a s og19 hg_ L=>?_;refine sA 2 L fun a s L=>?_;refine es ?_;subst h;exact wp_ret (zgi J L J J)
theorem next_On_ok {d_:SDesc} {s_:(List SItem)} {cv_:Int} {r_:(List SBranch)} (h:zbw d_ s_ cv_ r_):Fn Tryz.prog 58 [(Pd.rep En.SDesc d_),(Pd.rep (En.slice En.SItem) s_),(Pd.rep (En.int .u8) cv_)] (Ro En.SBranch 98 r_):=by
 unfold zbw at h;refine zbk Tryz.func58 J Tryz.ntmps58 (by rfl) (by simp) fun s0 a L=>?_;refine rs (sA 1 L fun a s L=>?_);refine sno En.SBranch 98 L fun a s L=>?_;refine es (rs ?_);refine zjs 15 En.str kvStr (En.int .i64) L J J J J fun a s g1 hg_ L=>?_;refine sA 1 L fun a s L=>?_;refine es (rs ?_);refine sno En.SBranch 98 L fun a s L=>?_;refine es (wp_seq_k fun K2 H2=>?_);obtain ⟨r3,h4,h⟩:=h;refine ra 5 (p1 ((zhn h4).frz)) L fun a s L=>?_;refine wp_block ?_;have J9:∀(many5:(List (Str × Int))) (out7:(List SBranch)) (og6:Option Nat) (og8:Option Nat) (a:Act) (s:St),Has N0 76 s0 a s [(7,(Pd.map En.str kvStr (En.int .i64) s0.w.heap.size og6 many5)),(8,(Pd.row En.SBranch s0.w.heap.size 98 og8 out7))]→Dis og6 og8→((zbw.j2 r_) many5 out7)→K2 a s.w:=by
  intro many5 out7 og6 og8 a s L d10 h;unfold zbw.j2 at h;show K2 a s.w;refine H2 _ _ (wp_seq_k fun K11 H11=>?_);refine rA 3 L fun a s L=>?_;refine wp_block ?_;have J14:∀(out12:(List SBranch)) (og13:Option Nat) (a:Act) (s:St),Has N0 76 s0 a s [(8,(Pd.row En.SBranch s0.w.heap.size 98 og13 out12))]→((zbw.j1 r_) out12)→K11 a s.w:=by
   intro out12 og13 a s L h;unfold zbw.j1 at h;show K11 a s.w;refine H11 _ _ ?_;obtain ⟨r15,h16,h⟩:=h;refine rs (sA 1 L fun a s L=>?_);refine zkz 74 (fun v0=>zme v0 h16) L op (zs:=[.func 89]) (.cons o_isf .nil) J J J J kw fun a s L=>?_;refine es (rA 2 L fun a s L=>?_);subst h;exact wp_ret (zfj J L J)
  obtain ⟨k20,h⟩:=h;refine lpn (fun k21 a s=>∃(out17:(List SBranch)) (v19:Int) (og18:Option Nat),Has N0 76 s0 a s [(7,(Pd.map En.str kvStr (En.int .i64) s0.w.heap.size og6 many5)),(8,(Pd.row En.SBranch s0.w.heap.size 98 og18 out17)),(56,(Pi (out7.length:Int))),(57,(Pi v19))]∧Dis og6 og18∧zbw.l1 many5 out7 (zbw.j1 r_) k21 out17 v19) k20 ⟨out7,0,og8,L.kk,d10,h⟩ ?_;rintro k21 a s ⟨out17,v19,og18,L,d23,h⟩ KL22 hKL22;unfold zbw.l1 at h;refine rA 1 L fun a s L=>?_;refine wp_seq_k fun K24 H24=>cn L h (fun h=>?_) fun h=>?_
  ·refine wp_skip (H24 _ _ ?_);refine wp_seq_k fun K25 H25=>wp_block (rA 2 L fun a s L=>?_);obtain ⟨e26,h27,r28,h29,e30,h31,h⟩:=h;refine rg (sl 9 (pp h27 (p1 (zik h29))) L fun a s L=>?_);refine sv (zpr op op Ud.h (zem Ud.h) tyv3 J J) L fun a s L=>?_;refine sl 2 (p1 h31) L fun a s L=>?_;refine st_stor (off:=1) 8 L J h31 op op (zi (zk _ _ _) J) Tq.h J J J kw fun s L=>?_;refine en' (H25 _ _ ?_);obtain ⟨h32,h⟩:=h;refine rg (sA 2 L fun a s L=>?_);refine en' ?_;exact hKL22 a s ⟨(out17.set (v19:Int).toNat (e30.1,(zel many5 r28 0))),(v19+1),og18,L.kk,d23,h⟩
  ·refine wp_exit ?_;exact J14 out17 og18 a s (L.kk) h
 obtain ⟨k38,h⟩:=h;refine lpn (fun k39 a s=>∃(many33:(List (Str × Int))) (out35:(List SBranch)) (v37:Int) (og34:Option Nat) (og36:Option Nat),Has N0 76 s0 a s [(2,(Pd.rep (En.int .u8) cv_)),(3,(Pd.ptr En.SDesc d_)),(7,(Pd.map En.str kvStr (En.int .i64) s0.w.heap.size og34 many33)),(8,(Pd.row En.SBranch s0.w.heap.size 98 og36 out35)),(18,(Pd.rep (En.slice En.SBranch) r3)),(19,(Pi (r3.length:Int))),(20,(Pi v37))]∧Dis og34 og36∧zbw.l2 d_ cv_ r3 (zbw.j2 r_) k39 many33 out35 v37) k38 ⟨([]:(List (Str × Int))),([]:(List SBranch)),0,(some g1),none,L.kk,(Dis.symm Dis.none),h⟩ ?_;rintro k39 a s ⟨many33,out35,v37,og34,og36,L,d41,h⟩ KL40 hKL40;unfold zbw.l2 at h;refine rA 1 L fun a s L=>?_;refine wp_seq_k fun K42 H42=>cn L h (fun h=>?_) fun h=>?_
 ·refine wp_skip (H42 _ _ ?_);refine wp_seq_k fun K43 H43=>wp_block ?_;obtain ⟨e44,h45,h⟩:=h;refine rs (sl 2 (p1 h45) L fun a s L=>?_);have lt_d48:=L.rlt 8 rfl;have lt_d47:=L.mlt 7 rfl;refine z8 En.SBranch (z:=([],0)) 10 L zl8 J J J J fun a s g46 hg_ L=>?_;have d47:=Dis.newg hg_ lt_d47;have d48:=Dis.newg hg_ lt_d48;refine sB 10 L fun s L=>?_;refine es ?_;obtain ⟨r49,h50,h⟩:=h;refine ra 10 (pp (((next_Read_ok h50).frz2 (Pd.rep_stable _ _)).tup) trivial) L fun a s L=>?_;refine wp_seq_k fun K51 H51=>rA 2 L fun a s L=>?_;refine cn L h (fun h=>?_) fun h=>?_
  ·refine wp_exit ?_;show K43 a s.w;refine H43 _ _ ?_;obtain ⟨h52,h⟩:=h;refine rg (sA 2 L fun a s L=>?_);refine en' ?_;exact hKL40 a s ⟨many33,out35,(v37+1),og34,og36,L.kk,d41,h⟩
  ·refine wp_skip (H51 _ _ ?_);obtain ⟨r53,h54,h⟩:=h;refine ra 3 (p1 (zik h54)) L fun a s L=>?_;refine wp_seq_k fun K55 H55=>rs (sA 2 L fun a s L=>?_);refine sv (zpr op op Ud.h (zem Ud.h) tyv3 J J) L fun a s L=>?_;refine sA 1 L fun a s L=>?_;refine es ?_;have J58:∀(out56:(List SBranch)) (og57:Option Nat) (a:Act) (s:St),Has N0 76 s0 a s [(2,(Pd.rep (En.int .u8) cv_)),(3,(Pd.ptr En.SDesc d_)),(7,(Pd.map En.str kvStr (En.int .i64) s0.w.heap.size og34 many33)),(8,(Pd.row En.SBranch s0.w.heap.size 98 og57 out56)),(10,(Pd.box En.SBranch s0.w.heap.size g46 e44)),(13,(Pd.rep En.str r53)),(18,(Pd.rep (En.slice En.SBranch) r3)),(19,(Pi (r3.length:Int))),(20,(Pi v37))]→Dis og34 og57→Dis og34 (some g46)→Dis og57 (some g46)→((zbw.j3 (zbw.l2 d_ cv_ r3 (zbw.j2 r_) k39) many33 v37 e44 r53) out56)→K55 a s.w:=by
    intro out56 og57 a s L d59 d60 d61 h;unfold zbw.j3 at h;show K55 a s.w;refine H55 _ _ ?_;obtain ⟨h62,h⟩:=h;refine rg (sA 4 L fun a s L=>?_);refine sv (zpr op op Ud.h (zem Ud.h) tyv3 J J) L fun a s L=>?_;refine sA 4 L fun a s L=>?_;refine zg4 L op op op Ud.h (zem Ud.h) (.inl J) J J kw fun s L=>?_;refine en' (H43 _ _ ?_);obtain ⟨h63,h⟩:=h;refine rg (sA 2 L fun a s L=>?_);refine en' ?_;exact hKL40 a s ⟨(zf5 many33 r53 (min ((zel many33 r53 0)+e44.2) 2)),out56,(v37+1),og34,og57,L.kk,d59,h⟩
   refine cn L h (fun h=>?_) fun h=>?_
   ·obtain ⟨h64,h⟩:=h;refine rg (sA 2 L fun a s L=>?_);refine sv (zbj (x:=(r49.1,0)) (ps:=[(0,.tmp 41)]) zl8 J stt98 (.cons (i:=0) op J (zu (zk _ _ _)) .nil) J J) L fun a s L=>?_;refine sA 1 L fun a s L=>?_;have lt_og65_0:=L.mlt 7 rfl;have lt_og65_1:=L.blt 10 rfl;refine zb1 44 L op op Ud.h Tq.h h64 J J J J ka fun a s og65 hg_ L=>?_;have d66:=Dis.app hg_ (Dis.symm d41) lt_og65_0;have d67:=Dis.app hg_ (Dis.symm d48) lt_og65_1;refine sA 1 L fun a s L=>?_;refine en' ?_;exact J58 (out35++[(r49.1,0)]) og65 a s (L.kk) (Dis.symm d66) (Dis.symm d47) d67 h
   ·refine wp_skip ?_;exact J58 out35 og36 a s (L.kk) d41 (Dis.symm d47) (Dis.symm d48) h
 ·refine wp_exit ?_;exact J9 many33 out35 og34 og36 a s (L.kk) d41 h
theorem zn7  {r_:(List Cl)} (h:zb4  r_):Fn Tryz.prog 107 [] (Ro En.cls 51 r_):=by
 unfold zb4 at h;refine zbk Tryz.func107 J Tryz.ntmps107 (by rfl) (by simp) fun s0 a L=>?_;refine rs (sno En.cls 51 L fun a s L=>?_);refine es (rs ?_);refine sno En.cls 51 L fun a s L=>?_;refine es (wp_seq_k fun K1 H1=>?_);refine rA 1 L fun a s L=>?_;refine wp_block ?_;have J4:∀(out2:(List Cl)) (og3:Option Nat) (a:Act) (s:St),Has N0 16 s0 a s [(1,(Pd.row En.cls s0.w.heap.size 51 og3 out2))]→((zb4.j1 r_) out2)→K1 a s.w:=by
  intro out2 og3 a s L h;unfold zb4.j1 at h;show K1 a s.w;refine H1 _ _ (rA 2 L fun a s L=>?_);subst h;exact wp_ret (zfj J L J)
 obtain ⟨k8,h⟩:=h;refine lpn (fun k9 a s=>∃(out5:(List Cl)) (v7:Int) (og6:Option Nat),Has N0 16 s0 a s [(1,(Pd.row En.cls s0.w.heap.size 51 og6 out5)),(3,(Pi v7))]∧zb4.l1 (zb4.j1 r_) k9 out5 v7) k8 ⟨([]:(List Cl)),0,none,L.kk,h⟩ ?_;rintro k9 a s ⟨out5,v7,og6,L,h⟩ KL10 hKL10;unfold zb4.l1 at h;refine rA 1 L fun a s L=>?_;refine wp_seq_k fun K11 H11=>cn L h (fun h=>?_) fun h=>?_
 ·refine wp_skip (H11 _ _ ?_);refine wp_seq_k fun K12 H12=>wp_block (rA 2 L fun a s L=>?_);obtain ⟨r13,h14,h15,h⟩:=h;refine rg (sl 7 (p1 (zom h14)) L fun a s L=>?_);refine zb1 13 L op op Ud.h Tq.h h15 J J J J ka fun a s og16 hg_ L=>?_;refine sA 1 L fun a s L=>?_;refine en' (H12 _ _ ?_);obtain ⟨h17,h⟩:=h;refine rg (sA 2 L fun a s L=>?_);refine en' ?_;exact hKL10 a s ⟨(out5++[r13]),(v7+1),og16,L.kk,h⟩
 ·refine wp_exit ?_;exact J4 out5 og6 a s (L.kk) h
theorem zn9 {d_:SDesc} {s_:(List SItem)} {r_:(List Cl)} (h:zbm d_ s_ r_):Fn Tryz.prog 73 [(Pd.rep En.SDesc d_),(Pd.rep (En.slice En.SItem) s_)] (Ro En.cls 51 r_):=by
 unfold zbm at h;refine zbk Tryz.func73 J Tryz.ntmps73 (by rfl) (by simp) fun s0 a L=>?_;refine rs (sA 1 L fun a s L=>?_);refine sno En.cls 51 L fun a s L=>?_;refine es (rs ?_);refine sno En.cls 51 L fun a s L=>?_;refine es (wp_seq_k fun K1 H1=>?_);obtain ⟨r2,h3,h⟩:=h;refine ra 5 (p1 ((zhn h3).frz)) L fun a s L=>?_;refine wp_block ?_;have J6:∀(out4:(List Cl)) (og5:Option Nat) (a:Act) (s:St),Has N0 64 s0 a s [(5,(Pd.row En.cls s0.w.heap.size 51 og5 out4))]→((zbm.j1 r_) out4)→K1 a s.w:=by
  intro out4 og5 a s L h;unfold zbm.j1 at h;show K1 a s.w;refine H1 _ _ (rA 2 L fun a s L=>?_);subst h;exact wp_ret (zfj J L J)
 obtain ⟨k10,h⟩:=h;refine lpn (fun k11 a s=>∃(out7:(List Cl)) (v9:Int) (og8:Option Nat),Has N0 64 s0 a s [(2,(Pd.ptr En.SDesc d_)),(5,(Pd.row En.cls s0.w.heap.size 51 og8 out7)),(12,(Pd.rep (En.slice En.SBranch) r2)),(13,(Pi (r2.length:Int))),(14,(Pi v9))]∧zbm.l1 d_ r2 (zbm.j1 r_) k11 out7 v9) k10 ⟨([]:(List Cl)),0,none,L.kk,h⟩ ?_;rintro k11 a s ⟨out7,v9,og8,L,h⟩ KL12 hKL12;unfold zbm.l1 at h;refine rA 1 L fun a s L=>?_;refine wp_seq_k fun K13 H13=>cn L h (fun h=>?_) fun h=>?_
 ·refine wp_skip (H13 _ _ ?_);refine wp_seq_k fun K14 H14=>wp_block ?_;obtain ⟨e15,h16,h⟩:=h;refine rs (sl 2 (p1 h16) L fun a s L=>?_);have lt_d18:=L.rlt 5 rfl;refine z8 En.SBranch (z:=([],0)) 7 L zl8 J J J J fun a s g17 hg_ L=>?_;have d18:=Dis.newg hg_ lt_d18;refine sB 7 L fun s L=>?_;refine es (wp_seq_k fun K19 H19=>?_);refine rA 4 L fun a s L=>?_;refine cn L h (fun h=>?_) fun h=>?_
  ·refine wp_exit ?_;show K14 a s.w;refine H14 _ _ ?_;obtain ⟨h20,h⟩:=h;refine rg (sA 2 L fun a s L=>?_);refine en' ?_;exact hKL12 a s ⟨out7,(v9+1),og8,L.kk,h⟩
  ·refine wp_skip (H19 _ _ ?_);obtain ⟨e21,h22,h⟩:=h;refine rs (sl 4 (p1 h22) L fun a s L=>?_);have lt_d25:=L.blt 7 rfl;have lt_d24:=L.rlt 5 rfl;refine z8 En.SItem (z:=(0,0,0,0)) 8 L zej J J J J fun a s g23 hg_ L=>?_;have d24:=Dis.newg hg_ lt_d24;have d25:=Dis.newg hg_ lt_d25;refine sB 8 L fun s L=>?_;refine es ?_;obtain ⟨e26,h27,h⟩:=h;refine rs (sl 6 (p1 h27) L fun a s L=>?_);have lt_d30:=L.blt 8 rfl;have lt_d29:=L.rlt 5 rfl;refine z8 En.SNode (z:=(0,0,0,0,0,(0#256),([]:Str))) 9 L zkx J J J J fun a s g28 hg_ L=>?_;have d29:=Dis.newg hg_ lt_d29;have d30:=Dis.newg hg_ lt_d30;replace L:=L.dr (some g17);refine sB 9 L fun s L=>?_;refine es (wp_block ?_);refine rA 4 L fun a s L=>?_;refine cn L h (fun h=>?_) fun h=>?_
   ·obtain ⟨c31,h32,c33,h34,r35,h36,h37,h⟩:=h;refine rdx 13 (pp h32 (pp h34 (p1 (zom h36)))) L fun a s L=>?_;refine zb1 52 L op op Ud.h Tq.h h37 J J J J ka fun a s og38 hg_ L=>?_;refine sA 1 L fun a s L=>?_;refine en' (H14 _ _ ?_);obtain ⟨h39,h⟩:=h;refine rg (sA 2 L fun a s L=>?_);refine en' ?_;exact hKL12 a s ⟨(out7++[r35]),(v9+1),og38,L.kk,h⟩
   ·refine rA 4 L fun a s L=>?_;refine cn L h (fun h=>?_) fun h=>?_
    ·obtain ⟨h40,h⟩:=h;refine rg (sA 4 L fun a s L=>?_);refine zb1 61 L op op Ud.h Tq.h h40 J J J J ka fun a s og41 hg_ L=>?_;refine sA 1 L fun a s L=>?_;refine en' (H14 _ _ ?_);obtain ⟨h42,h⟩:=h;refine rg (sA 2 L fun a s L=>?_);refine en' ?_;exact hKL12 a s ⟨(out7++[e26.2.2.2.2.2.1]),(v9+1),og41,L.kk,h⟩
    ·obtain ⟨r43,h44,h45,h⟩:=h;refine rg (sl 2 (p1 ((zn7 h44).frz)) L fun a s L=>?_);refine zb1 34 L op op Ud.h Tq.h h45 J J J J ka fun a s og46 hg_ L=>?_;refine sA 1 L fun a s L=>?_;refine en' (H14 _ _ ?_);obtain ⟨h47,h⟩:=h;refine rg (sA 2 L fun a s L=>?_);refine en' ?_;exact hKL12 a s ⟨(out7++r43),(v9+1),og46,L.kk,h⟩
 ·refine wp_exit ?_;exact J6 out7 og8 a s (L.kk) h
theorem next_Ends_ok {d_:SDesc} {s_:(List SItem)} {r_:Int} (h:zc7 d_ s_ r_):Fn Tryz.prog 64 [(Pd.rep En.SDesc d_),(Pd.rep (En.slice En.SItem) s_)] (Rq (Pi r_)):=by
 unfold zc7 at h;refine zbk Tryz.func64 J Tryz.ntmps64 (by rfl) (by simp) fun s0 a L=>?_;refine rA 2 L fun a s L=>?_;refine wp_seq_k fun K1 H1=>?_;obtain ⟨r2,h3,h⟩:=h;refine ra 5 (p1 ((zhn h3).frz)) L fun a s L=>?_;refine wp_block ?_;have J4:∀(a:Act) (s:St),Has N0 22 s0 a s []→((zc7.j1 r_))→K1 a s.w:=by
  intro a s L h;unfold zc7.j1 at h;show K1 a s.w;refine H1 _ _ (rA 1 L fun a s L=>?_);subst h;exact wp_ret (zdp J L J)
 obtain ⟨k6,h⟩:=h;refine lpn (fun k7 a s=>∃(v5:Int),Has N0 22 s0 a s [(9,(Pd.rep (En.slice En.SBranch) r2)),(10,(Pi (r2.length:Int))),(11,(Pi v5))]∧zc7.l1 r2 r_ (zc7.j1 r_) k7 v5) k6 ⟨0,L.kk,h⟩ ?_;rintro k7 a s ⟨v5,L,h⟩ KL8 hKL8;unfold zc7.l1 at h;refine rA 1 L fun a s L=>?_;refine wp_seq_k fun K9 H9=>cn L h (fun h=>?_) fun h=>?_
 ·refine wp_skip (H9 _ _ ?_);refine wp_seq_k fun K10 H10=>wp_block ?_;obtain ⟨e11,h12,h⟩:=h;refine rs (sl 2 (p1 h12) L fun a s L=>?_);refine z8 En.SBranch (z:=([],0)) 6 L zl8 J J J J fun a s g13 hg_ L=>?_;refine sB 6 L fun s L=>?_;refine es (rA 4 L fun a s L=>?_);refine cn L h (fun h=>?_) fun h=>?_
  ·refine rA 3 L fun a s L=>?_;subst h;exact wp_ret (zdp J L J)
  ·refine wp_skip (H10 _ _ ?_);obtain ⟨h14,h⟩:=h;refine rg (sA 2 L fun a s L=>?_);refine en' ?_;exact hKL8 a s ⟨(v5+1),L.kk,h⟩
 ·refine wp_exit ?_;exact J4 a s (L.kk) h
theorem zq2 {d_:SDesc} {s_:(List SItem)} {cv_:Int} {r_:((List SItem) × Bool)} (h:zju d_ s_ cv_ r_):Fn Tryz.prog 84 [(Pd.rep En.SDesc d_),(Pd.rep (En.slice En.SItem) s_),(Pd.rep (En.int .u8) cv_)] (Ro2 En.SItem 57 r_.1 (Pd.rep En.bool r_.2)):=by
 unfold zju at h;refine zbk Tryz.func84 J Tryz.ntmps84 (by rfl) (by simp) fun s0 a L=>?_;refine rs (sA 1 L fun a s L=>?_);refine sno En.SItem 57 L fun a s L=>?_;refine sA 1 L fun a s L=>?_;refine es (wp_seq_k fun K1 H1=>?_);refine rA 3 L fun a s L=>?_;refine cn L h (fun h=>?_) fun h=>?_
 ·refine rs ?_;refine sno En.SItem 57 L fun a s L=>?_;refine sA 1 L fun a s L=>?_;refine es ?_;subst h;exact wp_ret (zgi J L J J)
 ·refine wp_skip (H1 _ _ ?_);obtain ⟨h2,r3,h4,h⟩:=h;refine ra 8 (pp (((zo9 h4).frz2 (Pd.rep_stable _ _)).tup) trivial) L fun a s L=>?_;refine wp_seq_k fun K5 H5=>rA 2 L fun a s L=>?_;refine cn L h (fun h=>?_) fun h=>?_
  ·refine rs ?_;refine sno En.SItem 57 L fun a s L=>?_;refine sA 1 L fun a s L=>?_;refine es ?_;subst h;exact wp_ret (zgi J L J J)
  ·refine wp_skip (H5 _ _ ?_);obtain ⟨e6,h7,h⟩:=h;refine rs (sl 3 (p1 h7) L fun a s L=>?_);refine z8 En.SItem (z:=(0,0,0,0)) 10 L zej J J J J fun a s g8 hg_ L=>?_;refine sB 10 L fun s L=>?_;refine es ?_;obtain ⟨e9,h10,h⟩:=h;refine rs (sl 6 (p1 h10) L fun a s L=>?_);have lt_d12:=L.blt 10 rfl;refine z8 En.SNode (z:=(0,0,0,0,0,(0#256),([]:Str))) 11 L zkx J J J J fun a s g11 hg_ L=>?_;have d12:=Dis.newg hg_ lt_d12;refine sB 11 L fun s L=>?_;refine es (rs ?_);refine sA 2 L fun a s L=>?_;refine sv (zbj (x:=(1,e9.2.1,0,0)) (ps:=[(0,.const (.int .i64 1)),(1,.tmp 35)]) zej J zhu (.cons (i:=0) op J (zu (zk _ _ _)) (.cons (i:=1) op J (zi (zu (zk _ _ _)) J) .nil)) J J) L fun a s L=>?_;have lt_d15:=L.blt 11 rfl;have lt_d14:=L.blt 10 rfl;refine z8 En.SItem (z:=(0,0,0,0)) 12 L zej J J J J fun a s g13 hg_ L=>?_;have d14:=Dis.newg hg_ lt_d14;have d15:=Dis.newg hg_ lt_d15;refine sB 12 L fun s L=>?_;refine es (rs ?_);refine sno En.SItem 57 L fun a s L=>?_;refine es (wp_seq_k fun K16 H16=>?_);refine wp_block (rA 4 L fun a s L=>?_);refine cn L h (fun h=>?_) fun h=>?_
   ·refine wp_seq_k fun K17 H17=>?_;obtain ⟨c18,h19,h⟩:=h;refine ra 7 (p1 h19) L fun a s L=>?_;refine cn L h (fun h=>?_) fun h=>?_
    ·refine rs ?_;refine sno En.SItem 57 L fun a s L=>?_;refine sA 1 L fun a s L=>?_;refine es ?_;subst h;exact wp_ret (zgi J L J J)
    ·refine wp_skip (H17 _ _ ?_);obtain ⟨h20,b21,h22,h⟩:=h;refine ra 7 (p1 h22) L fun a s L=>?_;refine cn L h (fun h=>?_) fun h=>?_
     ·obtain ⟨h23,h⟩:=h;refine rg (sA 5 L fun a s L=>?_);refine sv (zbj (x:=(3,e6.2.1,e6.2.2.1+1,0)) (ps:=[(0,.const (.int .i64 3)),(1,.tmp 56),(2,.tmp 59)]) zej J zhu (.cons (i:=0) op J (zu (zk _ _ _)) (.cons (i:=1) op J (zi (zu (zk _ _ _)) J) (.cons (i:=2) op J (zi (zi (zu (zk _ _ _)) J) J) .nil))) J J) L fun a s L=>?_;have lt_d27:=L.blt 12 rfl;have lt_d26:=L.blt 11 rfl;have lt_d25:=L.blt 10 rfl;refine zdy (xs:=[.tmp 60]) 61 L (.cons op .nil) Ud.h Tq.h J J (by decide) J J J J fun a s g24 hg_ L=>?_;have d25:=Dis.newg hg_ lt_d25;have d26:=Dis.newg hg_ lt_d26;have d27:=Dis.newg hg_ lt_d27;refine sA 1 L fun a s L=>?_;refine en' (H16 _ _ ?_);obtain ⟨h28,h⟩:=h;refine rs (sA 2 L fun a s L=>?_);refine zb1 102 L op op Ud.h Tq.h h28 J J J J ka fun a s og29 hg_ L=>?_;refine sA 2 L fun a s L=>?_;refine es ?_;subst h;exact wp_ret (zgi J L J J)
     ·refine wp_skip (H16 _ _ ?_);obtain ⟨h30,h⟩:=h;refine rs (sA 2 L fun a s L=>?_);refine zb1 102 L op op Ud.h Tq.h h30 J J J J ka fun a s og31 hg_ L=>?_;refine sA 2 L fun a s L=>?_;refine es ?_;subst h;exact wp_ret (zgi J L J J)
   ·refine rA 4 L fun a s L=>?_;refine cn L h (fun h=>?_) fun h=>?_
    ·obtain ⟨h32,h33,h⟩:=h;refine rg (sA 7 L fun a s L=>?_);refine sv (zbj (x:=(5,0,(256*e6.2.2.1)+cv_,0)) (ps:=[(0,.const (.int .i64 5)),(2,.tmp 72)]) zej J zhu (.cons (i:=0) op J (zu (zk _ _ _)) (.cons (i:=2) op J (zi (zi (zu (zk _ _ _)) J) J) .nil)) J J) L fun a s L=>?_;have lt_d37:=L.blt 12 rfl;have lt_d36:=L.blt 11 rfl;have lt_d35:=L.blt 10 rfl;refine zdy (xs:=[.tmp 66,.tmp 73]) 74 L (.cons op (.cons op .nil)) Ud.h Tq.h J J (by decide) J J J J fun a s g34 hg_ L=>?_;have d35:=Dis.newg hg_ lt_d35;have d36:=Dis.newg hg_ lt_d36;have d37:=Dis.newg hg_ lt_d37;refine sA 1 L fun a s L=>?_;refine en' (H16 _ _ ?_);obtain ⟨h38,h⟩:=h;refine rs (sA 2 L fun a s L=>?_);refine zb1 102 L op op Ud.h Tq.h h38 J J J J ka fun a s og39 hg_ L=>?_;refine sA 2 L fun a s L=>?_;refine es ?_;subst h;exact wp_ret (zgi J L J J)
    ·refine rA 4 L fun a s L=>?_;refine cn L h (fun h=>?_) fun h=>?_
     ·refine rg ?_;refine sA 3 L fun a s L=>?_;refine sv (zbj (x:=(5,0,cv_,0)) (ps:=[(0,.const (.int .i64 5)),(2,.tmp 81)]) zej J zhu (.cons (i:=0) op J (zu (zk _ _ _)) (.cons (i:=2) op J (zi (zi (zu (zk _ _ _)) J) J) .nil)) J J) L fun a s L=>?_;have lt_d43:=L.blt 12 rfl;have lt_d42:=L.blt 11 rfl;have lt_d41:=L.blt 10 rfl;refine zdy (xs:=[.tmp 79,.tmp 82]) 83 L (.cons op (.cons op .nil)) Ud.h Tq.h J J (by decide) J J J J fun a s g40 hg_ L=>?_;have d41:=Dis.newg hg_ lt_d41;have d42:=Dis.newg hg_ lt_d42;have d43:=Dis.newg hg_ lt_d43;refine sA 1 L fun a s L=>?_;refine en' (H16 _ _ ?_);obtain ⟨h44,h⟩:=h;refine rs (sA 2 L fun a s L=>?_);refine zb1 102 L op op Ud.h Tq.h h44 J J J J ka fun a s og45 hg_ L=>?_;refine sA 2 L fun a s L=>?_;refine es ?_;subst h;exact wp_ret (zgi J L J J)
     ·refine rA 4 L fun a s L=>?_;refine cn L h (fun h=>?_) fun h=>?_
      ·refine rg ?_;refine sA 4 L fun a s L=>?_;refine sv (zbj (x:=(4,e6.2.1,cv_,0)) (ps:=[(0,.const (.int .i64 4)),(1,.tmp 89),(2,.tmp 91)]) zej J zhu (.cons (i:=0) op J (zu (zk _ _ _)) (.cons (i:=1) op J (zi (zu (zk _ _ _)) J) (.cons (i:=2) op J (zi (zi (zu (zk _ _ _)) J) J) .nil))) J J) L fun a s L=>?_;have lt_d49:=L.blt 12 rfl;have lt_d48:=L.blt 11 rfl;have lt_d47:=L.blt 10 rfl;refine zdy (xs:=[.tmp 92]) 93 L (.cons op .nil) Ud.h Tq.h J J (by decide) J J J J fun a s g46 hg_ L=>?_;have d47:=Dis.newg hg_ lt_d47;have d48:=Dis.newg hg_ lt_d48;have d49:=Dis.newg hg_ lt_d49;refine sA 1 L fun a s L=>?_;refine en' (H16 _ _ ?_);obtain ⟨h50,h⟩:=h;refine rs (sA 2 L fun a s L=>?_);refine zb1 102 L op op Ud.h Tq.h h50 J J J J ka fun a s og51 hg_ L=>?_;refine sA 2 L fun a s L=>?_;refine es ?_;subst h;exact wp_ret (zgi J L J J)
      ·obtain ⟨r52,h53,h⟩:=h;refine ra 6 (p1 (zjc h53)) L fun a s L=>?_;refine cn L h (fun h=>?_) fun h=>?_
       ·refine rs ?_;refine sno En.SItem 57 L fun a s L=>?_;refine sA 1 L fun a s L=>?_;refine es ?_;subst h;exact wp_ret (zgi J L J J)
       ·refine wp_skip (H16 _ _ ?_);obtain ⟨h54,h⟩:=h;refine rs (sA 2 L fun a s L=>?_);refine zb1 102 L op op Ud.h Tq.h h54 J J J J ka fun a s og55 hg_ L=>?_;refine sA 2 L fun a s L=>?_;refine es ?_;subst h;exact wp_ret (zgi J L J J)
theorem ref15_On_ok {d_:SDesc} {s_:(List SItem)} {cv_:Int} {r_:(List SBranch)} (h:zc9 d_ s_ cv_ r_):Fn Tryz.prog 56 [(Pd.rep En.SDesc d_),(Pd.rep (En.slice En.SItem) s_),(Pd.rep (En.int .u8) cv_)] (Ro En.SBranch 98 r_):=by
 unfold zc9 at h;refine zbk Tryz.func56 J Tryz.ntmps56 (by rfl) (by simp) fun s0 a L=>?_;refine rs (sA 1 L fun a s L=>?_);refine sno En.SBranch 98 L fun a s L=>?_;refine es ?_;obtain ⟨r1,h2,h⟩:=h;refine ra 4 (p1 (zhg h2)) L fun a s L=>?_;refine rs (sno En.SBranch 98 L fun a s L=>?_);refine es (wp_seq_k fun K3 H3=>?_);refine rA 1 L fun a s L=>?_;refine wp_block ?_;have J6:∀(out4:(List SBranch)) (og5:Option Nat) (a:Act) (s:St),Has N0 42 s0 a s [(8,(Pd.row En.SBranch s0.w.heap.size 98 og5 out4))]→((zc9.j1 r_) out4)→K3 a s.w:=by
  intro out4 og5 a s L h;unfold zc9.j1 at h;show K3 a s.w;refine H3 _ _ (rA 2 L fun a s L=>?_);subst h;exact wp_ret (zfj J L J)
 obtain ⟨k10,h⟩:=h;refine lpn (fun k11 a s=>∃(out7:(List SBranch)) (i9:Int) (og8:Option Nat),Has N0 42 s0 a s [(2,(Pd.rep (En.int .u8) cv_)),(3,(Pd.ptr En.SDesc d_)),(7,(Pd.rep (En.slice En.SBranch) r1)),(8,(Pd.row En.SBranch s0.w.heap.size 98 og8 out7)),(9,(Pi i9))]∧zc9.l1 d_ cv_ r1 (zc9.j1 r_) k11 out7 i9) k10 ⟨([]:(List SBranch)),0,none,L.kk,h⟩ ?_;rintro k11 a s ⟨out7,i9,og8,L,h⟩ KL12 hKL12;unfold zc9.l1 at h;refine wp_seq_k fun K13 H13=>rA 4 L fun a s L=>?_;refine cn L h (fun h=>?_) fun h=>?_
 ·refine wp_skip (H13 _ _ ?_);refine wp_seq_k fun K14 H14=>wp_block ?_;obtain ⟨e15,h16,r17,h18,h⟩:=h;refine wp_seq (rdx 13 (pp h16 (pp (((zq2 h18).frz2 (Pd.rep_stable _ _)).tup) trivial)) L fun a s L=>?_);refine es (rA 1 L fun a s L=>?_);refine cn L h (fun h=>?_) fun h=>?_
  ·refine fzc 8 L fun s L=>?_;obtain ⟨e19,h20,r21,h22,h⟩:=h;refine rg (sl 7 (p1 h20) L fun a s L=>?_);refine zen 40 L (zi8 h22) opz J J J J fun a s og23 hg_ L=>?_;refine sA 1 L fun a s L=>?_;refine en' (H14 _ _ ?_);obtain ⟨h24,h⟩:=h;refine rg (sA 3 L fun a s L=>?_);refine en' ?_;exact hKL12 a s ⟨r21,(i9+1),og23,L.kk,h⟩
  ·refine wp_skip (H14 _ _ ?_);obtain ⟨h25,h⟩:=h;refine rg (sA 3 L fun a s L=>?_);refine en' ?_;exact hKL12 a s ⟨out7,(i9+1),og8,L.kk,h⟩
 ·refine wp_exit ?_;exact J6 out7 og8 a s (L.kk) h
theorem zm3 {d_:SDesc} {s_:(List SItem)} {r_:(List Cl)} (h:zx d_ s_ r_):Fn Tryz.prog 74 [(Pd.rep En.SDesc d_),(Pd.rep (En.slice En.SItem) s_)] (Ro En.cls 51 r_):=by
 unfold zx at h;refine zbk Tryz.func74 J Tryz.ntmps74 (by rfl) (by simp) fun s0 a L=>?_;refine rs (sA 1 L fun a s L=>?_);refine sno En.cls 51 L fun a s L=>?_;refine es ?_;obtain ⟨r1,h2,h⟩:=h;refine ra 4 (p1 (zhg h2)) L fun a s L=>?_;refine rs (sno En.cls 51 L fun a s L=>?_);refine es (wp_seq_k fun K3 H3=>?_);refine rA 1 L fun a s L=>?_;refine wp_block ?_;have J6:∀(out4:(List Cl)) (og5:Option Nat) (a:Act) (s:St),Has N0 83 s0 a s [(6,(Pd.row En.cls s0.w.heap.size 51 og5 out4))]→((zx.j1 r_) out4)→K3 a s.w:=by
  intro out4 og5 a s L h;unfold zx.j1 at h;show K3 a s.w;refine H3 _ _ (rA 2 L fun a s L=>?_);subst h;exact wp_ret (zfj J L J)
 obtain ⟨k10,h⟩:=h;refine lpn (fun k11 a s=>∃(out7:(List Cl)) (i9:Int) (og8:Option Nat),Has N0 83 s0 a s [(2,(Pd.ptr En.SDesc d_)),(5,(Pd.rep (En.slice En.SBranch) r1)),(6,(Pd.row En.cls s0.w.heap.size 51 og8 out7)),(7,(Pi i9))]∧zx.l1 d_ r1 (zx.j1 r_) k11 out7 i9) k10 ⟨([]:(List Cl)),0,none,L.kk,h⟩ ?_;rintro k11 a s ⟨out7,i9,og8,L,h⟩ KL12 hKL12;unfold zx.l1 at h;refine wp_seq_k fun K13 H13=>rA 4 L fun a s L=>?_;refine cn L h (fun h=>?_) fun h=>?_
 ·refine wp_skip (H13 _ _ ?_);refine wp_seq_k fun K14 H14=>wp_block (wp_seq_k fun K15 H15=>?_);obtain ⟨e16,h17,h⟩:=h;refine ra 7 (p1 h17) L fun a s L=>?_;refine cn L h (fun h=>?_) fun h=>?_
  ·refine wp_exit ?_;show K14 a s.w;refine H14 _ _ ?_;obtain ⟨h18,h⟩:=h;refine rg (sA 3 L fun a s L=>?_);refine en' ?_;exact hKL12 a s ⟨out7,(i9+1),og8,L.kk,h⟩
  ·refine wp_skip (H15 _ _ ?_);obtain ⟨e19,h20,e21,h22,h⟩:=h;refine rs (sl 7 (pp h20 (p1 h22)) L fun a s L=>?_);have lt_d24:=L.rlt 6 rfl;refine z8 En.SItem (z:=(0,0,0,0)) 8 L zej J J J J fun a s g23 hg_ L=>?_;have d24:=Dis.newg hg_ lt_d24;refine sB 8 L fun s L=>?_;refine es ?_;obtain ⟨e25,h26,h⟩:=h;refine rs (sl 6 (p1 h26) L fun a s L=>?_);have lt_d29:=L.blt 8 rfl;have lt_d28:=L.rlt 6 rfl;refine z8 En.SNode (z:=(0,0,0,0,0,(0#256),([]:Str))) 9 L zkx J J J J fun a s g27 hg_ L=>?_;have d28:=Dis.newg hg_ lt_d28;have d29:=Dis.newg hg_ lt_d29;refine sB 9 L fun s L=>?_;refine es (rA 3 L fun a s L=>?_);refine cn L h (fun h=>?_) fun h=>?_
   ·obtain ⟨c30,h31,c32,h33,r34,h35,h36,h⟩:=h;refine rdx 13 (pp h31 (pp h33 (p1 (zja h35)))) L fun a s L=>?_;refine zb1 56 L op op Ud.h Tq.h h36 J J J J ka fun a s og37 hg_ L=>?_;refine sA 1 L fun a s L=>?_;refine en' (H14 _ _ ?_);obtain ⟨h38,h⟩:=h;refine rg (sA 3 L fun a s L=>?_);refine en' ?_;exact hKL12 a s ⟨(out7++[r34]),(i9+1),og37,L.kk,h⟩
   ·refine rA 8 L fun a s L=>?_;refine cn L h (fun h=>?_) fun h=>?_
    ·obtain ⟨h39,h⟩:=h;refine rg (sA 4 L fun a s L=>?_);refine zb1 69 L op op Ud.h Tq.h h39 J J J J ka fun a s og40 hg_ L=>?_;refine sA 1 L fun a s L=>?_;refine en' (H14 _ _ ?_);obtain ⟨h41,h⟩:=h;refine rg (sA 3 L fun a s L=>?_);refine en' ?_;exact hKL12 a s ⟨(out7++[e25.2.2.2.2.2.1]),(i9+1),og40,L.kk,h⟩
    ·refine rA 1 L fun a s L=>?_;refine wp_block ?_;have J44:∀(out42:(List Cl)) (og43:Option Nat) (a:Act) (s:St),Has N0 83 s0 a s [(2,(Pd.ptr En.SDesc d_)),(5,(Pd.rep (En.slice En.SBranch) r1)),(6,(Pd.row En.cls s0.w.heap.size 51 og43 out42)),(7,(Pi i9))]→((zx.j2 (zx.l1 d_ r1 (zx.j1 r_) k11) i9) out42)→K14 a s.w:=by
      intro out42 og43 a s L h;unfold zx.j2 at h;show K14 a s.w;refine H14 _ _ ?_;obtain ⟨h45,h⟩:=h;refine rg (sA 3 L fun a s L=>?_);refine en' ?_;exact hKL12 a s ⟨out42,(i9+1),og43,L.kk,h⟩
     obtain ⟨k49,h⟩:=h;refine lpn (fun k50 a s=>∃(out46:(List Cl)) (c48:Int) (og47:Option Nat),Has N0 83 s0 a s [(2,(Pd.ptr En.SDesc d_)),(5,(Pd.rep (En.slice En.SBranch) r1)),(6,(Pd.row En.cls s0.w.heap.size 51 og47 out46)),(7,(Pi i9)),(10,(Pi c48))]∧zx.l2 (zx.j2 (zx.l1 d_ r1 (zx.j1 r_) k11) i9) k50 out46 c48) k49 ⟨out7,0,og8,L.kk,h⟩ ?_;rintro k50 a s ⟨out46,c48,og47,L,h⟩ KL51 hKL51;unfold zx.l2 at h;refine wp_seq_k fun K52 H52=>rA 2 L fun a s L=>?_;refine cn L h (fun h=>?_) fun h=>?_
     ·refine wp_skip (H52 _ _ ?_);refine wp_seq_k fun K53 H53=>wp_block ?_;obtain ⟨r54,h55,h56,h⟩:=h;refine rg (sl 7 (p1 (zja h55)) L fun a s L=>?_);refine zb1 81 L op op Ud.h Tq.h h56 J J J J ka fun a s og57 hg_ L=>?_;refine sA 1 L fun a s L=>?_;refine en' (H53 _ _ ?_);obtain ⟨h58,h⟩:=h;refine rg (sA 3 L fun a s L=>?_);refine en' ?_;exact hKL51 a s ⟨(out46++[r54]),(c48+1),og57,L.kk,h⟩
     ·refine wp_exit ?_;exact J44 out46 og47 a s (L.kk) h
 ·refine wp_exit ?_;exact J6 out7 og8 a s (L.kk) h
theorem zq4 {d_:SDesc} {s_:(List SItem)} {r_:Int} (h:zcp d_ s_ r_):Fn Tryz.prog 69 [(Pd.rep En.SDesc d_),(Pd.rep (En.slice En.SItem) s_)] (Rq (Pi r_)):=by
 unfold zcp at h;refine zbk Tryz.func69 J Tryz.ntmps69 (by rfl) (by simp) fun s0 a L=>?_;refine rA 2 L fun a s L=>?_;obtain ⟨r1,h2,h⟩:=h;refine ra 4 (p1 (zhg h2)) L fun a s L=>?_;refine wp_seq_k fun K3 H3=>rA 1 L fun a s L=>?_;refine wp_block ?_;have J4:∀(a:Act) (s:St),Has N0 28 s0 a s []→((zcp.j1 r_))→K3 a s.w:=by
  intro a s L h;unfold zcp.j1 at h;show K3 a s.w;refine H3 _ _ (rA 1 L fun a s L=>?_);subst h;exact wp_ret (zdp J L J)
 obtain ⟨k6,h⟩:=h;refine lpn (fun k7 a s=>∃(i5:Int),Has N0 28 s0 a s [(5,(Pd.rep (En.slice En.SBranch) r1)),(6,(Pi i5))]∧zcp.l1 r1 r_ (zcp.j1 r_) k7 i5) k6 ⟨0,L.kk,h⟩ ?_;rintro k7 a s ⟨i5,L,h⟩ KL8 hKL8;unfold zcp.l1 at h;refine wp_seq_k fun K9 H9=>rA 4 L fun a s L=>?_;refine cn L h (fun h=>?_) fun h=>?_
 ·refine wp_skip (H9 _ _ ?_);refine wp_seq_k fun K10 H10=>wp_block ?_;obtain ⟨e11,h12,h⟩:=h;refine ra 7 (p1 h12) L fun a s L=>?_;refine cn L h (fun h=>?_) fun h=>?_
  ·obtain ⟨e13,h14,h⟩:=h;refine ra 6 (p1 h14) L fun a s L=>?_;subst h;exact wp_ret (zdp J L J)
  ·refine wp_skip (H10 _ _ ?_);obtain ⟨h15,h⟩:=h;refine rg (sA 3 L fun a s L=>?_);refine en' ?_;exact hKL8 a s ⟨(i5+1),L.kk,h⟩
 ·refine wp_exit ?_;exact J4 a s (L.kk) h
end Go.Proofs.YtbojklnokglbhaaGreatDoor.V
