/-
  The texts that the law's proof needs, part 3.
-/
import Derived.Carry
import Derived.ChangeSame
import Derived.Deep.Slices
import Derived.Handed
import Derived.KernelRfl
import Derived.LaidHandle
import Derived.LaidLaws
import Derived.Laws.BytesArg
import Derived.Lib.LaidTab
import Derived.Lib.SlBytesConst
import Derived.OpenShut
import Derived.ProofKit
import Derived.RowKit
import Derived.SizedLaws
import Derived.Stop.LaidErr
import Derived.Test.YtaknifhhnhcchaaDoorRows
import Derived.WalkKit
import Derived.Test.YtaknifhhnhcchaaDoorHeadsKeepsP2

namespace Go.Proofs.YtaknifhhnhcchaaDoor.V
open Go
set_option linter.unusedVariables false
set_option maxRecDepth 100000
theorem zgh {N:Nat} {d_:SDesc} {s_:(List SItem)} {r_:(List (List SItem))} (h:zt d_ s_ r_):Fn Tryd.prog 16 [Pd.geq N (Pd.rep En.SDesc d_),(Pd.rep (En.slice En.SItem) s_)] (Ro (En.nsl N En.SItem) 43 r_):=by
 unfold zt at h;refine zby Tryd.func16 J Tryd.ntmps16 (by rfl) (by simp) fun s0 a L=>?_;obtain ⟨hN0,L⟩:=L.geq0;refine wp_seq_k fun K1 H1=>rg (sw 2 (t_box (O 0 J) J J) L fun a s L=>?_);refine sw 4 (zg (o_nil (E:=En.nsl N En.SItem) (N:=s0.w.heap.size) (te:=43)) J J) L fun a s L=>?_;refine en' (H1 _ _ ?_);refine wp_seq_k fun K2 H2=>?_;obtain ⟨e4,h5,h6,h⟩:=h;replace L:=L.keep (L':=[(1,(Pd.rep (En.slice En.SItem) s_)),(2,(Pd.ptr En.SDesc d_))]) (.cons (t:=1) rfl nE (.cons (t:=2) rfl nE .nil));obtain ⟨K3,H3,nK3,L⟩:=L.mark 999983;refine rdf 8 zcm L (by kernel_rfl) fun s _ L=>?_;refine zhg 3 12 L (by rfl) (by kernel_rfl) (by kernel_rfl) (by kernel_rfl) (fun _ _ _ _ h=>h) (q:=(Pd.rep (En.slice En.SItem) s_)) (y_move (O 1 J) J J) J J fun a L=>?_;refine zhg 4 13 L (by rfl) (by kernel_rfl) (by kernel_rfl) (by kernel_rfl) (fun _ _ _ _ h=>h) (q:=(Pd.rep (En.slice En.SItem) (s_.drop (1:Int).toNat))) (y_from (O 12 J) oI h6 Tryd.underlying43 zec J J) J J fun a L=>?_;refine rc_go 6 [(Pd.rep (En.slice En.SItem) s_),(Pd.ptr En.SItem e4),(Pd.rep En.SItem e4),(Pd.rep (En.slice En.SItem) s_),(Pd.rep (En.slice En.SItem) (s_.drop (1:Int).toNat)),(Pd.ebox En.SItem s0.w.heap.size K3 (0,0,0,0))] [3,4] K3 [5] nK3 L (.k 13 (.k 12 (.k 999983 (.k 1 (.k 2 .nil))))) (by kernel_rfl) (by kernel_rfl) (by kernel_rfl) (by kernel_rfl) (.cons (i:=3) J J J J (.cons (i:=4) J J J J .nil)) J J ?_ ?_
 ·refine zeg.t (ze (O 1 J) J J) nE ?_;refine zeg.t (zdj (O 9 J) oI h5 Tryd.underlying43 zec J J) nE ?_;refine zeg.t (zbd zec (O 10 J) J J) nE ?_;refine zeg.skip J nE ?_;refine zeg.skip J nE ?_;refine zeg.c (t_allocx En.SItem (z:=(0,0,0,0)) (K:=K3) (m:=999983) J nK3 zdw J J) J ?_;exact zeg.nil
 intro a s _ L;obtain ⟨g7,hg_,L⟩:=L.openb 5 rfl;refine zed (L':=[(2,(Pd.ptr En.SDesc d_)),(13,(Pd.rep (En.slice En.SItem) (s_.drop (1:Int).toNat)))]) 5 L J (O 11 J) zec J J J (.k 2 (.k 13 .nil)) fun s L=>?_;refine sw 6 (zg (O 13 J) J J) L fun a s L=>?_;refine en' (H2 _ _ ?_);refine wp_seq_k fun K8 H8=>?_;obtain ⟨e9,h10,h⟩:=h;refine rg (sw 14 (zgc (off:=0) (O 2 J) Tryd.underlying41 J (zdk (zk _ _)) J ty39 J J) L fun a s L=>?_);refine sw 15 (zbd ty39 (O 14 J) J J) L fun a s L=>?_;refine sw 16 (zca (off:=1) (O 5 J) Tryd.underlying47 J (zi (zu (zk _ _)) J) J ty3 J J) L fun a s L=>?_;refine sw 17 (z1 ty3 (O 16 J) J J) L fun a s L=>?_;refine sw 18 (zdj (O 15 J) (O 17 J) h10 Tryd.underlying39 ty69 J J) L fun a s L=>?_;refine sw 19 (zbd ty69 (O 18 J) J J) L fun a s L=>?_;have lt_d12:=L.blt 5 rfl;refine zbj En.SNode (z:=(0,0,0,0,0,(0#256),([]:Str))) 7 L zfj J J J J fun a s g11 hg_ L=>?_;have d12:=Dis.newg hg_ lt_d12;refine zed (L':=[(5,(Pd.box En.SItem s0.w.heap.size g7 e4)),(6,(Pd.rep (En.slice En.SItem) (s_.drop (1:Int).toNat)))]) 7 L J (O 19 J) ty69 J J J (.cons (t:=5) J (Dis.bx (Dis.symm d12)) (.k 6 .nil)) fun s L=>?_;refine en' (H8 _ _ ?_);refine wp_seq_k fun K13 H13=>wp_block (wp_seq_k fun K14 H14=>?_);refine rg (sw 21 (zca (off:=0) (O 5 J) Tryd.underlying47 J (zu (zk _ _)) J ty3 J J) L fun a s L=>?_);refine sw 22 (z1 ty3 (O 21 J) J J) L fun a s L=>?_;refine sw 23 (zdv (O 22 J) oI J J) L fun a s L=>?_;refine sw 24 (ze (O 23 J) J J) L fun a s L=>?_;refine sw 25 (zbu J J J (fun hc_=>zca (off:=2) (O 5 J) Tryd.underlying47 J (zi (zi (zu (zk _ _)) J) J) J ty3 J J)) L fun a s L=>?_
 refine sw 26 (zbu J J J (fun hc_=>z1 ty3 (o_w hc_ 25 J) J J)) L fun a s L=>?_;refine sw 27 (zbu J J J (fun hc_=>zdv (o_w hc_ 26 J) oI J J)) L fun a s L=>?_;refine sw 28 (ze5 (O 24 J) (fun hc2_=>(o_w hc2_ 27 J)) J J) L fun a s L=>?_;refine sw 20 (zg (O 28 J) J J) L fun a s L=>?_;refine en' (H14 _ _ ?_);refine cnd L J (fun hb_=>?_) (fun hb_=>?_)
 ·replace h:=h.1 hb_;refine wp_seq_k fun K15 H15=>?_;obtain ⟨r16,h17,h⟩:=h;refine rg (sw 29 (ze (O 6 J) J J) L fun a s L=>?_);replace L:=L.cons 999900 (q:=Pd.ge N) (Nat.le_trans hN0 L.ent.mv.size);refine sw 30 (zx ((zm h17).nfrz N) (xs:=[.tmp 29,.const (.slice none 0 0)]) (.cons (zes (m:=999900) J (O 29 J)) (.cons zgl .nil)) J J) L fun a s L=>?_;have lt_d20:=L.blt 7 rfl;have lt_d19:=L.blt 5 rfl;refine zb6 (xs:=[.tmp 30]) 31 L (.cons (O 30 J) .nil) Tryd.underlying52 tySN J J (show 1*1≤16777216 by decide) J J J J fun a s g18 hg_ L=>?_;have d19:=Dis.newg hg_ lt_d19;have d20:=Dis.newg hg_ lt_d20;refine sw 4 (zg (O 31 J) J J) L fun a s L=>?_;refine en' (H15 _ _ ?_);subst h;exact wp_ret (ze6 J L J)
 ·replace h:=h.2 hb_;refine wp_seq_k fun K21 H21=>rg (sw 33 (zca (off:=0) (O 5 J) Tryd.underlying47 J (zu (zk _ _)) J ty3 J J) L fun a s L=>?_);refine sw 34 (z1 ty3 (O 33 J) J J) L fun a s L=>?_;refine sw 35 (zdv (O 34 J) oI J J) L fun a s L=>?_;refine sw 32 (zg (O 35 J) J J) L fun a s L=>?_;refine en' (H21 _ _ ?_);refine cnd L J (fun hb_=>?_) (fun hb_=>?_)
  ·replace h:=h.1 hb_;refine wp_seq_k fun K22 H22=>rg (sw 4 (zg (o_nil (E:=En.nsl N En.SItem) (N:=s0.w.heap.size) (te:=43)) J J) L fun a s L=>?_);refine en' (H22 _ _ ?_);subst h;exact wp_ret (ze6 J L J)
  ·replace h:=h.2 hb_;refine wp_seq_k fun K23 H23=>rg (sw 37 (zca (off:=0) (O 5 J) Tryd.underlying47 J (zu (zk _ _)) J ty3 J J) L fun a s L=>?_);refine sw 38 (z1 ty3 (O 37 J) J J) L fun a s L=>?_;refine sw 39 (zdv (O 38 J) oI J J) L fun a s L=>?_;refine sw 36 (zg (O 39 J) J J) L fun a s L=>?_;refine en' (H23 _ _ ?_);refine cnd L J (fun hb_=>?_) (fun hb_=>?_)
   ·replace h:=h.1 hb_;refine wp_seq_k fun K24 H24=>rg (sw 8 (zg (o_nil (E:=En.nsl N En.SItem) (N:=s0.w.heap.size) (te:=43)) J J) L fun a s L=>?_);refine en' (H24 _ _ ?_);refine wp_seq_k fun K25 H25=>wp_seq_k fun K26 H26=>rg (sw 40 (zca (off:=2) (O 5 J) Tryd.underlying47 J (zi (zi (zu (zk _ _)) J) J) J ty3 J J) L fun a s L=>?_);refine sw 41 (z1 ty3 (O 40 J) J J) L fun a s L=>?_;refine sw 42 (zdv (O 41 J) oI J J) L fun a s L=>?_;refine en' (H26 _ _ ?_);have J29:∀(out27:(List (List SItem))) (og28:Option Nat) (a:Act) (s:St),Has N0 139 s0 a s [(5,(Pd.box En.SItem s0.w.heap.size g7 e4)),(6,(Pd.rep (En.slice En.SItem) (s_.drop (1:Int).toNat))),(7,(Pd.box En.SNode s0.w.heap.size g11 e9)),(8,(Pd.row (En.nsl N En.SItem) s0.w.heap.size 43 og28 out27))]→Dis (some g7) (some g11)→Dis (some g7) og28→Dis (some g11) og28→((zt.j2 s_ r_ e4 e9) out27)→K25 a s.w:=by
     intro out27 og28 a s L d30 d31 d32 h;unfold zt.j2 at h;show K25 a s.w;refine H25 _ _ (wp_seq_k fun K33 H33=>?_);refine wp_seq_k fun K34 H34=>rg (sw 48 (zca (off:=3) (O 5 J) Tryd.underlying47 J (zi (zi (zi (zk _ _) J) J) J) J ty3 J J) L fun a s L=>?_);refine sw 49 (z1 ty3 (O 48 J) J J) L fun a s L=>?_;refine sw 50 (t_gtr (O 49 J) oI J J) L fun a s L=>?_;refine en' (H34 _ _ ?_);have J37:∀(out35:(List (List SItem))) (og36:Option Nat) (a:Act) (s:St),Has N0 139 s0 a s [(8,(Pd.row (En.nsl N En.SItem) s0.w.heap.size 43 og36 out35))]→((zt.j1 r_) out35)→K33 a s.w:=by
      intro out35 og36 a s L h;unfold zt.j1 at h;show K33 a s.w;refine H33 _ _ (wp_seq_k fun K38 H38=>?_);refine rg (sw 72 (ze (O 8 J) J J) L fun a s L=>?_);refine sw 4 (zg (O 72 J) J J) L fun a s L=>?_;refine en' (H38 _ _ ?_);subst h;exact wp_ret (ze6 J L J)
     refine cnd L J (fun hb_=>?_) (fun hb_=>?_)
     ·obtain ⟨r39,h40,h41,h42,r43,h44,h45,h⟩:=h.1 hb_;replace L:=L.cons 999900 (q:=Pd.ge N) (Nat.le_trans hN0 L.ent.mv.size);refine rda zcm 20 [(Pd.row (En.nsl N En.SItem) s0.w.heap.size 43 og28 out27),(Pd.rep (En.slice En.SItem) (s_.drop (1:Int).toNat)),(Pd.optr (En.int .i64) s0.w.heap.size (some g11) (1) e9.2.1),(Pi e9.2.1),(Pd.rep En.SItem r39),(Pd.optr (En.int .i64) s0.w.heap.size (some g7) (0) e4.1),(Pi e4.1),(Pd.optr (En.int .i64) s0.w.heap.size (some g7) (1) e4.2.1),(Pi e4.2.1),(Pd.optr (En.int .i64) s0.w.heap.size (some g7) (2) e4.2.2.1),(Pi e4.2.2.1),(Pi (e4.2.2.1-1)),(Pi (max (e4.2.2.1-1) 0)),(Pd.optr (En.int .i64) s0.w.heap.size (some g7) (3) e4.2.2.2),(Pi e4.2.2.2),(Pi (e4.2.2.2-1)),(Pd.rep En.SItem (e4.1,e4.2.1,(max (e4.2.2.1-1) 0),e4.2.2.2-1)),(Pd.rep (En.slice En.SItem) [r39,(e4.1,e4.2.1,(max (e4.2.2.1-1) 0),e4.2.2.2-1)]),(Pd.rep (En.nsl N En.SItem) r43),(Pd.rep (En.slice (En.nsl N En.SItem)) [r43])] L (by kernel_rfl) J J ?_ ?_
      ·refine zn.cons (ze (O 8 J) J J) ?_;refine zn.cons (ze (O 6 J) J J) ?_;refine zn.cons (zca (off:=1) (O 7 J) Tryd.underlying69 J (zi (zu (zk _ _)) J) J ty3 J J) ?_;refine zn.cons (z1 ty3 (O 53 J) J J) ?_;refine zn.cons (zx (zz h40) (xs:=[.tmp 54]) (.cons (O 54 J) .nil) J J) ?_;refine zn.cons (zca (off:=0) (O 5 J) Tryd.underlying47 J (zu (zk _ _)) J ty3 J J) ?_;refine zn.cons (z1 ty3 (O 56 J) J J) ?_;refine zn.cons (zca (off:=1) (O 5 J) Tryd.underlying47 J (zi (zu (zk _ _)) J) J ty3 J J) ?_;refine zn.cons (z1 ty3 (O 58 J) J J) ?_;refine zn.cons (zca (off:=2) (O 5 J) Tryd.underlying47 J (zi (zi (zu (zk _ _)) J) J) J ty3 J J) ?_;refine zn.cons (z1 ty3 (O 60 J) J J) ?_;refine zn.cons (t_sub (O 61 J) oI h41 J J) ?_;refine zn.cons (t_max (O 62 J) oI J J) ?_;refine zn.cons (zca (off:=3) (O 5 J) Tryd.underlying47 J (zi (zi (zi (zk _ _) J) J) J) J ty3 J J) ?_;refine zn.cons (z1 ty3 (O 64 J) J J) ?_;refine zn.cons (t_sub (O 65 J) oI h42 J J) ?_;refine zn.cons (zbn (x:=(e4.1,e4.2.1,(max (e4.2.2.1-1) 0),e4.2.2.2-1)) (ps:=[(0,.tmp 57),(1,.tmp 59),(2,.tmp 63),(3,.tmp 66)]) zdw J zfv (.cons (i:=0) (O 57 J) J (zq (zl _ _ _)) (.cons (i:=1) (O 59 J) J (zj (zq (zl _ _ _)) J) (.cons (i:=2) (O 63 J) J (zj (zj (zq (zl _ _ _)) J) J) (.cons (i:=3) (O 66 J) J (zj (zj (zj (zl _ _ _) J) J) J) .nil)))) J J) ?_;refine zn.cons (zdu (xs:=[.tmp 55,.tmp 67]) (.cons (O 55 J) (.cons (O 67 J) .nil)) Tryd.underlying42 zec J J (by decide) J J) ?_;refine zn.cons (zx ((zm h44).nfrz N) (xs:=[.tmp 52,.tmp 68]) (.cons (zes (m:=999900) J (O 52 J)) (.cons (O 68 J) .nil)) J J) ?_
       refine zn.cons (zdu (xs:=[.tmp 69]) (.cons (O 69 J) .nil) Tryd.underlying52 tySN J J (show 1*1≤16777216 by decide) J J) ?_;exact zn.nil
      intro a s _ L;refine zcy (L':=[]) 71 L (O 51 J) (O 70 J) Tryd.underlying52 tySN h45 J J J J .nil fun a s og46 hg_ L=>?_;refine sw 8 (zg (O 71 J) J J) L fun a s L=>?_;refine en' ?_;exact J37 (out27++[r43]) og46 a s (L.keep (.cons (t:=8) J (fun _ _ h_=>h_) .nil)) h
     ·replace h:=h.2 hb_;refine wp_skip ?_;exact J37 out27 og28 a s (L.keep (.cons (t:=8) J (fun _ _ h_=>h_) .nil)) h
    refine cnd L J (fun hb_=>?_) (fun hb_=>?_)
    ·obtain ⟨r47,h48,h49,h⟩:=h.1 hb_;refine rg (sw 43 (ze (O 8 J) J J) L fun a s L=>?_);refine sw 44 (ze (O 6 J) J J) L fun a s L=>?_;replace L:=L.cons 999900 (q:=Pd.ge N) (Nat.le_trans hN0 L.ent.mv.size);refine sw 45 (zx ((zm h48).nfrz N) (xs:=[.tmp 44,.const (.slice none 0 0)]) (.cons (zes (m:=999900) J (O 44 J)) (.cons zgl .nil)) J J) L fun a s L=>?_;refine sw 46 (zdu (xs:=[.tmp 45]) (.cons (O 45 J) .nil) Tryd.underlying52 tySN J J (show 1*1≤16777216 by decide) J J) L fun a s L=>?_;have lt_og50_0:=L.blt 5 rfl;have lt_og50_1:=L.blt 7 rfl;refine zcy (L':=[(5,(Pd.box En.SItem s0.w.heap.size g7 e4)),(6,(Pd.rep (En.slice En.SItem) (s_.drop (1:Int).toNat))),(7,(Pd.box En.SNode s0.w.heap.size g11 e9)),(8,(Pd.row (En.nsl N En.SItem) s0.w.heap.size 43 none ([]:(List (List SItem)))))]) 47 L (O 43 J) (O 46 J) Tryd.underlying52 tySN h49 J J J J (.cons (t:=5) J (Dis.bx (Dis.symm Dis.none)) (.k 6 (.cons (t:=7) J (Dis.bx (Dis.symm Dis.none)) (.cons (t:=8) J no_own .nil)))) fun a s og50 hg_ L=>?_;have d51:=Dis.app hg_ Dis.none lt_og50_0;have d52:=Dis.app hg_ Dis.none lt_og50_1;refine sw 8 (zg (O 47 J) J J) L fun a s L=>?_;refine en' ?_;exact J29 (([]:(List (List SItem)))++[r47]) og50 a s (L.keep (.cons (t:=5) J (fun _ _ h_=>h_) (.k 6 (.cons (t:=7) J (fun _ _ h_=>h_) (.cons (t:=8) J (fun _ _ h_=>h_) .nil))))) (Dis.symm d12) (Dis.symm d51) (Dis.symm d52) h
    ·replace h:=h.2 hb_;refine wp_skip ?_;exact J29 ([]:(List (List SItem))) none a s (L.keep (.cons (t:=5) J (fun _ _ h_=>h_) (.k 6 (.cons (t:=7) J (fun _ _ h_=>h_) (.cons (t:=8) J (fun _ _ h_=>h_) .nil))))) (Dis.symm d12) (Dis.symm Dis.none) (Dis.symm Dis.none) h
   ·replace h:=h.2 hb_;refine wp_skip (H13 _ _ ?_);refine wp_seq_k fun K53 H53=>wp_seq_k fun K54 H54=>rg (sw 73 (zca (off:=0) (O 7 J) Tryd.underlying69 J (zu (zk _ _)) J ty3 J J) L fun a s L=>?_);refine sw 74 (z1 ty3 (O 73 J) J J) L fun a s L=>?_;refine en' (H54 _ _ ?_);refine wp_block (wp_seq_k fun K55 H55=>?_);refine rg (sw 76 (zdv (O 74 J) oI J J) L fun a s L=>?_);refine sw 75 (zg (O 76 J) J J) L fun a s L=>?_;refine en' (H55 _ _ ?_);refine cnd L J (fun hb_=>?_) (fun hb_=>?_)
    ·replace h:=h.1 hb_;refine wp_seq_k fun K56 H56=>?_;obtain ⟨r57,h58,h⟩:=h;refine rg (sw 77 (ze (O 6 J) J J) L fun a s L=>?_);replace L:=L.cons 999900 (q:=Pd.ge N) (Nat.le_trans hN0 L.ent.mv.size);refine sw 78 (zx ((zm h58).nfrz N) (xs:=[.tmp 77,.const (.slice none 0 0)]) (.cons (zes (m:=999900) J (O 77 J)) (.cons zgl .nil)) J J) L fun a s L=>?_;have lt_d61:=L.blt 7 rfl;have lt_d60:=L.blt 5 rfl;refine zb6 (xs:=[.tmp 78]) 79 L (.cons (O 78 J) .nil) Tryd.underlying52 tySN J J (show 1*1≤16777216 by decide) J J J J fun a s g59 hg_ L=>?_;have d60:=Dis.newg hg_ lt_d60;have d61:=Dis.newg hg_ lt_d61;refine sw 4 (zg (O 79 J) J J) L fun a s L=>?_;refine en' (H56 _ _ ?_);subst h;exact wp_ret (ze6 J L J)
    ·replace h:=h.2 hb_;refine wp_seq_k fun K62 H62=>rg (sw 81 (zdv (O 74 J) oI J J) L fun a s L=>?_);refine sw 80 (zg (O 81 J) J J) L fun a s L=>?_;refine en' (H62 _ _ ?_);refine cnd L J (fun hb_=>?_) (fun hb_=>?_)
     ·replace h:=h.1 hb_;refine wp_seq_k fun K63 H63=>?_;obtain ⟨r64,h65,h⟩:=h;refine rg (sw 82 (ze (O 6 J) J J) L fun a s L=>?_);refine sw 83 (zca (off:=1) (O 5 J) Tryd.underlying47 J (zi (zu (zk _ _)) J) J ty3 J J) L fun a s L=>?_;refine sw 84 (z1 ty3 (O 83 J) J J) L fun a s L=>?_;refine sw 85 (zbn (x:=(3,e4.2.1,0,0)) (ps:=[(0,.const (.int .i64 3)),(1,.tmp 84)]) zdw J zfv (.cons (i:=0) oI J (zq (zl _ _ _)) (.cons (i:=1) (O 84 J) J (zj (zq (zl _ _ _)) J) .nil)) J J) L fun a s L=>?_;refine sw 86 (zdu (xs:=[.tmp 85]) (.cons (O 85 J) .nil) Tryd.underlying42 zec J J (by decide) J J) L fun a s L=>?_;replace L:=L.cons 999900 (q:=Pd.ge N) (Nat.le_trans hN0 L.ent.mv.size);refine sw 87 (zx ((zm h65).nfrz N) (xs:=[.tmp 82,.tmp 86]) (.cons (zes (m:=999900) J (O 82 J)) (.cons (O 86 J) .nil)) J J) L fun a s L=>?_;have lt_d68:=L.blt 7 rfl;have lt_d67:=L.blt 5 rfl;refine zb6 (xs:=[.tmp 87]) 88 L (.cons (O 87 J) .nil) Tryd.underlying52 tySN J J (show 1*1≤16777216 by decide) J J J J fun a s g66 hg_ L=>?_;have d67:=Dis.newg hg_ lt_d67;have d68:=Dis.newg hg_ lt_d68;refine sw 4 (zg (O 88 J) J J) L fun a s L=>?_;refine en' (H63 _ _ ?_);subst h;exact wp_ret (ze6 J L J)
     ·replace h:=h.2 hb_;refine wp_seq_k fun K69 H69=>rg (sw 90 (zdv (O 74 J) oI J J) L fun a s L=>?_);refine sw 89 (zg (O 90 J) J J) L fun a s L=>?_;refine en' (H69 _ _ ?_);refine cnd L J (fun hb_=>?_) (fun hb_=>?_)
      ·replace h:=h.1 hb_;refine wp_seq_k fun K70 H70=>?_;obtain ⟨r71,h72,r73,h74,r75,h76,h⟩:=h;replace L:=L.cons 999900 (q:=Pd.ge N) (Nat.le_trans hN0 L.ent.mv.size);refine rda zcm 9 [(Pd.rep (En.slice En.SItem) (s_.drop (1:Int).toNat)),(Pd.optr (En.int .i64) s0.w.heap.size (some g11) (1) e9.2.1),(Pi e9.2.1),(Pd.rep En.SItem r71),(Pd.optr (En.int .i64) s0.w.heap.size (some g11) (2) e9.2.2.1),(Pi e9.2.2.1),(Pd.rep En.SItem r73),(Pd.rep (En.slice En.SItem) [r71,r73]),(Pd.rep (En.nsl N En.SItem) r75)] L (by kernel_rfl) J J ?_ ?_
       ·refine zn.cons (ze (O 6 J) J J) ?_;refine zn.cons (zca (off:=1) (O 7 J) Tryd.underlying69 J (zi (zu (zk _ _)) J) J ty3 J J) ?_;refine zn.cons (z1 ty3 (O 92 J) J J) ?_;refine zn.cons (zx (zz h72) (xs:=[.tmp 93]) (.cons (O 93 J) .nil) J J) ?_;refine zn.cons (zca (off:=2) (O 7 J) Tryd.underlying69 J (zi (zi (zu (zk _ _)) J) J) J ty3 J J) ?_;refine zn.cons (z1 ty3 (O 95 J) J J) ?_;refine zn.cons (zx (zz h74) (xs:=[.tmp 96]) (.cons (O 96 J) .nil) J J) ?_;refine zn.cons (zdu (xs:=[.tmp 94,.tmp 97]) (.cons (O 94 J) (.cons (O 97 J) .nil)) Tryd.underlying42 zec J J (by decide) J J) ?_;refine zn.cons (zx ((zm h76).nfrz N) (xs:=[.tmp 91,.tmp 98]) (.cons (zes (m:=999900) J (O 91 J)) (.cons (O 98 J) .nil)) J J) ?_;exact zn.nil
       intro a s _ L;have lt_d79:=L.blt 7 rfl;have lt_d78:=L.blt 5 rfl;refine zb6 (xs:=[.tmp 99]) 100 L (.cons (O 99 J) .nil) Tryd.underlying52 tySN J J (show 1*1≤16777216 by decide) J J J J fun a s g77 hg_ L=>?_;have d78:=Dis.newg hg_ lt_d78;have d79:=Dis.newg hg_ lt_d79;refine sw 4 (zg (O 100 J) J J) L fun a s L=>?_;refine en' (H70 _ _ ?_);subst h;exact wp_ret (ze6 J L J)
      ·replace h:=h.2 hb_;refine wp_seq_k fun K80 H80=>rg (sw 102 (zdv (O 74 J) oI J J) L fun a s L=>?_);refine sw 101 (zg (O 102 J) J J) L fun a s L=>?_;refine en' (H80 _ _ ?_);refine cnd L J (fun hb_=>?_) (fun hb_=>?_)
       ·replace h:=h.1 hb_;refine wp_seq_k fun K81 H81=>?_;obtain ⟨r82,h83,r84,h85,r86,h87,r88,h89,h⟩:=h;replace L:=L.cons 999900 (q:=Pd.ge N) (Nat.le_trans hN0 L.ent.mv.size);refine rda zcm 12 [(Pd.rep (En.slice En.SItem) (s_.drop (1:Int).toNat)),(Pd.optr (En.int .i64) s0.w.heap.size (some g11) (1) e9.2.1),(Pi e9.2.1),(Pd.rep En.SItem r82),(Pd.rep (En.slice En.SItem) [r82]),(Pd.rep (En.nsl N En.SItem) r84),(Pd.rep (En.slice En.SItem) (s_.drop (1:Int).toNat)),(Pd.optr (En.int .i64) s0.w.heap.size (some g11) (2) e9.2.2.1),(Pi e9.2.2.1),(Pd.rep En.SItem r86),(Pd.rep (En.slice En.SItem) [r86]),(Pd.rep (En.nsl N En.SItem) r88)] L (by kernel_rfl) J J ?_ ?_
        ·refine zn.cons (ze (O 6 J) J J) ?_;refine zn.cons (zca (off:=1) (O 7 J) Tryd.underlying69 J (zi (zu (zk _ _)) J) J ty3 J J) ?_;refine zn.cons (z1 ty3 (O 104 J) J J) ?_;refine zn.cons (zx (zz h83) (xs:=[.tmp 105]) (.cons (O 105 J) .nil) J J) ?_;refine zn.cons (zdu (xs:=[.tmp 106]) (.cons (O 106 J) .nil) Tryd.underlying42 zec J J (by decide) J J) ?_;refine zn.cons (zx ((zm h85).nfrz N) (xs:=[.tmp 103,.tmp 107]) (.cons (zes (m:=999900) J (O 103 J)) (.cons (O 107 J) .nil)) J J) ?_;refine zn.cons (ze (O 6 J) J J) ?_;refine zn.cons (zca (off:=2) (O 7 J) Tryd.underlying69 J (zi (zi (zu (zk _ _)) J) J) J ty3 J J) ?_;refine zn.cons (z1 ty3 (O 110 J) J J) ?_;refine zn.cons (zx (zz h87) (xs:=[.tmp 111]) (.cons (O 111 J) .nil) J J) ?_;refine zn.cons (zdu (xs:=[.tmp 112]) (.cons (O 112 J) .nil) Tryd.underlying42 zec J J (by decide) J J) ?_;refine zn.cons (zx ((zm h89).nfrz N) (xs:=[.tmp 109,.tmp 113]) (.cons (zes (m:=999900) J (O 109 J)) (.cons (O 113 J) .nil)) J J) ?_;exact zn.nil
        intro a s _ L;have lt_d92:=L.blt 7 rfl;have lt_d91:=L.blt 5 rfl;refine zb6 (xs:=[.tmp 108,.tmp 114]) 115 L (.cons (O 108 J) (.cons (O 114 J) .nil)) Tryd.underlying52 tySN J J (show 2*1≤16777216 by decide) J J J J fun a s g90 hg_ L=>?_;have d91:=Dis.newg hg_ lt_d91;have d92:=Dis.newg hg_ lt_d92;refine sw 4 (zg (O 115 J) J J) L fun a s L=>?_;refine en' (H81 _ _ ?_);subst h;exact wp_ret (ze6 J L J)
       ·replace h:=h.2 hb_;refine wp_seq_k fun K93 H93=>rg (sw 117 (zdv (O 74 J) oI J J) L fun a s L=>?_);refine sw 116 (zg (O 117 J) J J) L fun a s L=>?_;refine en' (H93 _ _ ?_);refine cnd L J (fun hb_=>?_) (fun hb_=>?_)
        ·replace h:=h.1 hb_;refine wp_seq_k fun K94 H94=>?_;obtain ⟨r95,h96,r97,h98,r99,h100,h⟩:=h;replace L:=L.cons 999900 (q:=Pd.ge N) (Nat.le_trans hN0 L.ent.mv.size);refine rda zcm 9 [(Pd.rep (En.slice En.SItem) (s_.drop (1:Int).toNat)),(Pd.rep (En.nsl N En.SItem) r95),(Pd.rep (En.slice En.SItem) (s_.drop (1:Int).toNat)),(Pd.optr (En.int .i64) s0.w.heap.size (some g11) (1) e9.2.1),(Pi e9.2.1),(Pd.rep En.SItem r97),(Pd.rep En.SItem e4),(Pd.rep (En.slice En.SItem) [r97,e4]),(Pd.rep (En.nsl N En.SItem) r99)] L (by kernel_rfl) J J ?_ ?_
         ·refine zn.cons (ze (O 6 J) J J) ?_;refine zn.cons (zx ((zm h96).nfrz N) (xs:=[.tmp 118,.const (.slice none 0 0)]) (.cons (zes (m:=999900) J (O 118 J)) (.cons zgl .nil)) J J) ?_;refine zn.cons (ze (O 6 J) J J) ?_;refine zn.cons (zca (off:=1) (O 7 J) Tryd.underlying69 J (zi (zu (zk _ _)) J) J ty3 J J) ?_;refine zn.cons (z1 ty3 (O 121 J) J J) ?_;refine zn.cons (zx (zz h98) (xs:=[.tmp 122]) (.cons (O 122 J) .nil) J J) ?_;refine zn.cons (zb0 zec (O 5 J) J J) ?_;refine zn.cons (zdu (xs:=[.tmp 123,.tmp 124]) (.cons (O 123 J) (.cons (O 124 J) .nil)) Tryd.underlying42 zec J J (by decide) J J) ?_;refine zn.cons (zx ((zm h100).nfrz N) (xs:=[.tmp 120,.tmp 125]) (.cons (zes (m:=999900) J (O 120 J)) (.cons (O 125 J) .nil)) J J) ?_;exact zn.nil
         intro a s _ L;have lt_d103:=L.blt 7 rfl;have lt_d102:=L.blt 5 rfl;refine zb6 (xs:=[.tmp 119,.tmp 126]) 127 L (.cons (O 119 J) (.cons (O 126 J) .nil)) Tryd.underlying52 tySN J J (show 2*1≤16777216 by decide) J J J J fun a s g101 hg_ L=>?_;have d102:=Dis.newg hg_ lt_d102;have d103:=Dis.newg hg_ lt_d103;refine sw 4 (zg (O 127 J) J J) L fun a s L=>?_;refine en' (H94 _ _ ?_);subst h;exact wp_ret (ze6 J L J)
        ·replace h:=h.2 hb_;refine wp_skip (H53 _ _ ?_);refine wp_seq_k fun K104 H104=>?_;obtain ⟨r105,h106,h⟩:=h;refine rg (sw 128 (ze (O 6 J) J J) L fun a s L=>?_);refine sw 129 (zca (off:=1) (O 5 J) Tryd.underlying47 J (zi (zu (zk _ _)) J) J ty3 J J) L fun a s L=>?_;refine sw 130 (z1 ty3 (O 129 J) J J) L fun a s L=>?_;refine sw 131 (zca (off:=3) (O 7 J) Tryd.underlying69 J (zi (zi (zi (zu (zk _ _)) J) J) J) J ty3 J J) L fun a s L=>?_;refine sw 132 (z1 ty3 (O 131 J) J J) L fun a s L=>?_;refine sw 133 (zca (off:=4) (O 7 J) Tryd.underlying69 J (zi (zi (zi (zi (zu (zk _ _)) J) J) J) J) J ty3 J J) L fun a s L=>?_;refine sw 134 (z1 ty3 (O 133 J) J J) L fun a s L=>?_;refine sw 135 (zbn (x:=(2,e4.2.1,e9.2.2.2.1,e9.2.2.2.2.1)) (ps:=[(0,.const (.int .i64 2)),(1,.tmp 130),(2,.tmp 132),(3,.tmp 134)]) zdw J zfv (.cons (i:=0) oI J (zq (zl _ _ _)) (.cons (i:=1) (O 130 J) J (zj (zq (zl _ _ _)) J) (.cons (i:=2) (O 132 J) J (zj (zj (zq (zl _ _ _)) J) J) (.cons (i:=3) (O 134 J) J (zj (zj (zj (zl _ _ _) J) J) J) .nil)))) J J) L fun a s L=>?_;refine sw 136 (zdu (xs:=[.tmp 135]) (.cons (O 135 J) .nil) Tryd.underlying42 zec J J (by decide) J J) L fun a s L=>?_;replace L:=L.cons 999900 (q:=Pd.ge N) (Nat.le_trans hN0 L.ent.mv.size);refine sw 137 (zx ((zm h106).nfrz N) (xs:=[.tmp 128,.tmp 136]) (.cons (zes (m:=999900) J (O 128 J)) (.cons (O 136 J) .nil)) J J) L fun a s L=>?_;have lt_d109:=L.blt 7 rfl;have lt_d108:=L.blt 5 rfl;refine zb6 (xs:=[.tmp 137]) 138 L (.cons (O 137 J) .nil) Tryd.underlying52 tySN J J (show 1*1≤16777216 by decide) J J J J fun a s g107 hg_ L=>?_
         have d108:=Dis.newg hg_ lt_d108;have d109:=Dis.newg hg_ lt_d109;refine sw 4 (zg (O 138 J) J J) L fun a s L=>?_;refine en' (H104 _ _ ?_);subst h;exact wp_ret (ze6 J L J)
def Lv (d:List SNode) (s:List SItem) (l:List (List SItem)):Prop:=∃h,lv d h s=some l
theorem Lv.uniq {d:List SNode} {s:List SItem} {l m:List (List SItem)} (h:Lv d s l) (k:Lv d s m):l=m:=by
 obtain ⟨a,ha⟩:=h;obtain ⟨b,hb⟩:=k;have h1:=zdx (Nat.le_max_left a b) ha;have h2:=zdx (Nat.le_max_right a b) hb;rw [h1] at h2;exact Option.some.inj h2
theorem Lv.ready {d:List SNode} {s:List SItem} (h:rdy d s=true):Lv d s [s]:=⟨1,by simp [lv,h]⟩
theorem lv_list {d:List SNode}:∀(ss:List (List SItem)) (f:List SItem→List (List SItem)),(∀t∈ss,Lv d t (f t))→∃h,ss.mapM (lv d h)=some (ss.map f)
 | [],_,_=>⟨0,rfl⟩
 | s::ss,f,hs=>by
  obtain ⟨h1,e1⟩:=hs s (by simp);obtain ⟨h2,e2⟩:=lv_list ss f fun t ht=>hs t (by simp [ht]);refine ⟨max h1 h2, ?_⟩;rw [List.mapM_cons,zdx (Nat.le_max_left h1 h2) e1,zf1 (fun a b hb=>zdx (Nat.le_max_right h1 h2) hb) _ _ e2];rfl
theorem Lv.open {d:List SNode} {s:List SItem} (hr:rdy d s=false) (f:List SItem→List (List SItem)) (h:∀t∈opn d s,Lv d t (f t)):Lv d s ((opn d s).map f).flatten:=by
 obtain ⟨k,e⟩:=lv_list _ f h;exact ⟨k+1,by unfold lv;rw [if_neg (by rw [hr];simp),e];rfl⟩
def PM (d:List SNode):Nat→Int→List (List SItem) × Nat
 | 0,_=>([],0)
 | k+1,i=>match at? d i with
  | none=>([],0)
  | some n=>
   if n.1=1 then ([],1)
   else if n.1=3 then ([[(3,i,0,0)]],0)
   else if n.1=4 then ((PM d k n.2.1).1.map (·++[(1,n.2.2.1,0,0)])++(List.replicate (PM d k n.2.1).2 (PM d k n.2.2.1).1).flatten,(PM d k n.2.1).2*(PM d k n.2.2.1).2)
   else if n.1=5 then ((PM d k n.2.1).1++(PM d k n.2.2.1).1,(PM d k n.2.1).2+(PM d k n.2.2.1).2)
   else if n.1=6 then ((PM d k n.2.1).1.map (·++[(1,i,0,0)]),1)
   else if n.1=7 then (if 0<n.2.2.2.2.1 then (PM d k n.2.1).1.map (·++[(2,i,max (n.2.2.2.1-1) 0,n.2.2.2.2.1-1)]) else [],if n.2.2.2.1=0 then 1 else 0)
   else ([[(1,i,0,0)]],0)
theorem zem {d:List SNode} (hd:ROk d):∀(k k':Nat) (i:Int),i<(k:Int)→i<(k':Int)→PM d k i=PM d k' i
 | 0,k',i,h,h'=>by
  cases k' with
  | zero=>rfl
  | succ k'=>
   have:at? d i=none:=by
    unfold at?;rw [if_neg (by omega)]
   simp [PM,this]
 | k+1,0,i,h,h'=>by
  have:at? d i=none:=by
   unfold at?;rw [if_neg (by omega)]
  simp [PM,this]
 | k+1,k'+1,i,h,h'=>by
  cases hn:at? d i with
  | none=>simp only [PM,hn]
  | some n=>
   simp only [PM,hn]
   by_cases h1:n.1=1
   ·simp [h1]
   ·by_cases h3:n.1=3
    ·simp [h3]
    ·by_cases h4:n.1=4
     ·obtain ⟨⟨a,b⟩,c,e⟩:=hd.two _ n hn (.inl h4);rw [zem hd k k' n.2.1 (by omega) (by omega),zem hd k k' n.2.2.1 (by omega) (by omega)]
     ·by_cases h5:n.1=5
      ·obtain ⟨⟨a,b⟩,c,e⟩:=hd.two _ n hn (.inr h5);rw [zem hd k k' n.2.1 (by omega) (by omega),zem hd k k' n.2.2.1 (by omega) (by omega)]
      ·by_cases h6:n.1=6
       ·obtain ⟨a,b⟩:=hd.one _ n hn (.inl h6);rw [zem hd k k' n.2.1 (by omega) (by omega)];simp [h6]
       ·by_cases h7:n.1=7
        ·obtain ⟨a,b⟩:=hd.one _ n hn (.inr (.inl h7));rw [zem hd k k' n.2.1 (by omega) (by omega)];simp [h7]
        ·simp [h1,h3,h4,h5,h6,h7]
def pm (d:List SNode) (i:Int):List (List SItem):=(PM d d.length i).1
def nw (d:List SNode) (i:Int):Nat:=(PM d d.length i).2
theorem PM_at {d:List SNode} (hd:ROk d) {i:Int} {n:SNode} (hn:at? d i=some n):PM d d.length i =
  (if n.1=1 then ([],1)
   else if n.1=3 then ([[(3,i,0,0)]],0)
   else if n.1=4 then ((pm d n.2.1).map (·++[(1,n.2.2.1,0,0)])++(List.replicate (nw d n.2.1) (pm d n.2.2.1)).flatten,nw d n.2.1*nw d n.2.2.1)
   else if n.1=5 then (pm d n.2.1++pm d n.2.2.1,nw d n.2.1+nw d n.2.2.1)
   else if n.1=6 then ((pm d n.2.1).map (·++[(1,i,0,0)]),1)
   else if n.1=7 then (if 0<n.2.2.2.2.1 then (pm d n.2.1).map (·++[(2,i,max (n.2.2.2.1-1) 0,n.2.2.2.2.1-1)]) else [],if n.2.2.2.1=0 then 1 else 0)
   else ([[(1,i,0,0)]],0)):=by
 obtain ⟨hb0,hb1⟩:=zbc hn;rw [zem hd d.length (d.length+1) i hb1 (by omega)];simp only [PM,hn,pm,nw]
theorem ze8 {d:List SNode} (hd:ROk d):∀(k:Nat) (i:Int) (n:SNode),i<(k:Int)→at? d i=some n→(nw d i≠0↔nz d i=true)
 | 0,i,n,hi,hn=>by have:=zbc hn;omega
 | k+1,i,n,hi,hn=>by
  have e:=PM_at hd hn;have en:nw d i=(PM d d.length i).2:=rfl;rw [en,e,nz_at hd hn]
  by_cases h1:n.1=1
  ·simp [h1]
  ·by_cases h3:n.1=3
   ·simp [h3]
   ·by_cases h4:n.1=4
    ·obtain ⟨⟨a,b⟩,c,e⟩:=hd.two _ n hn (.inl h4);obtain ⟨m1,hm1⟩:=zcg hn a b;obtain ⟨m2,hm2⟩:=zcg hn c e;have i1:=ze8 hd k _ m1 (by omega) hm1;have i2:=ze8 hd k _ m2 (by omega) hm2;rw [if_neg h1,if_neg h3,if_pos h4,if_neg h1,if_pos h4,Bool.and_eq_true,← i1,← i2];simp only;rw [Nat.mul_ne_zero_iff]
    ·by_cases h5:n.1=5
     ·obtain ⟨⟨a,b⟩,c,e⟩:=hd.two _ n hn (.inr h5);obtain ⟨m1,hm1⟩:=zcg hn a b;obtain ⟨m2,hm2⟩:=zcg hn c e;have i1:=ze8 hd k _ m1 (by omega) hm1;have i2:=ze8 hd k _ m2 (by omega) hm2;rw [if_neg h1,if_neg h3,if_neg h4,if_pos h5,if_neg h1,if_neg h4,if_pos h5,Bool.or_eq_true,← i1,← i2];simp only;omega
     ·by_cases h6:n.1=6
      ·simp [h6]
      ·by_cases h7:n.1=7
       ·by_cases h0:n.2.2.2.1=0 <;> simp [h7,h0]
       ·simp [h1,h3,h4,h5,h6,h7]
def pmI (d:List SNode) (x:SItem):List (List SItem):=
 if x.1=1 then pm d x.2.1
 else if x.1=2 then (match at? d x.2.1 with | some n=>if 0<x.2.2.2 then (pm d n.2.1).map (·++[(2,x.2.1,max (x.2.2.1-1) 0,x.2.2.2-1)]) else [] | none=>[])
 else if x.1=5 then [] else [[x]]
def nwI (d:List SNode) (x:SItem):Nat:=
 if x.1=1 then nw d x.2.1 else if x.1=2 then (if x.2.2.1=0 then 1 else 0) else if x.1=5 then (if x.2.2.1=0 then 1 else 0) else 0
abbrev Told (d:List SNode) (P:List (List SItem)) (m:Nat) (rest:List SItem) (s:List SItem):Prop:=
 ∀lr,(m≠0→Lv d rest lr)→∃l,Lv d s l∧l.Perm (P.map (·++rest)++(List.replicate m lr).flatten)
theorem perm_flat {α:Type} {a b:List α} (h:a.Perm b) (m:Nat):(List.replicate m a).flatten.Perm (List.replicate m b).flatten:=by
 induction m with
 | zero=>exact .refl _
 | succ m ih=>
  rw [List.replicate_succ,List.replicate_succ,List.flatten_cons,List.flatten_cons];exact h.append ih
theorem rep_split {α:Type} (m:Nat) (a b:List α):(List.replicate m (a++b)).flatten.Perm ((List.replicate m a).flatten++(List.replicate m b).flatten):=by
 induction m with
 | zero=>exact .refl _
 | succ m ih=>
  simp only [List.replicate_succ,List.flatten_cons];refine (ih.append_left (a++b)).trans ?_;rw [List.append_assoc,List.append_assoc];refine List.Perm.append_left a ?_;rw [← List.append_assoc,← List.append_assoc];exact (List.perm_append_comm).append_right _
theorem rep_rep {α:Type} (m k:Nat) (a:List α):(List.replicate m (List.replicate k a).flatten).flatten=(List.replicate (m*k) a).flatten:=by
 induction m with
 | zero=>simp
 | succ m ih=>rw [List.replicate_succ,List.flatten_cons,ih,Nat.succ_mul,Nat.add_comm,← List.replicate_append_replicate,List.flatten_append]
theorem rep_map {α β:Type} (f:α→β) (m:Nat) (a:List α):((List.replicate m a).flatten).map f=(List.replicate m (a.map f)).flatten:=by
 rw [List.map_flatten,List.map_replicate]
theorem told_seq {d:List SNode} {P1 P2:List (List SItem)} {m1 m2:Nat} {b:SItem} {rest s:List SItem} (h1:Told d P1 m1 (b::rest) s) (h2:Told d P2 m2 rest (b::rest)):Told d (P1.map (·++[b])++(List.replicate m1 P2).flatten) (m1*m2) rest s:=by
 intro lr hlr;have key:∃lb,(m1≠0→Lv d (b::rest) lb∧lb.Perm (P2.map (·++rest)++(List.replicate m2 lr).flatten)):=by
  by_cases h:m1=0
  ·exact ⟨[],fun k=>absurd h k⟩
  ·obtain ⟨lb,k1,k2⟩:=h2 lr fun k=>hlr (Nat.mul_ne_zero h k);exact ⟨lb,fun _=>⟨k1,k2⟩⟩
 obtain ⟨lb,hlb⟩:=key;obtain ⟨l,k1,k2⟩:=h1 lb fun k=>(hlb k).1;refine ⟨l,k1,k2.trans ?_⟩;have e1:P1.map (·++b::rest)=(P1.map (·++[b])).map (·++rest):=by
  rw [List.map_map];apply List.map_congr_left;intro p _;simp
 rw [e1,List.map_append,List.append_assoc];refine List.Perm.append_left _ ?_
 by_cases h:m1=0
 ·subst h;simp
 ·refine (perm_flat (hlb h).2 m1).trans ?_;refine (rep_split m1 _ _).trans ?_;rw [rep_map,rep_rep]
theorem zf2 {d:List SNode} {s t:List SItem} (hr:rdy d s=false) (ho:opn d s=[t]) {l:List (List SItem)} (h:Lv d t l):Lv d s l:=by
 have:=Lv.open hr (fun _=>l) (fun x hx=>by rw [ho] at hx;rw [List.mem_singleton.1 hx];exact h);rw [ho] at this;simpa using this
theorem lv_two {d:List SNode} {s t u:List SItem} (hr:rdy d s=false) (ho:opn d s=[t,u]) {l m:List (List SItem)} (h:Lv d t l) (k:Lv d u m):Lv d s (l++m):=by
 by_cases htu:t=u
 ·subst htu;rw [k.uniq h];have:=Lv.open hr (fun _=>l) (fun x hx=>by rw [ho] at hx;simp at hx;rw [hx];exact h);rw [ho] at this;simpa using this
 ·have:=Lv.open hr (fun x=>if x=t then l else m) (fun x hx=>by
   rw [ho] at hx;simp only [List.mem_cons,List.not_mem_nil,or_false] at hx;rcases hx with rfl | rfl
   ·simp;exact h
   ·simp [Ne.symm htu];exact k)
  rw [ho] at this;simpa [Ne.symm htu] using this
theorem lv_none {d:List SNode} {s:List SItem} (hr:rdy d s=false) (ho:opn d s=[]):Lv d s []:=by
 have:=Lv.open hr (fun _=>[]) (fun x hx=>by rw [ho] at hx;cases hx);rw [ho] at this;simpa using this
theorem told_rep {d:List SNode} (hd:ROk d) {i:Int} {n:SNode} (hn:at? d i=some n) (h7:n.1=7) (hA:∀rest,Told d (pm d n.2.1) 0 rest ((1,n.2.1,0,0)::rest)) (lo hi:Int) (rest:List SItem):
  Told d (if 0<hi then (pm d n.2.1).map (·++[(2,i,max (lo-1) 0,hi-1)]) else []) (if lo=0 then 1 else 0) rest ((2,i,lo,hi)::rest):=by
 intro lr hlr;have hr:rdy d ((2,i,lo,hi)::rest)=false:=by simp [rdy]
 have ho:opn d ((2,i,lo,hi)::rest)=(if lo=0 then [rest] else [])++(if 0<hi then [(1,n.2.1,0,0)::(2,i,max (lo-1) 0,hi-1)::rest] else []):=by
  simp only [opn,hn];rw [if_neg (by decide),if_pos trivial]
 obtain ⟨la,ha,hpa⟩:=hA ((2,i,max (lo-1) 0,hi-1)::rest) [] (fun h=>absurd rfl h);have e1:(pm d n.2.1).map (·++(2,i,max (lo-1) 0,hi-1)::rest)=((pm d n.2.1).map (·++[(2,i,max (lo-1) 0,hi-1)])).map (·++rest):=by
  rw [List.map_map];apply List.map_congr_left;intro p _;simp
 rw [e1] at hpa;simp only [List.replicate_zero,List.flatten_nil,List.append_nil] at hpa
 by_cases h0:lo=0
 ·have hL:=hlr (by simp [h0])
  by_cases h1:0<hi
  ·refine ⟨_,lv_two hr (by rw [ho,if_pos h0,if_pos h1];rfl) hL ha, ?_⟩;rw [if_pos h1,if_pos h0];simp only [List.replicate_one,List.flatten_cons,List.flatten_nil,List.append_nil];exact (List.perm_append_comm).trans (hpa.append_right _)
  ·refine ⟨_,zf2 hr (by rw [ho,if_pos h0,if_neg h1];rfl) hL, ?_⟩;rw [if_neg h1,if_pos h0];simp
 ·by_cases h1:0<hi
  ·refine ⟨_,zf2 hr (by rw [ho,if_neg h0,if_pos h1];rfl) ha, ?_⟩;rw [if_pos h1,if_neg h0];simpa using hpa
  ·refine ⟨_,lv_none hr (by rw [ho,if_neg h0,if_neg h1];rfl), ?_⟩;rw [if_neg h1,if_neg h0];simp
theorem zfu {d:List SNode} (hd:ROk d):∀(k:Nat) (i:Int) (n:SNode),i<(k:Int)→at? d i=some n→∀rest,Told d (pm d i) (nw d i) rest ((1,i,0,0)::rest)
 | 0,i,n,hi,hn,_=>by have:=zbc hn;omega
 | k+1,i,n,hi,hn,rest=>by
  have ih:=zfu hd k;have e:=PM_at hd hn;have ep:pm d i=(PM d d.length i).1:=rfl;have en:nw d i=(PM d d.length i).2:=rfl;rw [ep,en,e];have hk9:=hd.kind _ n hn;have rd0:(n.1≠2∧n.1≠8∧n.1≠9)→rdy d ((1,i,0,0)::rest)=false:=fun h=>by
   simp only [rdy,hn];simp [h.1,h.2.1,h.2.2]
  have op0:opn d ((1,i,0,0)::rest)=(if n.1=1 then [rest] else if n.1=3 then [(3,i,0,0)::rest] else if n.1=4 then [(1,n.2.1,0,0)::(1,n.2.2.1,0,0)::rest] else if n.1=5 then [(1,n.2.1,0,0)::rest,(1,n.2.2.1,0,0)::rest]
    else if n.1=6 then [rest,(1,n.2.1,0,0)::(1,i,0,0)::rest] else [(2,i,n.2.2.2.1,n.2.2.2.2.1)::rest]):=by
   simp only [opn,hn];rw [if_neg (by decide),if_neg (by decide)]
  have z0:∀a:Int,0≤a→a<i→nz d a=false→nw d a=0:=fun a h0 h1 hz=>by
   obtain ⟨m,hm⟩:=zcg hn h0 h1;rcases Nat.eq_zero_or_pos (nw d a) with h | h
   ·exact h
   ·have:=(ze8 hd k a m (by omega) hm).1 (by omega);rw [hz] at this;cases this
  by_cases h1:n.1=1
  ·rw [if_pos h1];intro lr hlr;refine ⟨lr,zf2 (rd0 (by omega)) (by rw [op0,if_pos h1]) (hlr (by simp)),by simp⟩
  ·rw [if_neg h1] at op0 ⊢
   by_cases h3:n.1=3
   ·rw [if_pos h3] at op0 ⊢;intro lr hlr;exact ⟨_,zf2 (rd0 (by omega)) op0 (Lv.ready (by simp [rdy])),by simp⟩
   ·rw [if_neg h3] at op0 ⊢
    by_cases h4:n.1=4
    ·rw [if_pos h4] at op0 ⊢;obtain ⟨⟨a,b⟩,c,e⟩:=hd.two _ n hn (.inl h4);obtain ⟨m1,hm1⟩:=zcg hn a b;obtain ⟨m2,hm2⟩:=zcg hn c e;have:=told_seq (ih _ m1 (by omega) hm1 ((1,n.2.2.1,0,0)::rest)) (ih _ m2 (by omega) hm2 rest);intro lr hlr;obtain ⟨l,k1,k2⟩:=this lr hlr;exact ⟨l,zf2 (rd0 (by omega)) op0 k1,k2⟩
    ·rw [if_neg h4] at op0 ⊢
     by_cases h5:n.1=5
     ·rw [if_pos h5] at op0 ⊢;obtain ⟨⟨a,b⟩,c,e⟩:=hd.two _ n hn (.inr h5);obtain ⟨m1,hm1⟩:=zcg hn a b;obtain ⟨m2,hm2⟩:=zcg hn c e;intro lr hlr;simp only at hlr;obtain ⟨l1,k1,k2⟩:=ih _ m1 (by omega) hm1 rest lr fun h=>hlr (by omega);obtain ⟨l2,k3,k4⟩:=ih _ m2 (by omega) hm2 rest lr fun h=>hlr (by omega);refine ⟨_,lv_two (rd0 (by omega)) op0 k1 k3,(k2.append k4).trans ?_⟩;rw [List.map_append,← List.replicate_append_replicate,List.flatten_append,List.append_assoc,List.append_assoc];refine List.Perm.append_left _ ?_;rw [← List.append_assoc,← List.append_assoc];exact (List.perm_append_comm).append_right _
     ·rw [if_neg h5] at op0 ⊢
      by_cases h6:n.1=6
      ·rw [if_pos h6] at op0 ⊢;obtain ⟨a,b⟩:=hd.one _ n hn (.inl h6);obtain ⟨m1,hm1⟩:=zcg hn a b;have hz:=z0 _ a b (hd.nn _ n hn (.inl h6));intro lr hlr;have hA:=ih _ m1 (by omega) hm1 ((1,i,0,0)::rest) [] (fun h=>absurd hz h);obtain ⟨l1,k1,k2⟩:=hA;refine ⟨_,lv_two (rd0 (by omega)) op0 (hlr (by simp)) k1, ?_⟩;rw [hz] at k2;have e1:(pm d n.2.1).map (·++(1,i,0,0)::rest)=((pm d n.2.1).map (·++[(1,i,0,0)])).map (·++rest):=by
        rw [List.map_map];apply List.map_congr_left;intro p _;simp
       rw [e1] at k2;simp only [List.replicate_zero,List.flatten_nil,List.append_nil] at k2;simp only [List.replicate_one,List.flatten_cons,List.flatten_nil,List.append_nil];exact (List.perm_append_comm).trans (k2.append_right _)
      ·rw [if_neg h6] at op0 ⊢
       by_cases h7:n.1=7
       ·rw [if_pos h7];obtain ⟨a,b⟩:=hd.one _ n hn (.inr (.inl h7));obtain ⟨m1,hm1⟩:=zcg hn a b;have hz:=z0 _ a b (hd.nn _ n hn (.inr h7));have:=told_rep hd hn h7 (fun rest=>by have:=ih _ m1 (by omega) hm1 rest;rw [hz] at this;exact this) n.2.2.2.1 n.2.2.2.2.1 rest;intro lr hlr;obtain ⟨l,k1,k2⟩:=this lr hlr;exact ⟨l,zf2 (rd0 (by omega)) op0 k1,k2⟩
       ·rw [if_neg h7];intro lr hlr;refine ⟨_,Lv.ready ?_,by simp⟩;simp only [rdy,hn];have:n.1=2∨n.1=8∨n.1=9:=by omega
        rcases this with h | h | h <;> simp [h]
theorem told_item {d:List SNode} (hd:ROk d) {x:SItem} (hx:zcf d x=true) (rest:List SItem):Told d (pmI d x) (nwI d x) rest (x::rest):=by
 by_cases h5:x.1=5
 ·have e1:pmI d x=[]:=by simp [pmI,h5]
  have e2:nwI d x=if x.2.2.1=0 then 1 else 0:=by simp [nwI,h5]
  rw [e1,e2];intro lr hlr;have hr:rdy d (x::rest)=false:=by simp [rdy,h5]
  by_cases h0:x.2.2.1=0
  ·rw [if_pos h0] at hlr ⊢;refine ⟨lr,zf2 hr (by simp [opn,h5,h0]) (hlr (by simp)),by simp⟩
  ·rw [if_neg h0];exact ⟨_,lv_none hr (by simp [opn,h5,h0]),by simp⟩
 ·obtain ⟨n,hn,hk⟩:=zc2 hx h5;rcases hk with h1 | ⟨h2,h7⟩ | ⟨h3,_⟩ | ⟨h4,_⟩
  ·have e:x=(1,x.2.1,0,0):=by
    unfold zcf at hx;rw [if_neg h5,hn] at hx;simp [h1] at hx;obtain ⟨a,b,c,e⟩:=x;simp only at h1 hx;rw [h1,hx.1,hx.2]
   have e1:pmI d x=pm d x.2.1:=by simp [pmI,h1]
   have e2:nwI d x=nw d x.2.1:=by simp [nwI,h1]
   have:=zbc hn;rw [e1,e2];have ht:=zfu hd d.length _ n (by omega) hn rest;rw [← e] at ht;exact ht
  ·have e1:pmI d x=if 0<x.2.2.2 then (pm d n.2.1).map (·++[(2,x.2.1,max (x.2.2.1-1) 0,x.2.2.2-1)]) else []:=by simp [pmI,h2,hn]
   have e2:nwI d x=if x.2.2.1=0 then 1 else 0:=by simp [nwI,h2]
   rw [e1,e2];obtain ⟨a,b⟩:=hd.one _ n hn (.inr (.inl h7));obtain ⟨m1,hm1⟩:=zcg hn a b;have hb:=zbc hn;have hz:nw d n.2.1=0:=by
    rcases Nat.eq_zero_or_pos (nw d n.2.1) with h | h
    ·exact h
    ·have:=(ze8 hd d.length _ m1 (by omega) hm1).1 (by omega);rw [hd.nn _ n hn (.inr h7)] at this;cases this
   have:=told_rep hd hn h7 (fun rest=>by have:=zfu hd d.length _ m1 (by omega) hm1 rest;rw [hz] at this;exact this) x.2.2.1 x.2.2.2 rest;obtain ⟨xk,xi,xl,xh⟩:=x;simp only at h2;subst h2;exact this
  ·have e1:pmI d x=[[x]]:=by simp [pmI,h3]
   have e2:nwI d x=0:=by simp [nwI,h3]
   rw [e1,e2];intro lr _;exact ⟨_,Lv.ready (by simp [rdy,h3]),by simp⟩
  ·have e1:pmI d x=[[x]]:=by simp [pmI,h4]
   have e2:nwI d x=0:=by simp [nwI,h4]
   rw [e1,e2];intro lr _;exact ⟨_,Lv.ready (by simp [rdy,h4]),by simp⟩
def hds (d:List SNode):List SItem→List (List SItem)
 | []=>[[]]
 | x::rest=>(pmI d x).map (·++rest)++(List.replicate (nwI d x) (hds d rest)).flatten
theorem hds_lv {d:List SNode} (hd:ROk d):∀(s:List SItem),zcl d s=true→∃l,Lv d s l∧l.Perm (hds d s)
 | [],_=>⟨[[]],Lv.ready rfl,.refl _⟩
 | x::rest,hf=>by
  obtain ⟨h1,h2⟩:=zck hf;obtain ⟨lr,k1,k2⟩:=hds_lv hd rest h2;obtain ⟨l,k3,k4⟩:=told_item hd h1 rest lr fun _=>k1;exact ⟨l,k3,k4.trans (List.Perm.append_left _ (perm_flat k2 _))⟩
theorem exl {ρ:Type} {γ:Sort _} {P:γ→ρ→Prop} (c:γ) (h:∃r,P c r):∃r,∃c,P c r:=let ⟨r,h⟩:=h;⟨r,c,h⟩
theorem zfh {ρ:Type} {A:Prop} {B:ρ→Prop} (a:A) (h:∃r,B r):∃r,A∧B r:=let ⟨r,h⟩:=h;⟨r,a,h⟩
theorem pick {ρ:Type} [Inhabited ρ] {b:Bool} {X Y:ρ→Prop} (h1:b=true→∃r,X r) (h2:b=false→∃r,Y r):∃r,(b=true→X r)∧(b=false→Y r):=by
 cases b
 ·obtain ⟨r,h⟩:=h2 rfl;exact ⟨r,(fun h=>by cases h),fun _=>h⟩
 ·obtain ⟨r,h⟩:=h1 rfl;exact ⟨r,fun _=>h,(fun h=>by cases h)⟩
def sumT (l:List SNode):Nat:=(l.map fun n=>n.2.2.2.2.2.2.length).sum
theorem sumT_le {l:List SNode} (h:∀n∈l,n.2.2.2.2.2.2.length≤140737488351232):sumT l≤l.length*140737488351232:=by
 induction l with
 | nil=>simp [sumT]
 | cons x l ih=>
  have h1:=h x (by simp);have h2:=ih fun n hn=>h n (by simp [hn]);simp only [sumT,List.map_cons,List.sum_cons,List.length_cons] at h2 ⊢;omega
theorem few_ex {d:List SNode} (ht:∀n∈d,n.2.2.2.2.2.2.length≤140737488351232):∃r,zbk d r∧(r=true→d.length≤100):=by
 refine ⟨decide ((d.length:Int)≤100)&&decide (((sumT (d.take (min d.length 200)):Nat):Int)≤2000), ?_,fun h=>?_⟩
 ·refine upto (P:=fun k (s:Int) v=>zbk.l1 d _ k s v) (min d.length 200) (fun i s=>s=((sumT (d.take i):Nat):Int)) ?_ ?_ _ (by simp [sumT])
  ·rintro i s hi rfl;have hd:i<d.length:=by omega
   have h1:=sumT_le (l:=d.take i) fun n hn=>ht n (List.mem_of_mem_take hn);have h2:=ht _ (List.getElem_mem hd);have h3:(d.take i).length=i:=by simp;omega
   rw [h3] at h1;have h4:i*140737488351232≤200*140737488351232:=Nat.mul_le_mul_right _ (by omega);have e:sumT (d.take (i+1))=sumT (d.take i)+d[i].2.2.2.2.2.2.length:=by
    unfold sumT;rw [List.take_succ_eq_append_getElem hd,List.map_append,List.sum_append];simp only [List.map_cons,List.map_nil,List.sum_cons,List.sum_nil,Nat.add_zero]
   refine .inr ⟨_,rfl,fun k h=>⟨true,by simp;omega,fun _=>⟨d[i],by rw [zbz];simp [hd],zw (by omega) (by omega),zw (by omega) (by omega), ?_⟩,(fun h=>by cases h)⟩⟩;rw [e] at h;simpa using h
  ·rintro s rfl k;exact ⟨false,by simp;omega,(fun h=>by cases h),fun _=>⟨_,rfl,rfl⟩⟩
 ·simp only [Bool.and_eq_true,decide_eq_true_eq] at h;omega
theorem byte_in {s:Str} {i:Int} (h0:0≤i) (h1:i<(s.length:Int)):∃c,zhl s i=some c:=by
 obtain ⟨x,hx,_⟩:=at_in h0 h1;exact ⟨_,by unfold zhl;rw [hx];rfl⟩
theorem in_ex (s:Str) {i:Int} (f t:Int) (h0:0≤i):∃r,zcs s i f t r:=by
 by_cases h1:i<(s.length:Int)
 ·obtain ⟨c,hc⟩:=byte_in h0 h1;exact ⟨_,c,fun _=>hc,_,rfl,c,fun _=>hc,rfl⟩
 ·exact ⟨_,0,fun h=>absurd (dt h) h1,_,rfl,0,fun h=>absurd h (by simp [h1]),rfl⟩
theorem utf8_ex {s:Str} (hl:s.length≤140737488351232):∃r,zp s r:=by
 have key:∀(m:Nat) (i:Int),0≤i→(s.length:Int)+4-i≤m→i≤(s.length:Int)+4→∃q:Bool × Nat,zp.l1 s q.1 (zp.j1 q.1) q.2 i:=by
  intro m
  induction m with
  | zero=>
   intro i h0 h1 h2;exact ⟨(true,1),fun h=>absurd (dt h) (by omega),fun _=>rfl⟩
  | succ m ih=>
   intro i h0 h1 h2
   suffices h:∃q:Bool × Nat,zp.l1 s q.1 (zp.j1 q.1) (q.2+1) i by
    obtain ⟨q,hq⟩:=h;exact ⟨(q.1,q.2+1),hq⟩
   unfold zp.l1;refine pick (fun hd=>?_) (fun hd=>⟨(true,0),rfl⟩);have hlt:=dt hd;obtain ⟨c,hc⟩:=byte_in h0 hlt;obtain ⟨r17,h17⟩:=in_ex s (i:=i+1) 128 191 (by omega);obtain ⟨r21,h21⟩:=in_ex s (i:=i+2) 128 191 (by omega);obtain ⟨r25,h25⟩:=in_ex s (i:=i+3) 128 191 (by omega);obtain ⟨r35,h35⟩:=in_ex s (i:=i+1) 160 191 (by omega);obtain ⟨r44,h44⟩:=in_ex s (i:=i+1) 128 159 (by omega);obtain ⟨r49,h49⟩:=in_ex s (i:=i+1) 144 191 (by omega);obtain ⟨r58,h58⟩:=in_ex s (i:=i+1) 128 143 (by omega);have i1:InR .i64 (i+1):=zw (by omega) (by omega);have i2:InR .i64 (i+2):=zw (by omega) (by omega);have i3:InR .i64 (i+3):=zw (by omega) (by omega);have i4:InR .i64 (i+4):=zw (by omega) (by omega);have g1:=ih (i+1) (by omega) (by omega) (by omega);have g2:=ih (i+2) (by omega) (by omega) (by omega);have g3:=ih (i+3) (by omega) (by omega) (by omega);have g4:=ih (i+4) (by omega) (by omega) (by omega);refine exl c (zfh hc (zfh i1 (exl r17 (zfh h17 (zfh i2 (exl r21 (zfh h21 (zfh i3 (exl r25 (zfh h25 (pick (fun _=>zfh i1 g1) (fun _=>?_))))))))))));refine exl _ (zfh rfl (pick (fun _=>zfh i2 g2) (fun _=>?_)));refine zfh (fun _=>i1) (exl r35 (zfh (fun _=>h35) (pick (fun _=>zfh i3 g3) (fun _=>?_))));refine exl _ (zfh rfl (pick (fun _=>zfh i3 g3) (fun _=>?_)));refine zfh (fun _=>i1) (exl r44 (zfh (fun _=>h44) (pick (fun _=>zfh i3 g3) (fun _=>?_))));refine zfh (fun _=>i1) (exl r49 (zfh (fun _=>h49) (pick (fun _=>zfh i4 g4) (fun _=>?_))));refine exl _ (zfh rfl (pick (fun _=>zfh i4 g4) (fun _=>?_)));refine zfh (fun _=>i1) (exl r58 (zfh (fun _=>h58) (pick (fun _=>zfh i4 g4) (fun _=>?_))))
   exact ⟨(false,0),rfl⟩
 obtain ⟨q,hq⟩:=key (s.length+4) 0 (by omega) (by omega) (by omega);exact ⟨q.1,q.2,hq⟩
theorem text_ex {s:Str} (hl:s.length≤140737488351232):∃r,zba s r∧(r=true→s≠[]):=by
 obtain ⟨u,hu⟩:=utf8_ex hl;have tne:∀u:Bool,(decide (0<(s.length:Int))&&u)=true→s≠[]:=fun u h e=>by subst e;simp at h
 have key:∀(m:Nat) (i:Int),0≤i→(s.length:Int)-i≤m→i≤(s.length:Int)→∃q:Bool × Nat,zba.l1 s q.1 (zba.j1 s q.1) q.2 i∧(q.1=true→s≠[]):=by
  intro m
  induction m with
  | zero=>
   intro i h0 h1 h2;exact ⟨(decide (0<(s.length:Int))&&u,1),⟨fun h=>absurd (dt h) (by omega),fun _=>⟨u,fun _=>hu,rfl⟩⟩,tne u⟩
  | succ m ih=>
   intro i h0 h1 h2
   by_cases hlt:i<(s.length:Int)
   ·obtain ⟨c,hc⟩:=byte_in h0 hlt
    by_cases h34:c=34
    ·exact ⟨(false,1),⟨fun _=>⟨c,hc,fun _=>rfl,fun h=>by simp [h34] at h⟩,fun h=>absurd hlt (df h)⟩,(fun h=>by cases h)⟩
    ·obtain ⟨q,hq,hq2⟩:=ih (i+1) (by omega) (by omega) (by omega);exact ⟨(q.1,q.2+1),⟨fun _=>⟨c,hc,fun h=>by simp at h;exact absurd h h34,fun _=>⟨zw (by omega) (by omega),hq⟩⟩,fun h=>absurd hlt (df h)⟩,hq2⟩
   ·exact ⟨(decide (0<(s.length:Int))&&u,1),⟨fun h=>absurd (dt h) hlt,fun _=>⟨u,fun _=>hu,rfl⟩⟩,tne u⟩
 obtain ⟨q,hq,hq2⟩:=key s.length 0 (by omega) (by omega) (by omega);exact ⟨q.1,⟨q.2,hq⟩,hq2⟩
inductive Tr (l:List SNode):Int→Int→Prop
 | leaf {i:Int} {e:SNode} (he:at? l i=some e) (hk:e.1=1∨e.1=2∨e.1=3) (hx:e.1=3→e.2.2.2.2.2.2≠[]) (h0:e.2.1=0∧e.2.2.1=0):Tr l i i
 | one {f i:Int} {e:SNode} (he:at? l i=some e) (hk:e.1=6∨e.1=7∨e.1=8∨e.1=9) (ha:e.2.1=i-1) (hb:e.2.2.1=0) (hr:e.1=7→0≤e.2.2.2.1∧e.2.2.2.1≤e.2.2.2.2.1∧e.2.2.2.2.1≤255) (h:Tr l f (i-1)):Tr l f i
 | two {f p i:Int} {e:SNode} (he:at? l i=some e) (hk:e.1=4∨e.1=5) (ha:e.2.1=p-1) (hb:e.2.2.1=i-1) (h1:Tr l p (i-1)) (h2:Tr l f (p-1)):Tr l f i
theorem Tr.le {l:List SNode} {f i:Int} (h:Tr l f i):0≤f∧f≤i:=by
 induction h with
 | leaf he _ _ _=>exact ⟨(zbc he).1,Int.le_refl _⟩
 | one _ _ _ _ _ _ ih=>omega
 | two _ _ _ _ _ _ i1 i2=>omega
theorem Tr.lt {l:List SNode} {f i:Int} (h:Tr l f i):i<(l.length:Int):=by
 cases h with
 | leaf he _ _ _=>exact (zbc he).2
 | one he _ _ _ _ _=>exact (zbc he).2
 | two he _ _ _ _ _=>exact (zbc he).2
theorem Tr.sub {l:List SNode} {f i:Int} (h:Tr l f i):∀k,f≤k→k≤i→∃g,Tr l g k∧f≤g:=by
 induction h with
 | leaf he hk hx h0=>
  rename_i i e
  intro k h1 h2;obtain rfl:k=i:=by omega
  exact ⟨k,.leaf he hk hx h0,Int.le_refl _⟩
 | one he hk ha hb hr h ih=>
  rename_i f i e
  intro k h1 h2
  by_cases hki:k=i
  ·subst hki;exact ⟨f,.one he hk ha hb hr h,Int.le_refl _⟩
  ·exact ih k h1 (by omega)
 | two he hk ha hb h1 h2 i1 i2=>
  rename_i f p i e
  intro k k1 k2;have l1:=h1.le;have l2:=h2.le
  by_cases hki:k=i
  ·subst hki;exact ⟨f,.two he hk ha hb h1 h2,Int.le_refl _⟩
  ·by_cases hkp:p≤k
   ·obtain ⟨g,g1,g2⟩:=i1 k hkp (by omega);exact ⟨g,g1,by omega⟩
   ·exact i2 k k1 (by omega)
def zfe (l:List SNode) (i r:Int):Prop:=r = -1∨Tr l r i
theorem first_ex {l:List SNode} (hl:l.length≤1000) (ht:∀n∈l,n.2.2.2.2.2.2.length≤140737488351232):∀(m:Nat) (i:Int),i<(m:Int)→-1≤i→i<(l.length:Int)→∃r,zf.n (m+1) l i r∧zfe l i r:=by
 intro m
 induction m with
 | zero=>
  intro i h1 h2 h3;exact ⟨-1,⟨fun _=>rfl,fun h=>absurd (by omega) (df h)⟩,.inl rfl⟩
 | succ m ih=>
  intro i h1 h2 h3
  by_cases h0:i<0
  ·exact ⟨-1,⟨fun _=>rfl,fun h=>absurd h0 (df h)⟩,.inl rfl⟩
  ·obtain ⟨e,he,hm⟩:=at_in (xs:=l) (i:=i) (by omega) h3;have i1:InR .i64 (i-1):=zw (by omega) (by omega);obtain ⟨p,hp,hpo⟩:=ih (i-1) (by omega) (by omega) (by omega);have one:∀w:SNode,(e=w→w.2.1=i-1∧(w.1=6∨w.1=7∨w.1=8∨w.1=9)∧(w.1=7→0≤w.2.2.2.1∧w.2.2.2.1≤w.2.2.2.2.1∧w.2.2.2.2.1≤255)∧w.2.2.1=0)→∃r,zf.j1 (zf.n (m+1)) l i r e w∧zfe l i r:=by
    intro w hw
    by_cases hew:e=w
    ·refine ⟨p,⟨i1,p,hp,fun h=>by simp [hew] at h,fun _=>rfl⟩, ?_⟩;rcases hpo with rfl | p0
     ·exact .inl rfl
     ·obtain ⟨w1,w2,w3,w4⟩:=hw hew;exact .inr (.one he (by rw [hew];exact w2) (by rw [hew];exact w1) (by rw [hew];exact w4) (by rw [hew];exact w3) p0)
    ·exact ⟨-1,⟨i1,p,hp,fun _=>rfl,fun h=>by simp at h;exact absurd h hew⟩,.inl rfl⟩
   have two:(e.1=4∨e.1=5)→∃r,zf.j2 (zf.n (m+1)) l i r e true∧zfe l i r:=by
    intro hk
    by_cases hp0:p<0
    ·exact ⟨-1,⟨fun _=>⟨i1,i1,p,hp,fun _=>rfl,fun h=>absurd hp0 (df h)⟩,(fun h=>by cases h)⟩,.inl rfl⟩
    ·have htr:Tr l p (i-1):=by
      rcases hpo with rfl | h
      ·omega
      ·exact h
     have p1:=htr.le;obtain ⟨q,hq,hqo⟩:=ih (p-1) (by omega) (by omega) (by omega);have j1:InR .i64 (p-1):=zw (by omega) (by omega)
     by_cases hew:e=(e.1,p-1,i-1,0,0,(0#256),([]:Str))
     ·refine ⟨q,⟨fun _=>⟨i1,i1,p,hp,fun h=>absurd (dt h) hp0,fun _=>⟨j1,j1,q,hq,false, ?_,(fun h=>by cases h),fun _=>rfl⟩⟩,(fun h=>by cases h)⟩, ?_⟩
      ·have:(e != (e.1,p-1,i-1,0,0,(0#256),([]:Str)))=false:=by rw [← hew];simp
       exact this.symm
      ·rcases hqo with rfl | q0
       ·exact .inl rfl
       ·exact .inr (.two he hk (by rw [hew]) (by rw [hew]) htr q0)
     ·refine ⟨-1,⟨fun _=>⟨i1,i1,p,hp,fun h=>absurd (dt h) hp0,fun _=>⟨j1,j1,q,hq,true, ?_,fun _=>rfl,(fun h=>by cases h)⟩⟩,(fun h=>by cases h)⟩,.inl rfl⟩;exact (bne_iff_ne.2 hew).symm
   have three:(e.1=6∨e.1=7∨e.1=8∨e.1=9)→∃r,zf.j3 (zf.n (m+1)) l i r e true∧zfe l i r:=by
    intro hk
    by_cases h7:e.1=7
    ·by_cases hb:((decide (e.2.2.2.1<0))||(decide (e.2.2.2.2.1<e.2.2.2.1))||(decide (255<e.2.2.2.2.1)))=true
     ·exact ⟨-1,⟨fun _=>⟨i1,fun _=>⟨_,rfl,fun _=>rfl,fun h=>by rw [hb] at h;cases h⟩,fun h=>by simp [h7] at h⟩,(fun h=>by cases h)⟩,.inl rfl⟩
     ·obtain ⟨r,hr1,hr2⟩:=one (e.1,i-1,0,e.2.2.2.1,e.2.2.2.2.1,(0#256),([]:Str)) fun _=>⟨rfl,hk,fun _=>by
       simp only [Bool.or_eq_true,decide_eq_true_eq,not_or] at hb;exact ⟨by show (0:Int)≤e.2.2.2.1;omega,by show e.2.2.2.1≤e.2.2.2.2.1;omega,by show e.2.2.2.2.1≤255;omega⟩,rfl⟩
      exact ⟨r,⟨fun _=>⟨i1,fun _=>⟨_,rfl,fun h=>absurd h hb,fun _=>hr1⟩,fun h=>by simp [h7] at h⟩,(fun h=>by cases h)⟩,hr2⟩
    ·obtain ⟨r,hr1,hr2⟩:=one (e.1,i-1,0,0,0,(0#256),([]:Str)) fun _=>⟨rfl,hk,fun h=>absurd h h7,rfl⟩;exact ⟨r,⟨fun _=>⟨i1,fun h=>by simp at h;exact absurd h h7,fun _=>hr1⟩,(fun h=>by cases h)⟩,hr2⟩
   have ne:∀{a b:Int},a≠b→(a==b)=true→False:=fun h k=>h (eq_of_beq k);have last:∀b:Bool,(b=true↔e.1=9)→e.1≠6→e.1≠7→e.1≠8→∃r,zf.j3 (zf.n (m+1)) l i r e b∧zfe l i r:=by
    intro b hb n6 n7 n8;cases b
    ·have n9:e.1≠9:=fun h=>by have:=hb.2 h;cases this
     by_cases h4:e.1=4
     ·obtain ⟨r,hr1,hr2⟩:=two (.inl h4);exact ⟨r,⟨(fun h=>by cases h),fun _=>⟨fun h=>by rw [h];exact hr1,fun h=>by simp [h4] at h⟩⟩,hr2⟩
     ·by_cases h5:e.1=5
      ·obtain ⟨r,hr1,hr2⟩:=two (.inr h5);have e5:(e.1==5)=true:=by simp [h5]
       exact ⟨r,⟨(fun h=>by cases h),fun _=>⟨fun h=>by simp at h;exact absurd h h4,fun _=>by rw [e5];exact hr1⟩⟩,hr2⟩
      ·have e5:(e.1==5)=false:=by simp [h5]
       exact ⟨-1,⟨(fun h=>by cases h),fun _=>⟨fun h=>by simp at h;exact absurd h h4,fun _=>by rw [e5];exact ⟨(fun h=>by cases h),fun _=>rfl⟩⟩⟩,.inl rfl⟩
    ·exact three (.inr (.inr (.inr (hb.1 rfl))))
   suffices h:∃r,(∃e6:SNode,at? l i=some e6∧_)∧zfe l i r by
    obtain ⟨r,hr,ho⟩:=h;exact ⟨r,⟨fun h=>absurd (dt h) h0,fun _=>hr⟩,ho⟩
   by_cases k1:e.1=1
   ·by_cases hw:e=(e.1,0,0,0,0,(0#256),([]:Str))
    ·exact ⟨i,⟨e,he,fun _=>⟨fun h=>by rw [← hw] at h;simp at h,fun _=>rfl⟩,fun h=>by simp [k1] at h⟩,.inr (.leaf he (.inl k1) (fun h=>by omega) ⟨by rw [hw],by rw [hw]⟩)⟩
    ·exact ⟨-1,⟨e,he,fun _=>⟨fun _=>rfl,fun h=>by simp at h;exact absurd h hw⟩,fun h=>by simp [k1] at h⟩,.inl rfl⟩
   ·by_cases k2:e.1=2
    ·by_cases hw:e=(e.1,0,0,0,0,e.2.2.2.2.2.1,([]:Str))
     ·exact ⟨i,⟨e,he,fun h=>(ne k1 h).elim,fun _=>⟨fun _=>⟨false,by rw [← hw];simp,(fun h=>by cases h),fun _=>rfl⟩,fun h=>by simp [k2] at h⟩⟩,.inr (.leaf he (.inr (.inl k2)) (fun h=>by omega) ⟨by rw [hw],by rw [hw]⟩)⟩
     ·exact ⟨-1,⟨e,he,fun h=>(ne k1 h).elim,fun _=>⟨fun _=>⟨true,(bne_iff_ne.2 hw).symm,fun _=>rfl,(fun h=>by cases h)⟩,fun h=>by simp [k2] at h⟩⟩,.inl rfl⟩
    ·by_cases k3:e.1=3
     ·obtain ⟨t,htx,htn⟩:=text_ex (ht e hm);cases t
      ·exact ⟨-1,⟨e,he,fun h=>(ne k1 h).elim,fun _=>⟨fun h=>(ne k2 h).elim,fun _=>⟨fun _=>⟨false,htx,fun _=>rfl,(fun h=>by cases h)⟩,fun h=>by simp [k3] at h⟩⟩⟩,.inl rfl⟩
      ·by_cases hw:e=(e.1,0,0,0,0,(0#256),e.2.2.2.2.2.2)
       ·exact ⟨i,⟨e,he,fun h=>(ne k1 h).elim,fun _=>⟨fun h=>(ne k2 h).elim,fun _=>⟨fun _=>⟨true,htx,(fun h=>by cases h),fun _=>⟨false,by rw [← hw];simp,(fun h=>by cases h),fun _=>rfl⟩⟩,fun h=>by simp [k3] at h⟩⟩⟩,.inr (.leaf he (.inr (.inr k3)) (fun _=>htn rfl) ⟨by rw [hw],by rw [hw]⟩)⟩
       ·exact ⟨-1,⟨e,he,fun h=>(ne k1 h).elim,fun _=>⟨fun h=>(ne k2 h).elim,fun _=>⟨fun _=>⟨true,htx,(fun h=>by cases h),fun _=>⟨true,(bne_iff_ne.2 hw).symm,fun _=>rfl,(fun h=>by cases h)⟩⟩,fun h=>by simp [k3] at h⟩⟩⟩,.inl rfl⟩
     ·by_cases k6:e.1=6
      ·obtain ⟨r,hr1,hr2⟩:=three (.inl k6);exact ⟨r,⟨e,he,fun h=>(ne k1 h).elim,fun _=>⟨fun h=>(ne k2 h).elim,fun _=>⟨fun h=>(ne k3 h).elim,fun _=>⟨fun h=>by rw [h];exact hr1,fun h=>by simp [k6] at h⟩⟩⟩⟩,hr2⟩
      ·by_cases k7:e.1=7
       ·obtain ⟨r,hr1,hr2⟩:=three (.inr (.inl k7));exact ⟨r,⟨e,he,fun h=>(ne k1 h).elim,fun _=>⟨fun h=>(ne k2 h).elim,fun _=>⟨fun h=>(ne k3 h).elim,fun _=>⟨fun h=>(ne k6 h).elim,fun _=>⟨fun h=>by rw [h];exact hr1,fun h=>by simp [k7] at h⟩⟩⟩⟩⟩,hr2⟩
       ·by_cases k8:e.1=8
        ·obtain ⟨r,hr1,hr2⟩:=three (.inr (.inr (.inl k8)));exact ⟨r,⟨e,he,fun h=>(ne k1 h).elim,fun _=>⟨fun h=>(ne k2 h).elim,fun _=>⟨fun h=>(ne k3 h).elim,fun _=>⟨fun h=>(ne k6 h).elim,fun _=>⟨fun h=>(ne k7 h).elim,fun _=>⟨fun h=>by rw [h];exact hr1,fun h=>by simp [k8] at h⟩⟩⟩⟩⟩⟩,hr2⟩
        ·obtain ⟨r,hr1,hr2⟩:=last (e.1==9) beq_iff_eq k6 k7 k8;exact ⟨r,⟨e,he,fun h=>(ne k1 h).elim,fun _=>⟨fun h=>(ne k2 h).elim,fun _=>⟨fun h=>(ne k3 h).elim,fun _=>⟨fun h=>(ne k6 h).elim,fun _=>⟨fun h=>(ne k7 h).elim,fun _=>⟨fun h=>(ne k8 h).elim,fun _=>hr1⟩⟩⟩⟩⟩⟩,hr2⟩
theorem form_ex {d:List SNode} (hl:d.length≤1000) (ht:∀n∈d,n.2.2.2.2.2.2.length≤140737488351232):∃r,zd7 d r∧(r=true→Tr d 0 ((d.length:Int)-1)):=by
 obtain ⟨r,hr,ho⟩:=first_ex hl ht d.length ((d.length:Int)-1) (by omega) (by omega) (by omega);refine ⟨_,⟨fun _=>zw (by omega) (by omega),r,fun _=>⟨_,hr⟩,rfl⟩,fun h=>?_⟩;simp only [Bool.and_eq_true,decide_eq_true_eq,beq_iff_eq] at h;rcases ho with rfl | h2
 ·omega
 ·rw [h.2] at h2;exact h2
def powW (a:Nat) (t:Nat):Nat:=if t=0 then 1 else if a=0 then 0 else if a=1 then 1 else 2
theorem powW_le (a t:Nat):powW a t≤2:=by
 unfold powW;split
 ·omega
 ·split
  ·omega
  ·split <;> omega
theorem powW_step {a:Nat} (ha:a≤2) (t:Nat):min 2 (powW a t*a)=powW a (t+1):=by
 have:a=0∨a=1∨a=2:=by omega
 unfold powW
 by_cases ht:t=0
 ·subst ht;rcases this with rfl | rfl | rfl <;> simp
 ·rcases this with rfl | rfl | rfl <;> simp [ht]
def sumW (a lo:Nat):Nat→Nat
 | 0=>0
 | m+1=>min 2 (sumW a lo m+powW a (lo+m))
theorem sumW_le (a lo m:Nat):sumW a lo m≤2:=by
 cases m with
 | zero=>simp [sumW]
 | succ m=>simp only [sumW];omega
theorem sumW_zero (a lo:Nat):∀m,sumW a lo m≠0↔∃t,t<m∧powW a (lo+t)≠0
 | 0=>by simp [sumW]
 | m+1=>by
  have ih:=sumW_zero a lo m;simp only [sumW];constructor
  ·intro h
   by_cases h1:sumW a lo m≠0
   ·obtain ⟨t,h2,h3⟩:=ih.1 h1;exact ⟨t,by omega,h3⟩
   ·exact ⟨m,by omega,by omega⟩
  ·rintro ⟨t,h1,h2⟩
   by_cases htm:t=m
   ·subst htm;omega
   ·have:=ih.2 ⟨t,by omega,h2⟩;omega
theorem zfy {a t:Nat}:powW a t≠0↔t=0∨a≠0:=by
 unfold powW
 by_cases h1:t=0
 ·simp [h1]
 ·by_cases h2:a=0
  ·simp [h1,h2]
  ·rw [if_neg h1,if_neg h2];split <;> simp [h1,h2]
structure NOk (d:List SNode):Prop where
 two:∀(i:Int) n,at? d i=some n→(n.1=4∨n.1=5)→(0≤n.2.1∧n.2.1<i)∧(0≤n.2.2.1∧n.2.2.1<i)
 one:∀(i:Int) n,at? d i=some n→(n.1=6∨n.1=7∨n.1=8∨n.1=9)→0≤n.2.1∧n.2.1<i
 rep:∀(i:Int) n,at? d i=some n→n.1=7→0≤n.2.2.2.1∧n.2.2.2.1≤n.2.2.2.2.1∧n.2.2.2.2.1≤255
 kind:∀(i:Int) n,at? d i=some n→1≤n.1∧n.1≤9
 ntx:∀(i:Int) n,at? d i=some n→n.1=3→n.2.2.2.2.2.2≠[]
theorem Tr.node {l:List SNode} {f i:Int} (h:Tr l f i) {n:SNode} (hn:at? l i=some n):
  ((n.1=4∨n.1=5)→(0≤n.2.1∧n.2.1<i)∧(0≤n.2.2.1∧n.2.2.1<i))∧((n.1=6∨n.1=7∨n.1=8∨n.1=9)→0≤n.2.1∧n.2.1<i)∧(n.1=7→0≤n.2.2.2.1∧n.2.2.2.1≤n.2.2.2.2.1∧n.2.2.2.2.1≤255)∧(1≤n.1∧n.1≤9)∧(n.1=3→n.2.2.2.2.2.2≠[]):=by
 cases h with
 | leaf he hk hx h0=>
  rw [hn] at he;cases he;exact ⟨fun h=>by omega,fun h=>by omega,fun h=>by omega,by omega,hx⟩
 | one he hk ha hb hr h=>
  rw [hn] at he;cases he;have:=h.le;exact ⟨fun h=>by omega,fun h=>by omega,hr,by omega,fun h=>by omega⟩
 | two he hk ha hb h1 h2=>
  rw [hn] at he;cases he;have:=h1.le;have:=h2.le;exact ⟨fun h=>by omega,fun h=>by omega,fun h=>by omega,by omega,fun h=>by omega⟩
theorem Tr.at {d:List SNode} (h:Tr d 0 ((d.length:Int)-1)) {i:Int} {n:SNode} (hn:at? d i=some n):∃g,Tr d g i:=by
 have hb:=zbc hn;obtain ⟨g,hg,_⟩:=h.sub i hb.1 (by omega);exact ⟨g,hg⟩
theorem Tr.nok {d:List SNode} (h:Tr d 0 ((d.length:Int)-1)):NOk d:=
 ⟨fun i n hn=>let ⟨g,hg⟩:=h.at hn;(hg.node hn).1,fun i n hn=>let ⟨g,hg⟩:=h.at hn;(hg.node hn).2.1,fun i n hn=>let ⟨g,hg⟩:=h.at hn;(hg.node hn).2.2.1,fun i n hn=>let ⟨g,hg⟩:=h.at hn;(hg.node hn).2.2.2.1,fun i n hn=>let ⟨g,hg⟩:=h.at hn;(hg.node hn).2.2.2.2⟩
def WV (d:List SNode):Nat→Int→Nat
 | 0,_=>0
 | k+1,i=>match at? d i with
  | none=>0
  | some n=>
   if n.1=1 then 1
   else if n.1=4 then min 2 (WV d k n.2.1*WV d k n.2.2.1)
   else if n.1=5 then min 2 (WV d k n.2.1+WV d k n.2.2.1)
   else if n.1=6 then (if 0<WV d k n.2.1 then 2 else 1)
   else if n.1=7 then sumW (WV d k n.2.1) n.2.2.2.1.toNat (n.2.2.2.2.1+1-n.2.2.2.1).toNat
   else 0
theorem WV_le (d:List SNode) (k:Nat) (i:Int):WV d k i≤2:=by
 cases k with
 | zero=>simp [WV]
 | succ k=>
  unfold WV;cases at? d i with
  | none=>simp
  | some n=>
   simp only;split
   ·omega
   ·split
    ·omega
    ·split
     ·omega
     ·split
      ·split <;> omega
      ·split
       ·exact sumW_le _ _ _
       ·omega
theorem zfd {d:List SNode} (hd:NOk d):∀(k k':Nat) (i:Int),i<(k:Int)→i<(k':Int)→WV d k i=WV d k' i
 | 0,k',i,h,h'=>by
  have:at? d i=none:=by
   unfold at?;rw [if_neg (by omega)]
  cases k' <;> simp [WV,this]
 | k+1,0,i,h,h'=>by
  have:at? d i=none:=by
   unfold at?;rw [if_neg (by omega)]
  simp [WV,this]
 | k+1,k'+1,i,h,h'=>by
  cases hn:at? d i with
  | none=>simp only [WV,hn]
  | some n=>
   simp only [WV,hn]
   by_cases h4:n.1=4
   ·obtain ⟨⟨a,b⟩,c,e⟩:=hd.two _ n hn (.inl h4);rw [zfd hd k k' n.2.1 (by omega) (by omega),zfd hd k k' n.2.2.1 (by omega) (by omega)]
   ·by_cases h5:n.1=5
    ·obtain ⟨⟨a,b⟩,c,e⟩:=hd.two _ n hn (.inr h5);rw [zfd hd k k' n.2.1 (by omega) (by omega),zfd hd k k' n.2.2.1 (by omega) (by omega)]
    ·by_cases h6:n.1=6∨n.1=7
     ·obtain ⟨a,b⟩:=hd.one _ n hn (by omega);rw [zfd hd k k' n.2.1 (by omega) (by omega)];simp [h4,h5]
     ·simp only [not_or] at h6;simp [h4,h5,h6.1,h6.2]
def wv (d:List SNode) (i:Int):Nat:=WV d d.length i
theorem wv_at {d:List SNode} (hd:NOk d) {i:Int} {n:SNode} (hn:at? d i=some n):wv d i =
  (if n.1=1 then 1
   else if n.1=4 then min 2 (wv d n.2.1*wv d n.2.2.1)
   else if n.1=5 then min 2 (wv d n.2.1+wv d n.2.2.1)
   else if n.1=6 then (if 0<wv d n.2.1 then 2 else 1)
   else if n.1=7 then sumW (wv d n.2.1) n.2.2.2.1.toNat (n.2.2.2.2.1+1-n.2.2.2.1).toNat
   else 0):=by
 obtain ⟨hb0,hb1⟩:=zbc hn;unfold wv;rw [zfd hd d.length (d.length+1) i hb1 (by omega)];simp only [WV,hn]
theorem nz_atN {d:List SNode} (hd:NOk d) {i:Int} {n:SNode} (h:at? d i=some n):nz d i =
  (if n.1=1 then true else if n.1=4 then nz d n.2.1&&nz d n.2.2.1 else if n.1=5 then nz d n.2.1||nz d n.2.2.1 else if n.1=6 then true else if n.1=7 then decide (n.2.2.2.1=0)||nz d n.2.1 else false):=by
 obtain ⟨k,rfl,hk⟩:=zho h;have e:=nzL_at hk;have e2:nz d (k:Int)=nzN ((nzL d).take k) n:=by unfold nz;rw [zbz,e];rfl
 rw [e2];unfold nzN
 by_cases h1:n.1=1
 ·simp [h1]
 ·by_cases h4:n.1=4
  ·obtain ⟨⟨a,b⟩,c,e⟩:=hd.two _ n h (.inl h4);rw [if_neg h1,if_pos h4,if_neg h1,if_pos h4,zde a b,zde c e];rfl
  ·by_cases h5:n.1=5
   ·obtain ⟨⟨a,b⟩,c,e⟩:=hd.two _ n h (.inr h5);rw [if_neg h1,if_neg h4,if_pos h5,if_neg h1,if_neg h4,if_pos h5,zde a b,zde c e];rfl
   ·by_cases h6:n.1=6
    ·simp [h6]
    ·by_cases h7:n.1=7
     ·obtain ⟨a,b⟩:=hd.one _ n h (.inr (.inl h7));rw [if_neg h1,if_neg h4,if_neg h5,if_neg h6,if_pos h7,if_neg h1,if_neg h4,if_neg h5,if_neg h6,if_pos h7,zde a b];rfl
     ·simp [h1,h4,h5,h6,h7]
theorem wv_nz {d:List SNode} (hd:NOk d):∀(k:Nat) (i:Int) (n:SNode),i<(k:Int)→at? d i=some n→(wv d i≠0↔nz d i=true)
 | 0,i,n,hi,hn=>by have:=zbc hn;omega
 | k+1,i,n,hi,hn=>by
  have ih:=wv_nz hd k;rw [wv_at hd hn,nz_atN hd hn]
  by_cases h1:n.1=1
  ·simp [h1]
  ·by_cases h4:n.1=4
   ·obtain ⟨⟨a,b⟩,c,e⟩:=hd.two _ n hn (.inl h4);obtain ⟨m1,hm1⟩:=zcg hn a b;obtain ⟨m2,hm2⟩:=zcg hn c e;rw [if_neg h1,if_pos h4,if_neg h1,if_pos h4,Bool.and_eq_true,← ih _ m1 (by omega) hm1,← ih _ m2 (by omega) hm2,← Nat.mul_ne_zero_iff];omega
   ·by_cases h5:n.1=5
    ·obtain ⟨⟨a,b⟩,c,e⟩:=hd.two _ n hn (.inr h5);obtain ⟨m1,hm1⟩:=zcg hn a b;obtain ⟨m2,hm2⟩:=zcg hn c e;rw [if_neg h1,if_neg h4,if_pos h5,if_neg h1,if_neg h4,if_pos h5,Bool.or_eq_true,← ih _ m1 (by omega) hm1,← ih _ m2 (by omega) hm2];omega
    ·by_cases h6:n.1=6
     ·simp [h6];split <;> omega
     ·by_cases h7:n.1=7
      ·obtain ⟨a,b⟩:=hd.one _ n hn (.inr (.inl h7));obtain ⟨r0,r1,r2⟩:=hd.rep _ n hn h7;obtain ⟨m1,hm1⟩:=zcg hn a b;rw [if_neg h1,if_neg h4,if_neg h5,if_neg h6,if_pos h7,if_neg h1,if_neg h4,if_neg h5,if_neg h6,if_pos h7,sumW_zero,Bool.or_eq_true,← ih _ m1 (by omega) hm1,decide_eq_true_eq];constructor
       ·rintro ⟨t,h1,h2⟩;rcases zfy.1 h2 with h3 | h3
        ·exact .inl (by omega)
        ·exact .inr h3
       ·rintro (h3 | h3)
        ·exact ⟨0,by omega,zfy.2 (.inl (by omega))⟩
        ·exact ⟨0,by omega,zfy.2 (.inr h3)⟩
      ·simp [h1,h4,h5,h6,h7]
theorem ROk.nok {d:List SNode} (h:ROk d):NOk d:=⟨h.two,h.one,h.rep,h.kind,h.ntx⟩
theorem ways_l3 {l:List Int} {a:Nat} (ha:a≤2) {e:SNode} (h1:at? l e.2.1=some (a:Int)) {t:Nat} (ht:t≤255) {Z:Int→Prop} (hZ:Z (powW a t:Int)):
  ∀(m v:Nat),v+m=t→∃k,zd.l3 l e t Z k (powW a v:Int) v
 | 0,v,hv=>by
  obtain rfl:v=t:=by omega
  exact ⟨1,fun h=>absurd (dt h) (by omega),fun _=>hZ⟩
 | m+1,v,hv=>by
  obtain ⟨k,hk⟩:=ways_l3 ha h1 ht hZ m (v+1) (by omega);have e1:(min 2 ((powW a v:Int)*(a:Int)))=(powW a (v+1):Int):=by
   have:=Int.natCast_mul (powW a v) a;rw [← powW_step ha v];omega
  have hle:=powW_le a v;have hle2:powW a v*a≤4:=by
   have:=Nat.mul_le_mul hle ha;omega
  exact ⟨k+1,fun _=>⟨a,h1,zw (by omega) (by rw [← Int.natCast_mul];omega),zw (by omega) (by omega),by rw [e1];exact hk⟩,fun h=>absurd (by omega) (df h)⟩
theorem ways_l2 {l:List Int} {a:Nat} (ha:a≤2) {e:SNode} (h1:at? l e.2.1=some (a:Int)) {lo hi:Nat} (hlo:e.2.2.2.1=lo) (hhi:e.2.2.2.2.1=hi) (hh:hi≤255) {Z:Int→Prop} (hZ:Z (sumW a lo (hi+1-lo):Int)):
  ∀(m j:Nat),j+m=hi+1-lo→∃k,zd.l2 l e Z k (sumW a lo j:Int) ((lo+j:Nat):Int)
 | 0,j,hj=>by
  obtain rfl:j=hi+1-lo:=by omega
  exact ⟨1,fun h=>absurd (dt h) (by omega),fun _=>hZ⟩
 | m+1,j,hj=>by
  obtain ⟨k,hk⟩:=ways_l2 ha h1 hlo hhi hh hZ m (j+1) (by omega);have hs:=sumW_le a lo j;have hp:=powW_le a (lo+j);have e1:(min 2 ((sumW a lo j:Int)+(powW a (lo+j):Int)))=(sumW a lo (j+1):Int):=by simp only [sumW];omega
  obtain ⟨k3,hk3⟩:=ways_l3 ha h1 (t:=lo+j) (by omega) (Z:=zd.j3 (zd.l2 l e Z k) (sumW a lo j:Int) ((lo+j:Nat):Int)) ⟨zw (by omega) (by omega),zw (by omega) (by omega),by
   rw [e1];have:(((lo+j:Nat):Int)+1)=((lo+(j+1):Nat):Int):=by omega
   rw [this];exact hk⟩ (lo+j) 0 (by omega)
  have e0:(powW a 0:Int)=1:=rfl;rw [e0] at hk3;exact ⟨k+1,fun _=>⟨k3,hk3⟩,fun h=>absurd (by omega) (df h)⟩
theorem zg3 {d:List SNode} (hl:d.length≤1000) (hd:NOk d) {i:Nat} (h1:i<d.length):zd d (i:Int) (wv d (i:Int):Int):=by
 have hat:∀(k:Nat) (a:Int),0≤a→a<(k:Int)→at? ((List.range k).map fun (j:Nat)=>(wv d (j:Int):Int)) a=some (wv d a:Int):=fun k a h0 h1=>by
  obtain ⟨j,rfl⟩:∃j:Nat,a=(j:Int):=⟨a.toNat,by omega⟩;rw [zbz,List.getElem?_map,List.getElem?_range (by omega)];rfl
 have key:∀(m:Nat) (k:Nat),k+m=i+1→∃f,zd.l1 d (i:Int) (zd.j1 (i:Int) (wv d (i:Int):Int)) f ((List.range k).map fun (j:Nat)=>(wv d (j:Int):Int)) (k:Int):=by
  intro m
  induction m with
  | zero=>
   intro k hk;exact ⟨1,fun h=>absurd (dt h) (by omega),fun _=>⟨_,hat k _ (by omega) (by omega),rfl⟩⟩
  | succ m ih=>
   intro k hk;obtain ⟨f,hf⟩:=ih (k+1) (by omega);obtain ⟨e,he,_⟩:=at_in (xs:=d) (i:=(k:Int)) (by omega) (by omega);have hw:=wv_at hd he;have next:∀w:Nat,min 2 w=wv d (k:Int)→zd.j2 (zd.l1 d (i:Int) (zd.j1 (i:Int) (wv d (i:Int):Int)) f) ((List.range k).map fun (j:Nat)=>(wv d (j:Int):Int)) (k:Int) (w:Int):=fun w hw=>by
    refine ⟨by simp;omega,zw (by omega) (by omega), ?_⟩;have e1:(min 2 (w:Int))=(wv d (k:Int):Int):=by rw [← hw];omega
    rw [e1];have e2:((List.range k).map fun (j:Nat)=>(wv d (j:Int):Int))++[(wv d (k:Int):Int)]=(List.range (k+1)).map fun (j:Nat)=>(wv d (j:Int):Int):=by
     rw [List.range_succ,List.map_append];rfl
    rw [e2];exact hf
   have ne:∀{a b:Int},a≠b→(a==b)=true→False:=fun h k=>h (eq_of_beq k);refine ⟨f+1,fun _=>⟨e,he,fun h=>?_,fun k1=>⟨fun h=>?_,fun k4=>⟨fun h=>?_,fun k5=>⟨fun h=>?_,fun k6=>⟨fun h=>?_,fun k7=>?_⟩⟩⟩⟩⟩,fun h=>absurd (by omega) (df h)⟩
   ·have h1:e.1=1:=eq_of_beq h;exact next 1 (by rw [hw,if_pos h1];rfl)
   ·have h1:e.1≠1:=by simpa using k1
    have h4:e.1=4:=eq_of_beq h;rw [if_neg h1,if_pos h4] at hw;obtain ⟨⟨a0,a1⟩,b0,b1⟩:=hd.two _ e he (.inl h4);have l1:=WV_le d d.length e.2.1;have l2:=WV_le d d.length e.2.2.1;have hm:wv d e.2.1*wv d e.2.2.1≤4:=by have:=Nat.mul_le_mul l1 l2;exact this
    refine ⟨_,hat k _ a0 a1,_,hat k _ b0 b1,zw (by rw [← Int.natCast_mul];omega) (by rw [← Int.natCast_mul];omega), ?_⟩;rw [← Int.natCast_mul];exact next _ hw.symm
   ·have h1:e.1≠1:=by simpa using k1
    have h4:e.1≠4:=by simpa using k4
    have h5:e.1=5:=eq_of_beq h;rw [if_neg h1,if_neg h4,if_pos h5] at hw;obtain ⟨⟨a0,a1⟩,b0,b1⟩:=hd.two _ e he (.inr h5);have l1:=WV_le d d.length e.2.1;have l2:=WV_le d d.length e.2.2.1;unfold wv at *;refine ⟨_,hat k _ a0 a1,_,hat k _ b0 b1,zw (by omega) (by omega), ?_⟩;exact next (WV d d.length e.2.1+WV d d.length e.2.2.1) hw.symm
   ·have h1:e.1≠1:=by simpa using k1
    have h4:e.1≠4:=by simpa using k4
    have h5:e.1≠5:=by simpa using k5
    have h6:e.1=6:=eq_of_beq h;rw [if_neg h1,if_neg h4,if_neg h5,if_pos h6] at hw;obtain ⟨a0,a1⟩:=hd.one _ e he (.inl h6);refine ⟨_,hat k _ a0 a1,fun h=>?_,fun h=>?_⟩
    ·exact next 2 (by rw [hw,if_pos (by have:=dt h;omega)];rfl)
    ·exact next 1 (by rw [hw,if_neg (by have:=df h;omega)];rfl)
   ·have h1:e.1≠1:=by simpa using k1
    have h4:e.1≠4:=by simpa using k4
    have h5:e.1≠5:=by simpa using k5
    have h6:e.1≠6:=by simpa using k6
    have h7:e.1=7:=eq_of_beq h;rw [if_neg h1,if_neg h4,if_neg h5,if_neg h6,if_pos h7] at hw;obtain ⟨a0,a1⟩:=hd.one _ e he (.inr (.inl h7));obtain ⟨r0,r1,r2⟩:=hd.rep _ e he h7;have hs:=sumW_le (wv d e.2.1) e.2.2.2.1.toNat (e.2.2.2.2.1+1-e.2.2.2.1).toNat;have e1:(e.2.2.2.2.1+1-e.2.2.2.1).toNat=e.2.2.2.2.1.toNat+1-e.2.2.2.1.toNat:=by omega
    have:=ways_l2 (l:=(List.range k).map fun (j:Nat)=>(wv d (j:Int):Int)) (WV_le d d.length e.2.1) (e:=e) (hat k _ a0 a1) (lo:=e.2.2.2.1.toNat) (hi:=e.2.2.2.2.1.toNat) (by omega) (by omega) (by omega)
     (Z:=zd.j2 (zd.l1 d (i:Int) (zd.j1 (i:Int) (wv d (i:Int):Int)) f) ((List.range k).map fun (j:Nat)=>(wv d (j:Int):Int)) (k:Int))
     (next _ (by rw [hw,e1];rw [e1] at hs;exact Nat.min_eq_right hs)) (e.2.2.2.2.1.toNat+1-e.2.2.2.1.toNat) 0 (by omega)
    have e2:((e.2.2.2.1.toNat+0:Nat):Int)=e.2.2.2.1:=by omega
    rw [e2] at this;exact this
   ·have h1:e.1≠1:=by simpa using k1
    have h4:e.1≠4:=by simpa using k4
    have h5:e.1≠5:=by simpa using k5
    have h6:e.1≠6:=by simpa using k6
    have h7:e.1≠7:=by simpa using k7
    rw [if_neg h1,if_neg h4,if_neg h5,if_neg h6,if_neg h7] at hw;exact next 0 (by rw [hw];rfl)
 obtain ⟨f,hf⟩:=key (i+1) 0 (by omega);exact ⟨f,by simpa using hf⟩
theorem first8_ok {d:List SNode} (hl:d.length≤1000) (hd:NOk d):∃r,zy d r∧(r.2=false→∀(i:Int) n,at? d i=some n→(n.1=6∨n.1=7)→nz d n.2.1=false):=by
 have key:∀(m i:Nat),i+m=d.length→(∀(k:Int) n,k<(i:Int)→at? d k=some n→(n.1=6∨n.1=7)→nz d n.2.1=false)→∃q:(Int × Bool) × Nat,zy.l1 d q.1 (zy.j1 q.1) q.2 (i:Int)∧(q.1.2=false→∀(i:Int) n,at? d i=some n→(n.1=6∨n.1=7)→nz d n.2.1=false):=by
  intro m
  induction m with
  | zero=>
   intro i hi hk;exact ⟨((0,false),1),⟨fun h=>absurd (dt h) (by omega),fun _=>rfl⟩,fun _ k n hn=>hk k n (by have:=zbc hn;omega) hn⟩
  | succ m ih=>
   intro i hi hk;obtain ⟨e,he,_⟩:=at_in (xs:=d) (i:=(i:Int)) (by omega) (by omega);have hw:∃w,((((e.1==6)||(e.1==7)))=true→zd d e.2.1 w∧(w=0→nz d e.2.1=false)):=by
    by_cases hkk:e.1=6∨e.1=7
    ·obtain ⟨a0,a1⟩:=hd.one _ e he (by omega);obtain ⟨mm,hm⟩:=zcg he a0 a1;obtain ⟨j,hj⟩:∃j:Nat,e.2.1=(j:Int):=⟨e.2.1.toNat,by omega⟩;refine ⟨(wv d e.2.1:Int),fun _=>⟨?_,fun h0=>?_⟩⟩
     ·rw [hj];exact zg3 hl hd (by omega)
     ·have:=wv_nz hd (d.length) e.2.1 mm (by omega) hm;cases hz:nz d e.2.1
      ·rfl
      ·have:=this.2 hz;omega
    ·exact ⟨0,fun h=>absurd (by simpa using h) hkk⟩
   obtain ⟨w,hw⟩:=hw;cases hb:(((e.1==6)||(e.1==7))&&(w != 0))
   ·obtain ⟨q,hq,hq2⟩:=ih (i+1) (by omega) (fun k n hki hn hkk=>by
     by_cases hk2:k=(i:Int)
     ·subst hk2;rw [he] at hn;cases hn;have h6:((e.1==6)||(e.1==7))=true:=by simpa using hkk
      rw [h6] at hb;simp at hb;exact (hw h6).2 hb
     ·exact hk k n (by omega) hn hkk)
    exact ⟨(q.1,q.2+1),⟨fun _=>⟨e,he,e,fun _=>he,w,fun h=>(hw h).1,(fun h=>by rw [hb] at h;cases h),fun _=>⟨zw (by omega) (by omega),by simpa using hq⟩⟩,fun h=>absurd (by omega) (df h)⟩,hq2⟩
   ·exact ⟨(((i:Int),true),1),⟨fun _=>⟨e,he,e,fun _=>he,w,fun h=>(hw h).1,fun _=>rfl,fun h=>by rw [hb] at h;cases h⟩,fun h=>absurd (by omega) (df h)⟩,(fun h=>by cases h)⟩
 obtain ⟨q,hq,hq2⟩:=key d.length 0 (by omega) (fun k n hk hn=>by have:=zbc hn;omega);exact ⟨q.1,⟨q.2,hq⟩,hq2⟩
structure Rt (d:List SNode):Prop extends ROk d where
 tr:Tr d 0 ((d.length:Int)-1)
theorem Rt.ne {d:List SNode} (h:Rt d):d≠[]:=fun e=>by
 have:=h.tr.le;subst e;simp at this
theorem right_ok {d:List SNode} (hl:d.length≤1000) (ht:∀n∈d,n.2.2.2.2.2.2.length≤140737488351232):∃r,zc0 d r∧(r=true→Rt d):=by
 obtain ⟨f,hf,ho⟩:=form_ex hl ht;cases f
 ·exact ⟨false,⟨false,hf,fun _=>rfl,(fun h=>by cases h)⟩,(fun h=>by cases h)⟩
 ·have hd:=(ho rfl).nok;obtain ⟨w,hw,hw2⟩:=first8_ok hl hd;refine ⟨!w.2,⟨true,hf,(fun h=>by cases h),fun _=>⟨w,hw,rfl⟩⟩,fun h=>?_⟩;have:=hw2 (by simpa using h);exact ⟨⟨hd.two,hd.one,hd.rep,hd.kind,hd.ntx,this⟩,ho rfl⟩
def CV (d:List SNode):Nat→Int→List (List SItem)
 | 0,_=>[]
 | k+1,i=>match at? d i with
  | none=>[]
  | some n=>
   if n.1=1 then []
   else if n.1=3 then [[(3,i,0,0)]]
   else if n.1=4 then (CV d k n.2.1).map (·++[(1,n.2.2.1,0,0)])++CV d k n.2.2.1
   else if n.1=5 then CV d k n.2.1++CV d k n.2.2.1
   else if n.1=6 then (CV d k n.2.1).map (·++[(1,i,0,0)])
   else if n.1=7 then (CV d k n.2.1).map (·++[(2,i,max (n.2.2.2.1-1) 0,n.2.2.2.2.1-1)])
   else [[(1,i,0,0)]]
theorem PM_CV (d:List SNode):∀(k:Nat) (i:Int),∀p∈(PM d k i).1,p∈CV d k i
 | 0,i,p,hp=>by simp [PM] at hp
 | k+1,i,p,hp=>by
  unfold PM at hp;unfold CV;cases hn:at? d i with
  | none=>rw [hn] at hp;simp at hp
  | some n=>
   rw [hn] at hp;have a:=PM_CV d k n.2.1;have b:=PM_CV d k n.2.2.1;simp only at hp ⊢
   by_cases h1:n.1=1
   ·simp [h1] at hp
   ·rw [if_neg h1] at hp ⊢
    by_cases h3:n.1=3
    ·rw [if_pos h3] at hp ⊢;exact hp
    ·rw [if_neg h3] at hp ⊢
     by_cases h4:n.1=4
     ·rw [if_pos h4] at hp ⊢;rcases List.mem_append.1 hp with hp | hp
      ·obtain ⟨q,hq,rfl⟩:=List.mem_map.1 hp;exact List.mem_append.2 (.inl (List.mem_map.2 ⟨q,a q hq,rfl⟩))
      ·obtain ⟨l,hl,hp⟩:=List.mem_flatten.1 hp;rw [List.mem_replicate.1 hl |>.2] at hp;exact List.mem_append.2 (.inr (b p hp))
     ·rw [if_neg h4] at hp ⊢
      by_cases h5:n.1=5
      ·rw [if_pos h5] at hp ⊢;rcases List.mem_append.1 hp with hp | hp
       ·exact List.mem_append.2 (.inl (a p hp))
       ·exact List.mem_append.2 (.inr (b p hp))
      ·rw [if_neg h5] at hp ⊢
       by_cases h6:n.1=6
       ·rw [if_pos h6] at hp ⊢;obtain ⟨q,hq,rfl⟩:=List.mem_map.1 hp;exact List.mem_map.2 ⟨q,a q hq,rfl⟩
       ·rw [if_neg h6] at hp ⊢
        by_cases h7:n.1=7
        ·rw [if_pos h7] at hp ⊢;simp only at hp;split at hp
         ·obtain ⟨q,hq,rfl⟩:=List.mem_map.1 hp;exact List.mem_map.2 ⟨q,a q hq,rfl⟩
         ·cases hp
        ·rw [if_neg h7] at hp ⊢;exact hp
def CI (d:List SNode) (x:SItem):List (List SItem):=
 if x.1=1 then CV d d.length x.2.1
 else if x.1=2 then (match at? d x.2.1 with | some n=>(CV d d.length n.2.1).map (·++[(2,x.2.1,max (x.2.2.1-1) 0,x.2.2.2-1)]) | none=>[])
 else [[x]]
def CS (d:List SNode):List SItem→List (List SItem)
 | []=>[[]]
 | x::rest=>(CI d x).map (·++rest)++CS d rest
theorem pmI_CI (d:List SNode) (x:SItem):∀p∈pmI d x,p∈CI d x:=by
 intro p hp;unfold pmI at hp;unfold CI
 by_cases h1:x.1=1
 ·rw [if_pos h1] at hp ⊢;exact PM_CV d _ _ p hp
 ·rw [if_neg h1] at hp ⊢
  by_cases h2:x.1=2
  ·rw [if_pos h2] at hp ⊢;cases hn:at? d x.2.1 with
   | none=>rw [hn] at hp;cases hp
   | some n=>
    rw [hn] at hp;simp only at hp ⊢;split at hp
    ·obtain ⟨q,hq,rfl⟩:=List.mem_map.1 hp;exact List.mem_map.2 ⟨q,PM_CV d _ _ q hq,rfl⟩
    ·cases hp
  ·rw [if_neg h2] at hp ⊢;split at hp
   ·cases hp
   ·exact hp
theorem hds_CS (d:List SNode):∀(s:List SItem),∀t∈hds d s,t∈CS d s
 | [],t,ht=>ht
 | x::rest,t,ht=>by
  rcases List.mem_append.1 ht with ht | ht
  ·obtain ⟨q,hq,rfl⟩:=List.mem_map.1 ht;exact List.mem_append.2 (.inl (List.mem_map.2 ⟨q,pmI_CI d x q hq,rfl⟩))
  ·obtain ⟨l,hl,hp⟩:=List.mem_flatten.1 ht;rw [List.mem_replicate.1 hl |>.2] at hp;exact List.mem_append.2 (.inr (hds_CS d rest t hp))
structure BrOk (l:List SBranch):Prop where
 many:∀b∈l,0≤b.2∧b.2≤2
 len:∀b∈l,b.1.length≤1000
theorem zea {s:List SItem} {many:Int}:∀(l:List SBranch) (i:Nat),(∀b∈l.take i,¬ zcv s b.1=0∧¬ zcv s b.1<0)→zfm s many l=l.take i++zfm s many (l.drop i)
 | l,0,_=>rfl
 | [],i+1,_=>by simp
 | b::l,i+1,h=>by
  have hb:=h b (by simp)
  conv=>lhs;unfold zfm
  rw [if_neg hb.1,if_neg hb.2,zea l i fun c hc=>h c (by simp [hc])];rfl
theorem ref14_Add_in {l:List SBranch} (hs:l.Pairwise (fun a b=>zcv a.1 b.1<0)) (hb:BrOk l) (hl:l.length≤2000000000) {s:List SItem} (hsl:s.length≤1000) {many:Int} (hm:0≤many∧many≤2):zbt l s many (zfm s many l):=by
 refine uptoK (P:=fun k (q:List SBranch × Bool) v=>zbt.l1 l s many _ k q.1 q.2 v) l.length
  (fun i q=>(q.2=false→q.1=l.take i∧∀b∈l.take i,¬ zcv s b.1=0∧¬ zcv s b.1<0)∧(q.2=true→q.1++l.drop i=zfm s many l∧∀b∈l.drop i,zcv s b.1<0)) ?_ ?_ ([],false) ⟨fun _=>⟨by simp,by simp⟩,(fun h=>by cases h)⟩
 ·rintro i ⟨out,done⟩ k hi ⟨h1,h2⟩ hk;have hol:out.length≤l.length+1:=by
   cases done
   ·have k1:=(h1 rfl).1;simp only at k1;rw [k1];simp;omega
   ·have:=congrArg List.length (h2 rfl).1;have h3:=addB_len s many l;simp at this;omega
  have hbm:l[i]∈l:=List.getElem_mem hi;have hmb:=hb.many _ hbm;have hlb:=hb.len _ hbm;have hat:at? l (i:Int)=some l[i]:=by rw [zbz];simp [hi]
  have hdr:l.drop i=l[i]::l.drop (i+1):=(List.getElem_cons_drop hi).symm;have htk:l.take (i+1)=l.take i++[l[i]]:=List.take_succ_eq_append_getElem hi;have hsrt:∀b∈l.drop (i+1),zcv l[i].1 b.1<0:=by
   have:=hs.sublist (List.drop_sublist i l);rw [hdr,List.pairwise_cons] at this;exact this.1
  refine ⟨fun _=>⟨l[i],hat,_,zdr hsl hlb,fun h0=>?_,fun h0=>⟨fun hc=>?_,fun hc=>?_⟩⟩,fun h=>absurd (by omega) (df h)⟩
  ·have e0:zcv s l[i].1=0:=by simpa using h0
   refine ⟨l[i],hat,zw (by omega) (by omega),by simp;omega,zw (by omega) (by omega),hk (out++[(s,min 2 (l[i].2+many))],true) ⟨(fun h=>by cases h),fun _=>?_⟩⟩;cases done
   ·obtain ⟨k1,k2⟩:=h1 rfl;simp only at k1;refine ⟨?_,fun b hbb=>by rw [zb9.1 e0];exact hsrt b hbb⟩;rw [zea l i k2,hdr,k1]
    conv=>rhs;unfold zfm
    rw [if_pos e0];simp
   ·obtain ⟨k1,k2⟩:=h2 rfl;have:=k2 l[i] (hdr ▸ List.mem_cons_self);omega
  ·simp only [Bool.and_eq_true,decide_eq_true_eq,Bool.not_eq_true'] at hc;obtain ⟨c1,c2⟩:=hc;subst c2;obtain ⟨k1,k2⟩:=h1 rfl;simp only at k1;refine ⟨by simp;omega,l[i],hat,by simp;omega,zw (by omega) (by omega),hk (out++[(s,many)]++[l[i]],true) ⟨(fun h=>by cases h),fun _=>⟨?_,fun b hbb=>zdh c1 (hsrt b hbb)⟩⟩⟩;rw [zea l i k2,hdr,k1]
   conv=>rhs;unfold zfm
   rw [if_neg (by omega),if_pos c1];simp
  ·have e0:¬ zcv s l[i].1=0:=by simpa using h0
   refine ⟨l[i],hat,by simp;omega,zw (by omega) (by omega),hk (out++[l[i]],done) ⟨fun hd=>?_,fun hd=>?_⟩⟩
   ·simp only at hd;subst hd;obtain ⟨k1,k2⟩:=h1 rfl;simp only at k1;simp only [Bool.not_false,Bool.and_true,decide_eq_false_iff_not] at hc;refine ⟨by rw [htk,k1],fun b hbb=>?_⟩;rw [htk] at hbb;rcases List.mem_append.1 hbb with hbb | hbb
    ·exact k2 b hbb
    ·rw [List.mem_singleton.1 hbb];exact ⟨e0,hc⟩
   ·simp only at hd;subst hd;obtain ⟨k1,k2⟩:=h2 rfl;refine ⟨?_,fun b hbb=>k2 b (hdr ▸ List.mem_cons_of_mem _ hbb)⟩;rw [← k1,hdr];simp
 ·rintro ⟨out,done⟩ ⟨h1,h2⟩ k;refine ⟨fun h=>absurd (dt h) (by omega),fun _=>⟨fun hd=>?_,fun hd=>?_⟩⟩
  ·have hd':done=false:=by simpa using hd
   subst hd';obtain ⟨k1,k2⟩:=h1 rfl;simp only at k1;rw [List.take_length] at k1;refine ⟨by rw [k1];simp;omega, ?_⟩;rw [zea l l.length k2,k1];simp [zfm]
  ·have hd':done=true:=by simpa using hd
   subst hd';obtain ⟨k1,k2⟩:=h2 rfl;rw [← k1];simp
theorem Can.brok {f:List SItem→Nat} {B:List SBranch} (h:Can f B) (hl:∀t,f t≠0→t.length≤1000):BrOk B:=
 ⟨fun b hb=>by have:=(h.many hb).2.2;omega,fun b hb=>hl _ (h.many hb).2.1⟩
theorem into_in {d:List SNode} (hd:ROk d) (hdl:d.length≤400) (hd0:∃n,at? d 0=some n) (U:List (List SItem)) (hU:U.length≤1000000000) (hU1:∀t∈U,t.length≤1000):∀(h:Nat) (s:List SItem) (L:List (List SItem)),lv d h s=some L→Vs d 400 s→∀(f:List SItem→Nat) (B:List SBranch),Can f B→(∀t,f t≠0→t∈U)→(∀t∈L,t∈U)→∃r,zbm.n h d s B r∧Can (fun t=>f t+L.count t) r
 | 0,s,L,hL,_,_,_,_,_,_=>by simp [lv] at hL
 | h+1,s,L,hL,hv,f,B,hB,hf,hLU=>by
  have hlen:=hv.len;have hBl:=can_len hB hf;have hBo:=hB.brok fun t ht=>hU1 t (hf t ht);cases hr:rdy d s with
  | true=>
   have e:L=[s]:=by
    unfold lv at hL;rw [if_pos hr] at hL;exact (Option.some.inj hL).symm
   subst e;refine ⟨zfm s 1 B,⟨true,hr ▸ zdb hv.form hd0,fun _=>⟨s,zhp (by simp) (by omega),_,ref14_Add_in hB.srt hBo (by omega) (by omega) (by omega),rfl⟩,(fun h=>by cases h)⟩, ?_⟩;refine (hB.add s (n:=1) (by omega)).congr fun t=>?_;simp only [List.count_singleton,beq_iff_eq]
   by_cases ht:t=s
   ·subst ht;simp
   ·simp [ht,Ne.symm ht]
  | false=>
   have hopn:=hv.opn hd hr;obtain ⟨ls,hls,hlf⟩:∃ls,(opn d s).mapM (lv d h)=some ls∧ls.flatten=L:=by
    unfold lv at hL;rw [if_neg (by rw [hr];simp)] at hL;exact Option.map_eq_some_iff.1 hL
   have hlsl:ls.length=(opn d s).length:=zfp hls;have hol:=opn_len (d:=d) s;have key:∀(m i:Nat) (B':List SBranch),i+m=(opn d s).length→Can (fun t=>f t+(ls.take i).flatten.count t) B'→∃(r:List SBranch) (k:Nat),zbm.l1 (zbm.n h) d (opn d s) (zbm.j1 r) k B' (i:Int)∧Can (fun t=>f t+L.count t) r:=by
    intro m
    induction m with
    | zero=>
     intro i B' hi hB';refine ⟨B',1,⟨fun h=>absurd (dt h) (by omega),fun _=>rfl⟩, ?_⟩;rw [List.take_of_length_le (by omega),hlf] at hB';exact hB'
    | succ m ih=>
     intro i B' hi hB';have hil:i<(opn d s).length:=by omega
     obtain ⟨li,h1,h2⟩:=zhd hls hil;have hsub:∀t∈li,t∈L:=fun t ht=>by
      rw [← hlf];exact List.mem_flatten.2 ⟨li,List.mem_of_getElem? h2,ht⟩
     have hsub2:∀t,(ls.take i).flatten.count t≠0→t∈U:=fun t ht=>by
      have hp:t∈(ls.take i).flatten:=List.count_pos_iff.1 (by omega);obtain ⟨l,hl,ht⟩:=List.mem_flatten.1 hp;exact hLU t (by rw [← hlf];exact List.mem_flatten.2 ⟨l,List.mem_of_mem_take hl,ht⟩)
     obtain ⟨r1,hr1,hr2⟩:=into_in hd hdl hd0 U hU hU1 h _ li h1 (hopn _ (List.getElem_mem hil)) _ B' hB' (fun t ht=>by
      by_cases h0:f t=0
      ·exact hsub2 t (by omega)
      ·exact hf t h0) (fun t ht=>hLU t (hsub t ht))
     obtain ⟨r,k,hk1,hk2⟩:=ih (i+1) r1 (by omega) (hr2.congr fun t=>by rw [take_flat h2,List.count_append,Nat.add_assoc]);exact ⟨r,k+1,⟨fun _=>⟨_,by rw [zbz];simp [hil],r1,hr1,zw (by omega) (by omega),by simpa using hk1⟩,fun h=>absurd (by omega) (df h)⟩,hk2⟩
   obtain ⟨r,k,hk1,hk2⟩:=key (opn d s).length 0 B (by omega) (hB.congr fun t=>by simp);exact ⟨r,⟨false,hr ▸ zdb hv.form hd0,(fun h=>by cases h),fun _=>⟨_,zgx hd hv.form hr (by omega) hd0,k,hk1⟩⟩,hk2⟩
theorem zgm {α:Type} [BEq α] [LawfulBEq α]:∀(n:Nat) (l:List α),l.length≤n→l.eraseDups.Nodup
 | _,[],_=>by simp
 | 0,x::l,h=>by simp at h
 | n+1,x::l,h=>by
  rw [List.eraseDups_cons,List.nodup_cons];refine ⟨fun hx=>?_,zgm n _ (Nat.le_trans (List.length_filter_le _ _) (by simpa using h))⟩;have:=List.mem_eraseDups.1 hx;simp at this
theorem CV_tr {d:List SNode} {f i:Int} (h:Tr d f i):∀k,((CV d k i).length:Int)≤i-f+1:=by
 induction h with
 | leaf he hk hx h0=>
  rename_i i e
  intro k;cases k with
  | zero=>simp [CV]
  | succ k=>
   unfold CV;rw [he];simp only;rcases hk with h | h | h
   ·simp [h]
   ·simp [h]
   ·simp [h]
 | one he hk ha hb hr t ih=>
  rename_i f i e
  intro k;have hle:=t.le;cases k with
  | zero=>simp [CV];omega
  | succ k=>
   have:=ih k;unfold CV;rw [he];simp only;rw [if_neg (by omega),if_neg (by omega),if_neg (by omega),if_neg (by omega),ha];split
   ·rw [List.length_map];omega
   ·split
    ·rw [List.length_map];omega
    ·simp;omega
 | two he hk ha hb t1 t2 i1 i2=>
  rename_i f p i e
  intro k;have h1:=t1.le;have h2:=t2.le;cases k with
  | zero=>simp [CV];omega
  | succ k=>
   have a1:=i1 k;have a2:=i2 k;unfold CV;rw [he];simp only;rw [if_neg (by omega),if_neg (by omega),ha,hb];split
   ·rw [List.length_append,List.length_map];omega
   ·split
    ·rw [List.length_append];omega
    ·omega
theorem CV_few {d:List SNode} (h:Rt d) (k:Nat) (i:Int):(CV d k i).length≤d.length+1:=by
 cases hn:at? d i with
 | none=>cases k <;> simp [CV,hn]
 | some n=>
  obtain ⟨g,hg⟩:=h.tr.at hn;have h1:=CV_tr hg k;have h2:=hg.le;have h3:=hg.lt;omega
theorem CS_few {d:List SNode} (h:Rt d):∀s:List SItem,(CS d s).length≤s.length*(d.length+1)+1
 | []=>by simp [CS]
 | x::rest=>by
  have h1:=CS_few h rest;have h2:(CI d x).length≤d.length+1:=by
   unfold CI;split
   ·exact CV_few h _ _
   ·split
    ·split
     ·rw [List.length_map];exact CV_few h _ _
     ·simp
    ·simp
  simp only [CS,List.length_append,List.length_map,List.length_cons,Nat.succ_mul];omega
structure Sm (d:List SNode) (s:List SItem):Prop where
 rt:Rt d
 len:d.length≤24
 txt:∀n∈d,n.2.2.2.2.2.2.length≤140737488351232
 form:zcl d s=true
 slen:s.length≤400
theorem Sm.dok {d:List SNode} {s:List SItem} (h:Sm d s):DOk d:=⟨by have:=h.len;omega,fun n hn=>by have:=h.txt n hn;omega⟩
theorem Sm.ne {d:List SNode} {s:List SItem} (h:Sm d s):∃n,at? d 0=some n:=by
 have:=h.rt.ne;cases d with
 | nil=>exact absurd rfl this
 | cons n d=>exact ⟨n,rfl⟩
theorem Sm.vs {d:List SNode} {s:List SItem} (h:Sm d s):Vs d 400 s:=Vs.start h.form (by have:=h.slen;omega)
theorem zfb {d:List SNode} {s:List SItem} (h:Sm d s):∃B,zb2 d s B∧ref14_Heads d s B∧Can (fun t=>(hds d s).count t) B:=by
 have hd:=h.rt.toROk;obtain ⟨L,⟨k,hk⟩,hp⟩:=hds_lv hd s h.form;have hU:(CS d s).length≤1000000000:=by
  have h1:=CS_few h.rt s;have h4:s.length*(d.length+1)≤400*25:=Nat.mul_le_mul h.slen (by have:=h.len;omega);omega
 have hLU:∀t∈L,t∈CS d s:=fun t ht=>hds_CS d s t (hp.mem_iff.1 ht);have hvs:=lv_vs hd k s L hk h.vs;have hLU2:∀t∈L,t∈L.eraseDups:=fun t ht=>List.mem_eraseDups.2 ht;have hUl:L.eraseDups.length≤1000000000:=Nat.le_trans (len_sub (zgm _ L (Nat.le_refl _)) fun t ht=>hLU t (List.mem_eraseDups.1 ht)) hU;have hU1:∀t∈L.eraseDups,t.length≤1000:=fun t ht=>by
  have:=(hvs t (List.mem_eraseDups.1 ht)).1.len;have:=h.len;omega
 obtain ⟨B,hB1,hB2⟩:=into_in hd (by have:=h.len;omega) h.ne L.eraseDups hUl hU1 k s L hk h.vs (fun _=>0) [] Can.nil (fun t ht=>absurd rfl ht) hLU2;have hB3:Can (fun t=>L.count t) B:=hB2.congr fun t=>by simp
 have hBl:=can_len hB3 (U:=L.eraseDups) fun t ht=>hLU2 t (List.count_pos_iff.1 (by omega));exact ⟨B,⟨hd,h.dok,by have:=h.len;omega,h.rt.ne,h.form,by have:=h.slen;omega,by omega,k,L,hk,hB3⟩,⟨B,⟨k,hB1⟩,rfl⟩,hB3.congr fun t=>by rw [hp.count_eq]⟩
def zgo (c:Int) (n:SNode):SNode:=(n.1,if 4≤n.1 then n.2.1+c else n.2.1,if n.1=4∨n.1=5 then n.2.2.1+c else n.2.2.1,n.2.2.2.1,n.2.2.2.2.1,n.2.2.2.2.2.1,n.2.2.2.2.2.2)
def zf9 (c:Int) (l:List SNode):List SNode:=l.map (zgo c)
theorem zc8 (c:Int) (l:List SNode):(zf9 c l).length=l.length:=List.length_map ..
theorem moved_in {l:List SNode} {c:Int} (hl:l.length≤1000) (hr:∀n∈l,InR .i64 (n.2.1+c)∧InR .i64 (n.2.2.1+c)):zh l c (zf9 c l):=by
 refine upto (P:=fun k (o:List SNode) v=>zh.l1 l c _ k o v) l.length (fun i o=>o=zf9 c (l.take i)) ?_ ?_ [] (by simp [zf9])
 ·rintro i o hi rfl;have hat:at? l (i:Int)=some l[i]:=by rw [zbz];simp [hi]
  obtain ⟨r1,r2⟩:=hr _ (List.getElem_mem hi);have e:zf9 c (l.take (i+1))=zf9 c (l.take i)++[zgo c l[i]]:=by
   unfold zf9;rw [List.take_succ_eq_append_getElem hi,List.map_append];rfl
  have hll:(zf9 c (l.take i)).length=i:=by rw [zc8];simp;omega
  refine .inr ⟨_,rfl,fun k hk=>⟨fun _=>⟨l[i],hat, ?_⟩,fun h=>absurd (by omega) (df h)⟩⟩;rw [e] at hk;have last:∀w:SNode,w=zgo c l[i]→zh.j2 (zh.l1 l c (zh.j1 (zf9 c l)) k) (zf9 c (l.take i)) (i:Int) w:=by
   rintro w rfl;exact ⟨by rw [hll];simp;omega,zw (by omega) (by omega),hk⟩
  generalize l[i]=n at *;obtain ⟨k0,a,b,lo,hi2,cl,tx⟩:=n;simp only at r1 r2;refine ⟨fun h4=>⟨r1,fun h5=>⟨r2,last _ ?_⟩,fun h5=>last _ ?_⟩,fun h4=>⟨fun h5=>?_,fun h5=>last _ ?_⟩⟩
  ·have:=dt h4;simp only at this;simp only [Bool.or_eq_true,beq_iff_eq] at h5;simp only [zgo,if_pos this,if_pos h5]
  ·have:=dt h4;simp only at this;simp only [Bool.or_eq_false_iff,beq_eq_false_iff_ne] at h5;have h5':¬ (k0=4∨k0=5):=by omega
   simp only [zgo,if_pos this,if_neg h5']
  ·exfalso;have:=df h4;simp only at this;simp only [Bool.or_eq_true,beq_iff_eq] at h5;omega
  ·have:=df h4;simp only at this;have h5':¬ (k0=4∨k0=5):=by omega
   simp only [zgo,if_neg this,if_neg h5']
 ·rintro o rfl k;refine ⟨fun h=>absurd (dt h) (by omega),fun _=>?_⟩;show zf9 c l=zf9 c (l.take l.length);rw [List.take_length]
theorem movN_zero (n:SNode):zgo 0 n=n:=by
 obtain ⟨k,a,b,r⟩:=n;simp [zgo]
theorem movL_zero (l:List SNode):zf9 0 l=l:=by
 unfold zf9;rw [show zgo 0=id from funext movN_zero,List.map_id]
def ze7 (k:Int) (a b:List SNode):List SNode:=(a++zf9 (a.length:Int) b)++[(k,(a.length:Int)-1,((a.length:Int)+(b.length:Int))-1,0,0,(0#256),([]:Str))]
def zfi (k:Int) (a:List SNode):List SNode:=a++[(k,(a.length:Int)-1,0,0,0,(0#256),([]:Str))]
structure Sma (d:List SNode):Prop where
 a:∀n∈d,0≤n.2.1∧n.2.1≤(d.length:Int)
 b:∀n∈d,0≤n.2.2.1∧n.2.2.1≤(d.length:Int)
theorem Tr.parts {l:List SNode} {f i:Int} (h:Tr l f i) {n:SNode} (hn:at? l i=some n):(0≤n.2.1∧n.2.1≤i)∧(0≤n.2.2.1∧n.2.2.1≤i):=by
 have hb:=zbc hn;cases h with
 | leaf he hk hx h0=>rw [hn] at he;cases he;omega
 | one he hk ha hb hr h=>rw [hn] at he;cases he;have:=h.le;omega
 | two he hk ha hb h1 h2=>rw [hn] at he;cases he;have:=h1.le;have:=h2.le;omega
theorem mem_at {α:Type} {l:List α} {x:α} (h:x∈l):∃i:Int,at? l i=some x:=by
 obtain ⟨i,hi,e⟩:=List.mem_iff_getElem.1 h;exact ⟨(i:Int),by rw [zbz];simp [hi,e]⟩
theorem Tr.sma {d:List SNode} (h:Tr d 0 ((d.length:Int)-1)):Sma d:=by
 constructor
 all_goals
  intro n hn;obtain ⟨i,hi⟩:=mem_at hn;obtain ⟨g,hg⟩:=h.at hi;have:=hg.parts hi;have:=zbc hi;omega
theorem zhb {d:List SNode} (h:Tr d 0 ((d.length:Int)-1)) (hl:d.length≤1000) {c:Int} (h0:0≤c) (h1:c≤1000):zh d c (zf9 c d):=
 moved_in hl fun n hn=>by
  have:=h.sma.a n hn;have:=h.sma.b n hn;exact ⟨zw (by omega) (by omega),zw (by omega) (by omega)⟩
theorem Pair_in {k:Int} {a b:List SNode} (ha:Tr a 0 ((a.length:Int)-1)) (hb:Tr b 0 ((b.length:Int)-1)) (la:a.length≤1000) (lb:b.length≤1000):zd6 k a b (ze7 k a b):=by
 refine ⟨_,zhb ha la (Int.le_refl 0) (by omega),_,zhb hb lb (c:=(a.length:Int)) (by omega) (by omega),by rw [zc8,zc8];omega,zw (by omega) (by omega),zw (by omega) (by omega),zw (by omega) (by omega),by rw [List.length_append,zc8,zc8];simp;omega, ?_⟩;rw [movL_zero];rfl
theorem Wrap_in {k:Int} {a:List SNode} (ha:Tr a 0 ((a.length:Int)-1)) (la:a.length≤1000):zd5 k 0 0 a (zfi k a):=by
 refine ⟨_,zhb ha la (Int.le_refl 0) (by omega),zw (by omega) (by omega),by rw [zc8];simp;omega, ?_⟩;rw [movL_zero];rfl
structure Emb (l l':List SNode) (c:Int):Prop where
 nn:0≤c
 at':∀i n,at? l i=some n→at? l' (i+c)=some (zgo c n)
theorem Tr.emb {l l':List SNode} {c:Int} (h:Emb l l' c) {f i:Int} (t:Tr l f i):Tr l' (f+c) (i+c):=by
 induction t with
 | leaf he hk hx h0=>
  rename_i i e
  have e1:zgo c e=e:=by
   obtain ⟨k,a,b,r⟩:=e;simp only at hk;simp only [zgo,if_neg (show ¬ 4≤k by omega),if_neg (show ¬ (k=4∨k=5) by omega)]
  exact .leaf (e1 ▸ h.at' _ _ he) hk hx h0
 | one he hk ha hb hr t ih=>
  rename_i f i e
  refine .one (h.at' _ _ he) hk ?_ ?_ hr (by have e:i-1+c=i+c-1:=by omega
                                             rw [← e];exact ih)
  ·simp only [zgo];rw [if_pos (by omega)];omega
  ·simp only [zgo];rw [if_neg (by omega)];exact hb
 | two he hk ha hb t1 t2 i1 i2=>
  rename_i f p i e
  refine .two (p:=p+c) (h.at' _ _ he) hk ?_ ?_ (by have e:i-1+c=i+c-1:=by omega
                                                   rw [← e];exact i1) (by have e:p-1+c=p+c-1:=by omega
                                                                          rw [← e];exact i2)
  ·simp only [zgo];rw [if_pos (by omega)];omega
  ·simp only [zgo];rw [if_pos (by omega)];omega
theorem Emb.get {l l':List SNode} {c:Int} (h:Emb l l' c) {i:Int} {n:SNode} (hn:at? l i=some n):∃m,at? l' (i+c)=some m∧m.1=n.1∧(4≤n.1→m.2.1=n.2.1+c)∧(n.1=4∨n.1=5→m.2.2.1=n.2.2.1+c)∧m.2.2.2.1=n.2.2.2.1∧m.2.2.2.2.1=n.2.2.2.2.1:=
 ⟨zgo c n,h.at' _ _ hn,rfl,fun h=>if_pos h,fun h=>if_pos h,rfl,rfl⟩
theorem nz_emb {l l':List SNode} {c:Int} (h:Emb l l' c) (hl:NOk l) (hl':NOk l'):∀(k:Nat) (i:Int) (n:SNode),i<(k:Int)→at? l i=some n→nz l' (i+c)=nz l i
 | 0,i,n,hi,hn=>by have:=zbc hn;omega
 | k+1,i,n,hi,hn=>by
  have ih:=nz_emb h hl hl' k;obtain ⟨m,hm,f1,f2,f3,f4,f5⟩:=h.get hn;rw [nz_atN hl hn,nz_atN hl' hm,f1,f4]
  by_cases h1:n.1=1
  ·rw [if_pos h1,if_pos h1]
  ·rw [if_neg h1,if_neg h1]
   by_cases h4:n.1=4
   ·obtain ⟨⟨a,b⟩,c',e⟩:=hl.two _ n hn (.inl h4);obtain ⟨m1,hm1⟩:=zcg hn a b;obtain ⟨m2,hm2⟩:=zcg hn c' e;rw [if_pos h4,if_pos h4,f2 (by omega),f3 (.inl h4),ih _ m1 (by omega) hm1,ih _ m2 (by omega) hm2]
   ·rw [if_neg h4,if_neg h4]
    by_cases h5:n.1=5
    ·obtain ⟨⟨a,b⟩,c',e⟩:=hl.two _ n hn (.inr h5);obtain ⟨m1,hm1⟩:=zcg hn a b;obtain ⟨m2,hm2⟩:=zcg hn c' e;rw [if_pos h5,if_pos h5,f2 (by omega),f3 (.inr h5),ih _ m1 (by omega) hm1,ih _ m2 (by omega) hm2]
    ·rw [if_neg h5,if_neg h5]
     by_cases h6:n.1=6
     ·rw [if_pos h6,if_pos h6]
     ·rw [if_neg h6,if_neg h6]
      by_cases h7:n.1=7
      ·obtain ⟨a,b⟩:=hl.one _ n hn (.inr (.inl h7));obtain ⟨m1,hm1⟩:=zcg hn a b;rw [if_pos h7,if_pos h7,f2 (by omega),ih _ m1 (by omega) hm1]
      ·rw [if_neg h7,if_neg h7]
theorem at_left {α:Type} {a b:List α} {i:Int} {x:α} (h:at? a i=some x):at? (a++b) i=some x:=by
 obtain ⟨k,rfl,hk⟩:=zho h;rw [zbz,List.getElem?_append_left (List.getElem?_eq_some_iff.1 hk).1];exact hk
theorem zhn {α:Type} {a b:List α} {i:Int} {x:α} (h:at? b i=some x):at? (a++b) (i+(a.length:Int))=some x:=by
 obtain ⟨k,rfl,hk⟩:=zho h;have e:(k:Int)+(a.length:Int)=((k+a.length:Nat):Int):=by omega
 rw [e,zbz,List.getElem?_append_right (by omega),Nat.add_sub_cancel];exact hk
theorem at_app {α:Type} {a b:List α} {i:Int} {x:α} (h:at? (a++b) i=some x):at? a i=some x∨at? b (i-(a.length:Int))=some x:=by
 obtain ⟨k,rfl,hk⟩:=zho h;rcases Nat.lt_or_ge k a.length with hlt | hge
 ·rw [List.getElem?_append_left hlt] at hk;exact .inl (by rw [zbz];exact hk)
 ·rw [List.getElem?_append_right hge] at hk;have e:(k:Int)-(a.length:Int)=((k-a.length:Nat):Int):=by omega
  exact .inr (by rw [e,zbz];exact hk)
theorem at_one {α:Type} {x y:α} {i:Int} (h:at? [x] i=some y):i=0∧y=x:=by
 have hb:=zbc h;simp at hb;obtain rfl:i=0:=by omega
 cases h;exact ⟨rfl,rfl⟩
theorem at_movL {c:Int} {l:List SNode} {i:Int} {n:SNode} (h:at? l i=some n):at? (zf9 c l) i=some (zgo c n):=by
 obtain ⟨k,rfl,hk⟩:=zho h;rw [zbz];unfold zf9;rw [List.getElem?_map,hk];rfl
theorem at_movL_inv {c:Int} {l:List SNode} {i:Int} {n:SNode} (h:at? (zf9 c l) i=some n):∃m,at? l i=some m∧n=zgo c m:=by
 obtain ⟨k,rfl,hk⟩:=zho h;unfold zf9 at hk;rw [List.getElem?_map] at hk;obtain ⟨m,h1,h2⟩:=Option.map_eq_some_iff.1 hk;exact ⟨m,by rw [zbz];exact h1,h2.symm⟩
theorem emb_left {a:List SNode} (r:List SNode):Emb a (a++r) 0:=⟨Int.le_refl _,fun i n h=>by rw [movN_zero,Int.add_zero];exact at_left h⟩
theorem emb_mid {a b r:List SNode}:Emb b ((a++zf9 (a.length:Int) b)++r) (a.length:Int):=⟨by omega,fun i n h=>at_left (zhn (at_movL h))⟩
theorem pair_len (k:Int) (a b:List SNode):(ze7 k a b).length=a.length+b.length+1:=by simp [ze7,zc8];omega
theorem wrap_len (k:Int) (a:List SNode):(zfi k a).length=a.length+1:=by simp [zfi]
theorem pair_root (k:Int) (a b:List SNode):at? (ze7 k a b) ((a.length:Int)+(b.length:Int))=some (k,(a.length:Int)-1,((a.length:Int)+(b.length:Int))-1,0,0,(0#256),([]:Str)):=by
 have:=zhn (a:=a++zf9 (a.length:Int) b) (b:=[(k,(a.length:Int)-1,((a.length:Int)+(b.length:Int))-1,0,0,(0#256),([]:Str))]) (i:=0) rfl;rw [List.length_append,zc8] at this;have e:(0:Int)+((a.length+b.length:Nat):Int)=(a.length:Int)+(b.length:Int):=by omega
 rw [e] at this;exact this
theorem wrap_root (k:Int) (a:List SNode):at? (zfi k a) (a.length:Int)=some (k,(a.length:Int)-1,0,0,0,(0#256),([]:Str)):=by
 have:=zhn (a:=a) (b:=[(k,(a.length:Int)-1,0,0,0,(0#256),([]:Str))]) (i:=0) rfl;rw [Int.zero_add] at this;exact this
theorem pair_rt {k:Int} {a b:List SNode} (ha:Rt a) (hb:Rt b) (hk:k=4∨k=5):Rt (ze7 k a b):=by
 have ea:Emb a (ze7 k a b) 0:=by unfold ze7;rw [List.append_assoc];exact emb_left _
 have eb:Emb b (ze7 k a b) (a.length:Int):=emb_mid;have ta:=ha.tr.emb ea;have tb:=hb.tr.emb eb;have tr:Tr (ze7 k a b) 0 (((ze7 k a b).length:Int)-1):=by
  have e:(((ze7 k a b).length:Int)-1)=(a.length:Int)+(b.length:Int):=by rw [pair_len];omega
  rw [e];refine .two (p:=(a.length:Int)) (pair_root k a b) hk rfl rfl ?_ ?_
  ·have e1:(b.length:Int)-1+(a.length:Int)=(a.length:Int)+(b.length:Int)-1:=by omega
   rw [e1,Int.zero_add] at tb;exact tb
  ·rw [Int.add_zero,Int.add_zero] at ta;exact ta
 have nk:=tr.nok;refine ⟨⟨nk.two,nk.one,nk.rep,nk.kind,nk.ntx,fun i n hn h67=>?_⟩,tr⟩;unfold ze7 at hn;rcases at_app hn with hn | hn
 ·rcases at_app hn with hn | hn
  ·obtain ⟨p,q⟩:=ha.one _ n hn (by omega);obtain ⟨m,hm⟩:=zcg hn p q;have:=nz_emb ea ha.nok nk a.length _ m (by have:=zbc hm;omega) hm;rw [Int.add_zero] at this;rw [this];exact ha.nn _ n hn h67
  ·obtain ⟨m0,hm0,rfl⟩:=at_movL_inv hn;have hk0:m0.1=6∨m0.1=7:=h67;obtain ⟨p,q⟩:=hb.one _ m0 hm0 (by omega);obtain ⟨m,hm⟩:=zcg hm0 p q;have:=nz_emb eb hb.nok nk b.length _ m (by have:=zbc hm;omega) hm;simp only [zgo];rw [if_pos (by omega),this];exact hb.nn _ m0 hm0 hk0
 ·obtain ⟨_,rfl⟩:=at_one hn;simp only at h67;omega
theorem wrap_rt {k:Int} {a:List SNode} (ha:Rt a) (hk:k=6∨k=8∨k=9) (hz:k=6→nz a ((a.length:Int)-1)=false):Rt (zfi k a):=by
 have ea:Emb a (zfi k a) 0:=emb_left _;have ta:=ha.tr.emb ea;have tr:Tr (zfi k a) 0 (((zfi k a).length:Int)-1):=by
  have e:(((zfi k a).length:Int)-1)=(a.length:Int):=by rw [wrap_len];omega
  rw [e];refine .one (wrap_root k a) (by simp only;omega) rfl rfl (fun h=>by simp only at h;omega) ?_;rw [Int.add_zero,Int.add_zero] at ta;exact ta
 have nk:=tr.nok;have hr:=ha.tr.le;refine ⟨⟨nk.two,nk.one,nk.rep,nk.kind,nk.ntx,fun i n hn h67=>?_⟩,tr⟩;unfold zfi at hn;have go:∀(A:Int) m,at? a A=some m→nz a A=false→nz (zfi k a) A=false:=fun A m hm hz=>by
  have:=nz_emb ea ha.nok nk a.length _ m (by have:=zbc hm;omega) hm;rw [Int.add_zero] at this;rw [this];exact hz
 rcases at_app hn with hn | hn
 ·obtain ⟨p,q⟩:=ha.one _ n hn (by omega);obtain ⟨m,hm⟩:=zcg hn p q;exact go _ m hm (ha.nn _ n hn h67)
 ·obtain ⟨_,rfl⟩:=at_one hn;simp only at h67 ⊢;obtain ⟨m,hm,_⟩:=at_in (xs:=a) (i:=(a.length:Int)-1) hr.2 (by omega);exact go _ m hm (hz (by omega))
theorem leaf_rt {n:SNode} (hk:n.1=1∨n.1=2) (h0:n.2.1=0∧n.2.2.1=0):Rt [n]:=by
 have tr:Tr [n] 0 ((([n]:List SNode).length:Int)-1):=.leaf (e:=n) rfl (by omega) (fun h=>by omega) h0;have nk:=tr.nok;refine ⟨⟨nk.two,nk.one,nk.rep,nk.kind,nk.ntx,fun i m hm h67=>?_⟩,tr⟩;obtain ⟨_,rfl⟩:=at_one hm;omega
abbrev Txt (d:List SNode):Prop:=∀n∈d,n.2.2.2.2.2.2.length≤140737488351232
theorem guard14 {d:List SNode} (ht:Txt d):∃r6 r8:Bool,zbk d r6∧(r6=true→d.length≤100)∧(r6=true→zc0 d r8)∧(r6=true→r8=true→Rt d):=by
 obtain ⟨r6,h6,h6b⟩:=few_ex ht;cases r6
 ·exact ⟨false,false,h6,(fun h=>by cases h),(fun h=>by cases h),(fun h=>by cases h)⟩
 ·obtain ⟨r8,h8,h8b⟩:=right_ok (d:=d) (by have:=h6b rfl;omega) ht;exact ⟨true,r8,h6,h6b,fun _=>h8,fun _=>h8b⟩
theorem fits_in {d:List SNode} {s:List SItem}:zd3 d s ((decide ((d.length:Int)≤24)&&decide ((s.length:Int)≤8))&&zcl d s):=by
 refine ⟨_,rfl,zcl d s,fun h=>?_,rfl⟩;simp only [Bool.and_eq_true,decide_eq_true_eq] at h;exact zg1 (by omega)
theorem can_of {L:List (List SItem)} {B:List SBranch} (hs:B.Pairwise (fun a b=>zcv a.1 b.1<0)) (h1:∀b∈B,b.1∈L∧b.2=sat (L.count b.1)) (h2:∀t∈L,t∈B.map (·.1)):Can (fun t=>L.count t) B:=by
 refine ⟨hs,fun t m=>⟨fun h=>?_,fun ⟨h3,h4⟩=>?_⟩⟩
 ·obtain ⟨h3,h4⟩:=h1 _ h;exact ⟨by have:=List.count_pos_iff.2 h3;simp only at this ⊢;omega,h4⟩
 ·obtain ⟨b,hb,e⟩:=List.mem_map.1 (h2 t (List.count_pos_iff.1 (by omega)));obtain ⟨_,h6⟩:=h1 _ hb;have:b=(t,m):=Prod.ext e (by rw [h6,h4,e]);rw [← this];exact hb
def dB:List SNode:=[(2,0,0,0,0,(0#256),([]:Str))]
def dE:List SNode:=[(1,0,0,0,0,(0#256),([]:Str))]
theorem dB_rt:Rt dB:=leaf_rt (.inr rfl) ⟨rfl,rfl⟩
theorem dE_rt:Rt dE:=leaf_rt (.inl rfl) ⟨rfl,rfl⟩
theorem sm_mk {d:List SNode} {s:List SItem} (h:Rt d) (hl:d.length≤24) (ht:Txt d) (hf:zcl d s=true) (hs:s.length≤40):Sm d s:=⟨h,hl,ht,hf,by omega⟩
theorem txt_small {d:List SNode} (h:∀n∈d,n.2.2.2.2.2.2=[]):Txt d:=fun n hn=>by rw [h n hn];simp
def dS:List SNode:=zfi 6 dB
def dT:List SNode:=ze7 5 dE dE
theorem dS_rt:Rt dS:=wrap_rt dB_rt (.inl rfl) fun _=>by decide
theorem dT_rt:Rt dT:=pair_rt dE_rt dE_rt (.inr rfl)
theorem dS_sm {s:List SItem} (hf:zcl dS s=true) (hs:s.length≤40):Sm dS s:=sm_mk dS_rt (by decide) (txt_small (by decide)) hf hs
theorem dT_sm {s:List SItem} (hf:zcl dT s=true) (hs:s.length≤40):Sm dT s:=sm_mk dT_rt (by decide) (txt_small (by decide)) hf hs
def hS:List SBranch:=[([],1),([(1,0,0,0),(1,1,0,0)],1)]
def hT:List SBranch:=[([],2)]
theorem hS_in:zb2 dS [(1,1,0,0)] hS:=by
 obtain ⟨B,h1,_,h3⟩:=zfb (dS_sm (s:=[(1,1,0,0)]) (by decide) (by decide));have:B=hS:=h3.uniq (can_of (by decide) (by decide) (by decide));rw [← this];exact h1
theorem hT_in:zb2 dT [(1,2,0,0)] hT:=by
 obtain ⟨B,h1,_,h3⟩:=zfb (dT_sm (s:=[(1,2,0,0)]) (by decide) (by decide));have:B=hT:=h3.uniq (can_of (by decide) (by decide) (by decide));rw [← this];exact h1
theorem awake14:zdl true:=by
 have o1:zt dS [(1,1,0,0)] [[],[(1,0,0,0),(1,1,0,0)]]:=zcx dS_rt.toROk (s:=[(1,1,0,0)]) (by decide) (by decide) (by decide) ⟨_,rfl⟩;have o2:zt dS [(5,0,1,0)] []:=zcx dS_rt.toROk (s:=[(5,0,1,0)]) (by decide) (by decide) (by decide) ⟨_,rfl⟩;have hst:∀d:List SNode,d.length≤100→zb1 d [(1,(d.length:Int)-1,0,0)]:=fun d hd=>⟨zw (by omega) (by omega),rfl⟩;refine ⟨dS,Wrap_in dB_rt.tr (by decide),dT,Pair_in dE_rt.tr dE_rt.tr (by decide) (by decide),_,hst dS (by decide),hS,hS_in,_,hst dT (by decide),hT,hT_in,_,hst dS (by decide),_,o1,_,o2,_,rfl,(fun h=>by simp [hS,hT] at h),fun _=>⟨([],1),rfl,([],1),fun _=>rfl,([(1,0,0,0),(1,1,0,0)],1),fun _=>rfl,_,rfl,([(1,0,0,0),(1,1,0,0)],1),fun _=>rfl,(1,0,0,0),fun _=>rfl,([],2),fun _=>rfl,[],fun _=>rfl,_,rfl,[(1,0,0,0),(1,1,0,0)],fun _=>rfl,([(1,0,0,0),(1,1,0,0)],1),fun _=>rfl,_,fun _=>zeq (by decide) (by decide),true,fun _=>zcu dS_rt.toROk (s:=[]) rfl,_,rfl,_,fun _=>hst dS (by decide),false,fun _=>zcu dS_rt.toROk (s:=[(1,1,0,0)]) (by decide),_,fun _=>hst dB (by decide),true,fun _=>zcu dB_rt.toROk (s:=[(1,0,0,0)]) (by decide), ?_⟩⟩;decide
theorem sm_of {d:List SNode} {s:List SItem} (ht:Txt d) (hr:Rt d) (hf:((decide ((d.length:Int)≤24)&&decide ((s.length:Int)≤8))&&zcl d s)=true):Sm d s∧s.length≤8:=by
 simp only [Bool.and_eq_true,decide_eq_true_eq] at hf;exact ⟨⟨hr,by omega,ht,hf.2,by omega⟩,by omega⟩
theorem heads_len {d:List SNode} {s:List SItem} (h:Sm d s) {B:List SBranch} (hB:Can (fun t=>(hds d s).count t) B):B.length≤700000000:=by
 have h0:=can_len hB (U:=CS d s) fun t ht=>hds_CS d s t (List.count_pos_iff.1 (by omega));have h1:=CS_few h.rt s;have h4:s.length*(d.length+1)≤400*25:=Nat.mul_le_mul h.slen (by have:=h.len;omega);omega
set_option maxRecDepth 100000
noncomputable abbrev EnBv:En (Value × Unit):=En.cat En.valu En.any1
theorem tyBv:Ty Tryd.prog 51 EnBv:=⟨⟨_,_,rfl,rfl,rfl,rfl,by decide⟩,_,rfl,rfl⟩
theorem tySv:Ty Tryd.prog 43 En.valu:=⟨⟨_,_,rfl,rfl,rfl,rfl,by decide⟩,_,rfl,rfl⟩
theorem b_hot {K:Nat} (w:World) (S:Nat→Prop) (x:SBranch) (cs:List Value) (h:(EnB K).R w S cs x):∃u:Value × Nat,u.2=x.1.length∧(∀w' S',EnBv.R w' S' cs ((u.1,()):Value × Unit))∧NewV K w S 4 u.1 u.2:=by
 obtain ⟨c1,c2,rfl,h1,⟨rfl,h2⟩⟩:=h;obtain ⟨u,rfl,hn⟩:=nsl_new h1;exact ⟨(u,x.1.length),rfl,fun w' S'=>⟨_,_,rfl,⟨rfl,hn.1⟩,_,rfl,rfl⟩,hn⟩
theorem s_hot {K:Nat} (w:World) (S:Nat→Prop) (x:List SItem) (cs:List Value) (h:(En.nsl K En.SItem).R w S cs x):∃u:Value × Nat,u.2=x.length∧(∀w' S',En.valu.R w' S' cs u.1)∧NewV K w S 4 u.1 u.2:=by
 obtain ⟨u,rfl,hn⟩:=nsl_new h;exact ⟨(u,x.length),rfl,fun w' S'=>⟨rfl,hn.1⟩,hn⟩
theorem hot_len {H:Nat→Prop} {sz m:Nat} {us:List (Value × Nat)} {M:Nat→Prop} {n:Nat} {s0:St} {a:Act} {s:St} {L:Lst} (hL:Has M n s0 a s L) (hk:lk L m=some (Pd.hots H sz us)) {u:Value × Nat} (hu:u∈us):u.2≤9223372036854775807:=by
 obtain ⟨ad,cap,_,hl,_⟩:=(hL.get m hk).2 u hu;exact hl
def zds (d_:SDesc) (s_:List SItem) (r_:Bool):Prop:=zdl true∧∃r6 r8 r10:Bool,zbk d_ r6∧(r6=true→zc0 d_ r8)∧zd3 d_ s_ r10 ∧
 (r6=true→r8=true→r10=true→s_.length≤100∧(∃B,zb2 d_ s_ B∧B.length≤1000000000)∧∃r,zcz d_ s_ r∧(r=false→∃o,zt d_ s_ o∧o.length≤1000000000))∧r_=true
theorem law14_HeadsKeeps_ok {d_:SDesc} {s_:List SItem} {r_:Bool} (h:zds d_ s_ r_):Fn Tryd.prog 4 [(Pd.rep En.SDesc d_),(Pd.rep (En.slice En.SItem) s_)] (Rq (Pd.rep En.bool r_)):=by
 obtain ⟨haw,r6,r8,r10,h6,h8,h10,hall,rfl⟩:=h;refine zby Tryd.func4 rfl Tryd.ntmps4 (by rfl) (by simp) fun s0 a hL=>?_;refine wp_seq_k fun K1 hK1=>?_;refine rg ?_;refine st 2 (t_box (o_t 0 rfl) rfl rfl) rfl rfl hL fun a s e_ hL=>?_;refine st 4 (zg o_b rfl rfl) rfl rfl hL fun a s e_ hL=>?_;refine en' ?_;show K1 a s.w;refine hK1 _ _ ?_;refine wp_seq_k fun K2 hK2=>?_;refine wp_seq_k fun K3 hK3=>?_;refine rg ?_;refine st 13 (zx (zee haw) (xs:=[]) .nil rfl rfl) rfl rfl hL fun a s e_ hL=>?_;refine st 14 (t_not (o_t 13 rfl) rfl rfl) rfl rfl hL fun a s e_ hL=>?_;refine st 15 (ze (o_t 14 rfl) rfl rfl) rfl rfl hL fun a s e_ hL=>?_;refine st 16 (zbu rfl rfl rfl (fun hc_=>zbd zeb (o_t 2 rfl) rfl rfl)) rfl rfl hL fun a s e_ hL=>?_;refine st 17 (zbu rfl rfl rfl (fun hc_=>zx (ref04_Few_ok h6) (xs:=[.tmp 16]) (.cons (o_w hc_ 16 rfl) .nil) rfl rfl)) rfl rfl hL fun a s e_ hL=>?_;refine st 18 (zbu rfl rfl rfl (fun hc_=>t_not (o_w hc_ 17 rfl) rfl rfl)) rfl rfl hL fun a s e_ hL=>?_;refine st 19 (t_or (o_t 15 rfl) (fun hc2_=>(o_w hc2_ 18 rfl)) rfl rfl) rfl rfl hL fun a s e_ hL=>?_;refine st 20 (ze (o_t 19 rfl) rfl rfl) rfl rfl hL fun a s e_ hL=>?_;refine st 21 (zbu rfl rfl rfl (fun hc_=>zbd zeb (o_t 2 rfl) rfl rfl)) rfl rfl hL fun a s e_ hL=>?_;refine st 22 (zbu rfl rfl rfl (fun hc_=>zx (zge (h8 (by simpa using hc_))) (xs:=[.tmp 21]) (.cons (o_w hc_ 21 rfl) .nil) rfl rfl)) rfl rfl hL fun a s e_ hL=>?_;refine st 23 (zbu rfl rfl rfl (fun hc_=>t_not (o_w hc_ 22 rfl) rfl rfl)) rfl rfl hL fun a s e_ hL=>?_
 refine st 24 (t_or (o_t 20 rfl) (fun hc2_=>(o_w hc2_ 23 rfl)) rfl rfl) rfl rfl hL fun a s e_ hL=>?_;refine st 25 (ze (o_t 24 rfl) rfl rfl) rfl rfl hL fun a s e_ hL=>?_;refine st 26 (zbu rfl rfl rfl (fun hc_=>zbd zeb (o_t 2 rfl) rfl rfl)) rfl rfl hL fun a s e_ hL=>?_;refine st 27 (zbu rfl rfl rfl (fun hc_=>ze (o_t 1 rfl) rfl rfl)) rfl rfl hL fun a s e_ hL=>?_;refine st 28 (zbu rfl rfl rfl (fun hc_=>zx (zgy h10) (xs:=[.tmp 26,.tmp 27]) (.cons (o_w hc_ 26 rfl) (.cons (o_w hc_ 27 rfl) .nil)) rfl rfl)) rfl rfl hL fun a s e_ hL=>?_;refine st 29 (zbu rfl rfl rfl (fun hc_=>t_not (o_w hc_ 28 rfl) rfl rfl)) rfl rfl hL fun a s e_ hL=>?_;refine st 30 (t_or (o_t 25 rfl) (fun hc2_=>(o_w hc2_ 29 rfl)) rfl rfl) rfl rfl hL fun a s e_ hL=>?_;refine en' ?_;show K3 a s.w;refine hK3 _ _ ?_;refine cnd hL rfl (fun hb_=>?_) (fun hb_=>?_)
 ·refine wp_seq_k fun K10 hK10=>?_;refine rg ?_;refine st 31 (zx (zee haw) (xs:=[]) .nil rfl rfl) rfl rfl hL fun a s e_ hL=>?_;refine st 4 (zg (o_t 31 rfl) rfl rfl) rfl rfl hL fun a s e_ hL=>?_;refine en' ?_;show K10 a s.w;refine hK10 _ _ ?_;exact wp_ret (zb5 rfl hL rfl)
 obtain ⟨hsl,⟨B,hB,hBl⟩,rr,hrr,hop⟩:=by
  simp only [Bool.not_true,Bool.false_or,Bool.or_eq_false_iff,Bool.not_eq_false'] at hb_;exact hall hb_.1.1 hb_.1.2 hb_.2
 refine wp_skip ?_;show K2 a s.w;refine hK2 _ _ ?_;refine wp_seq_k fun K4 hK4=>?_;refine rg ?_;refine st_new En.SItem 32 hL Tryd.underlying43 zec rfl rfl rfl rfl fun a s g1 hg1 hL=>?_;refine st 33 (ze (o_t 1 rfl) rfl rfl) rfl rfl hL fun a s e_ hL=>?_;refine zcy (L':=[(1,Pd.rep (En.slice En.SItem) s_),(2,Pd.ptr En.SDesc d_)]) 34 hL (o_t 32 rfl) (o_t 33 rfl) Tryd.underlying43 zec (by simp;omega) rfl rfl rfl rfl (.cons (t:=1) rfl (fun _ h_=>h_.elim) (.cons (t:=2) rfl (fun _ h_=>h_.elim) .nil)) fun a s og1 hog1 hL=>?_;refine st 35 (zbn (x:=((77,0,0,0):SItem)) (ps:=[(0,.const (.int .i64 77))]) zdw rfl zfv (.cons (i:=0) (o_i (k:=.i64) (by decide)) rfl (zq (zl _ _ _)) .nil) rfl rfl) rfl rfl hL fun a s e_ hL=>?_;refine st 36 (zdu (xs:=[.tmp 35]) (.cons (o_t 35 rfl) .nil) Tryd.underlying43 zec rfl rfl (by decide) rfl rfl) rfl rfl hL fun a s e_ hL=>?_;refine zcy (L':=[(1,Pd.rep (En.slice En.SItem) s_),(2,Pd.ptr En.SDesc d_)]) 37 hL (o_t 34 rfl) (o_t 36 rfl) Tryd.underlying43 zec (by simp;omega) rfl rfl rfl rfl (.cons (t:=1) rfl (fun _ h_=>h_.elim) (.cons (t:=2) rfl (fun _ h_=>h_.elim) .nil)) fun a s og2 hog2 hL=>?_;obtain ⟨s2,hw2,hL⟩:=hL.freeze (L':=[(1,Pd.rep (En.slice En.SItem) s_),(2,Pd.ptr En.SDesc d_)]) 37 rfl (.cons (t:=1) rfl (fun _ h_=>h_.elim) (.cons (t:=2) rfl (fun _ h_=>h_.elim) .nil));rw [← hw2];clear hw2;generalize s2=s at *;refine st 5 (zg (o_t 37 rfl) rfl rfl) rfl rfl hL fun a s e_ hL=>?_;refine en' ?_;show K4 a s.w;refine hK4 _ _ ?_;have hroom:([]++s_)++[((77,0,0,0):SItem)]=s_++[(77,0,0,0)]:=by simp
 refine wp_seq_k fun K5 hK5=>?_;refine rg ?_;refine st 38 (ze (o_t 5 rfl) rfl rfl) rfl rfl hL fun a s e_ hL=>?_;refine st 39 (ze (o_t 1 rfl) rfl rfl) rfl rfl hL fun a s e_ hL=>?_;refine st 40 (zeh (o_t 39 rfl) Tryd.underlying43 rfl rfl) rfl rfl hL fun a s e_ hL=>?_;refine st 41 (t_upto (o_t 38 rfl) (o_t 40 rfl) (by simp;omega) Tryd.underlying43 zec rfl rfl) rfl rfl hL fun a s e_ hL=>?_;refine st 6 (zg (o_t 41 rfl) rfl rfl) rfl rfl hL fun a s e_ hL=>?_;refine en' ?_;show K5 a s.w;refine hK5 _ _ ?_;have htk:(([]++s_)++[((77,0,0,0):SItem)]).take ((s_.length:Int)).toNat=s_:=by simp
 rw [htk,hroom] at hL;refine wp_seq_k fun K6 hK6=>?_;refine rg ?_;refine st 42 (zbd zeb (o_t 2 rfl) rfl rfl) rfl rfl hL fun a s e_ hL=>?_;refine st 43 (ze (o_t 6 rfl) rfl rfl) rfl rfl hL fun a s e_ hL=>?_;obtain ⟨K,hKs,_,hL⟩:=hL.mark 999900;refine zfw (E:=EnB K) (F:=EnBv) (N:=K) (sz:=4) (fun u:Value × Nat=>((u.1,()):Value × Unit)) (fun x:SBranch=>x.1.length) 44 999951 hL hKs (zdz (N:=K) hB) (xs:=[.tmp 42,.tmp 43]) (.cons (zes (m:=999900) rfl (o_t 42 rfl)) (.cons (o_t 43 rfl) .nil)) rfl b_hot rfl rfl rfl rfl fun a s H us hH hul hL=>?_;refine st 7 (zg (o_t 44 rfl) rfl rfl) rfl rfl hL fun a s e_ hL=>?_;refine en' ?_;show K6 a s.w;refine hK6 _ _ ?_;have husl:us.length≤1000000000:=by have:=congrArg List.length hul;simp at this;omega
 refine wp_seq_k fun K7 hK7=>?_;refine wp_seq_k fun K8 hK8=>?_;refine rg ?_;refine st 8 (zg (o_i (k:=.i64) (by decide)) rfl rfl) rfl rfl hL fun a s e_ hL=>?_;refine en' ?_;show K8 a s.w;refine hK8 _ _ ?_;refine wp_block ?_;have J1:∀(a:Act) (s:St),Has N0 110 s0 a s [(1,Pd.rep (En.slice En.SItem) s_),(2,Pd.ptr En.SDesc d_),(5,Pd.rep (En.slice En.SItem) (s_++[(77,0,0,0)])),(6,Pd.rep (En.slice En.SItem) s_)]→K7 a s.w:=by
  intro a s hL;refine hK7 _ _ ?_;refine wp_seq_k fun K9 hK9=>?_;have J2:∀(a:Act) (s:St),Has N0 110 s0 a s [(1,Pd.rep (En.slice En.SItem) s_),(2,Pd.ptr En.SDesc d_),(5,Pd.rep (En.slice En.SItem) (s_++[(77,0,0,0)])),(6,Pd.rep (En.slice En.SItem) s_)]→K9 a s.w:=by
   intro a s hL;refine hK9 _ _ ?_;have hat:at? (s_++[((77,0,0,0):SItem)]) (s_.length:Int)=some (77,0,0,0):=by rw [zbz];simp
   refine wp_seq_k fun K11 hK11=>?_;refine rg ?_;refine st 98 (ze (o_t 6 rfl) rfl rfl) rfl rfl hL fun a s e_ hL=>?_;refine st 99 (ze (o_t 1 rfl) rfl rfl) rfl rfl hL fun a s e_ hL=>?_;refine st 100 (zx (zep (zeq (by omega) (by omega):zdg s_ s_ (decide (s_=s_)))) (xs:=[.tmp 98,.tmp 99]) (.cons (o_t 98 rfl) (.cons (o_t 99 rfl) .nil)) rfl rfl) rfl rfl hL fun a s e_ hL=>?_;refine st 101 (ze (o_t 100 rfl) rfl rfl) rfl rfl hL fun a s e_ hL=>?_;refine st 102 (zbu rfl rfl rfl (fun hc_=>ze (o_t 5 rfl) rfl rfl)) rfl rfl hL fun a s e_ hL=>?_;refine st 103 (zbu rfl rfl rfl (fun hc_=>ze (o_t 1 rfl) rfl rfl)) rfl rfl hL fun a s e_ hL=>?_;refine st 104 (zbu rfl rfl rfl (fun hc_=>zeh (o_w hc_ 103 rfl) Tryd.underlying43 rfl rfl)) rfl rfl hL fun a s e_ hL=>?_;refine st 105 (zbu rfl rfl rfl (fun hc_=>zdj (o_w hc_ 102 rfl) (o_w hc_ 104 rfl) hat Tryd.underlying43 zec rfl rfl)) rfl rfl hL fun a s e_ hL=>?_;refine st 106 (zbu rfl rfl rfl (fun hc_=>zgc (off:=0) (o_w hc_ 105 rfl) Tryd.underlying47 rfl (zu (zk _ _)) rfl ty3 rfl rfl)) rfl rfl hL fun a s e_ hL=>?_;refine st 107 (zbu rfl rfl rfl (fun hc_=>zbd ty3 (o_w hc_ 106 rfl) rfl rfl)) rfl rfl hL fun a s e_ hL=>?_;refine st 108 (zbu rfl rfl rfl (fun hc_=>zdv (o_w hc_ 107 rfl) (o_i (k:=.i64) (by decide)) rfl rfl)) rfl rfl hL fun a s e_ hL=>?_;refine st 109 (ze5 (o_t 101 rfl) (fun hc2_=>(o_w hc2_ 108 rfl)) rfl rfl) rfl rfl hL fun a s e_ hL=>?_;refine st 4 (zg (o_t 109 rfl) rfl rfl) rfl rfl hL fun a s e_ hL=>?_;refine en' ?_;show K11 a s.w;refine hK11 _ _ ?_
   refine wp_ret (zb5 (q:=Pd.rep En.bool true) rfl (hL.cons 4 ?_) rfl);have:=hL.get 4 rfl;have e:(decide (s_=s_)&&((77:Int)==77))=true:=by simp
   rw [e] at this;exact this
  refine wp_seq_k fun K11 hK11=>?_;refine rg ?_;refine st 69 (zbd zeb (o_t 2 rfl) rfl rfl) rfl rfl hL fun a s e_ hL=>?_;refine st 70 (ze (o_t 1 rfl) rfl rfl) rfl rfl hL fun a s e_ hL=>?_;refine st 71 (zx (zgd hrr) (xs:=[.tmp 69,.tmp 70]) (.cons (o_t 69 rfl) (.cons (o_t 70 rfl) .nil)) rfl rfl) rfl rfl hL fun a s e_ hL=>?_;refine st 72 (t_not (o_t 71 rfl) rfl rfl) rfl rfl hL fun a s e_ hL=>?_;refine en' ?_;show K11 a s.w;refine hK11 _ _ ?_;refine cnd hL rfl (fun hb2_=>?_) (fun hb2_=>?_)
  case refine_2=>
   refine wp_skip ?_;exact J2 a s (hL.keep (.cons (t:=1) rfl (fun _ h_=>h_.elim) (.cons (t:=2) rfl (fun _ h_=>h_.elim) (.cons (t:=5) rfl (fun _ h_=>h_.elim) (.cons (t:=6) rfl (fun _ h_=>h_.elim) .nil)))))
  obtain ⟨o,ho,hol⟩:=hop (by simpa using hb2_);refine wp_seq_k fun K12 hK12=>?_;refine rg ?_;refine st 73 (zbd zeb (o_t 2 rfl) rfl rfl) rfl rfl hL fun a s e_ hL=>?_;refine st 74 (ze (o_t 6 rfl) rfl rfl) rfl rfl hL fun a s e_ hL=>?_;obtain ⟨K,hKs,_,hL⟩:=hL.mark 999900;refine zfw (E:=En.nsl K En.SItem) (F:=En.valu) (N:=K) (sz:=4) (fun u:Value × Nat=>u.1) (fun x:List SItem=>x.length) 75 999951 hL hKs (zgh (N:=K) ho) (xs:=[.tmp 73,.tmp 74]) (.cons (zes (m:=999900) rfl (o_t 73 rfl)) (.cons (o_t 74 rfl) .nil)) rfl s_hot rfl rfl rfl rfl fun a s H us hH hul hL=>?_;refine st 10 (zg (o_t 75 rfl) rfl rfl) rfl rfl hL fun a s e_ hL=>?_;refine en' ?_;show K12 a s.w;refine hK12 _ _ ?_;have husl:us.length≤1000000000:=by have:=congrArg List.length hul;simp at this;omega
  refine wp_seq_k fun K13 hK13=>?_;refine rg ?_;refine st 11 (zg (o_i (k:=.i64) (by decide)) rfl rfl) rfl rfl hL fun a s e_ hL=>?_;refine en' ?_;show K13 a s.w;refine hK13 _ _ ?_;refine wp_block ?_;refine lpg (fun k a s=>∃i:Nat,i+k=us.length+1∧Has N0 110 s0 a s [(1,Pd.rep (En.slice En.SItem) s_),(2,Pd.ptr En.SDesc d_),(5,Pd.rep (En.slice En.SItem) (s_++[(77,0,0,0)])),(6,Pd.rep (En.slice En.SItem) s_),(10,Pd.rep (En.slice En.valu) (us.map fun u:Value × Nat=>u.1)),(11,Pd.rep (En.int .i64) (i:Int)),(999951,Pd.hots H 4 us)]) (us.length+1)
   ⟨0,by omega,hL.keep (.cons (t:=1) rfl (fun _ h_=>h_.elim) (.cons (t:=2) rfl (fun _ h_=>h_.elim) (.cons (t:=5) rfl (fun _ h_=>h_.elim) (.cons (t:=6) rfl (fun _ h_=>h_.elim) (.cons (t:=10) rfl (fun _ h_=>h_.elim) (.cons (t:=11) rfl (fun _ h_=>h_.elim) (.cons (t:=999951) rfl (fun _ _ h_=>h_) .nil)))))))⟩ ?_
  rintro k a s ⟨i,hik,hL⟩ KL hKL;refine wp_seq_k fun K15 hK15=>?_;refine wp_seq_k fun K14 hK14=>?_;refine rg ?_;refine st 76 (ze (o_t 11 rfl) rfl rfl) rfl rfl hL fun a s e_ hL=>?_;refine st 77 (ze (o_t 10 rfl) rfl rfl) rfl rfl hL fun a s e_ hL=>?_;refine st 78 (zeh (o_t 77 rfl) Tryd.underlying52 rfl rfl) rfl rfl hL fun a s e_ hL=>?_;refine st 79 (t_lss (o_t 76 rfl) (o_t 78 rfl) rfl rfl) rfl rfl hL fun a s e_ hL=>?_;refine en' ?_;show K14 a s.w;refine hK14 _ _ ?_;refine cnd hL rfl (fun hb3_=>?_) (fun hb3_=>?_)
  case refine_2=>
   refine wp_exit ?_;exact J2 a s (hL.keep (.cons (t:=1) rfl (fun _ h_=>h_.elim) (.cons (t:=2) rfl (fun _ h_=>h_.elim) (.cons (t:=5) rfl (fun _ h_=>h_.elim) (.cons (t:=6) rfl (fun _ h_=>h_.elim) .nil)))))
  have hi:i<us.length:=by have:=dt hb3_;simp at this;omega
  have hti:at? (us.map fun u:Value × Nat=>u.1) (i:Int)=some us[i].1:=by rw [zbz];simp [hi]
  have hmem:us[i]∈us:=List.getElem_mem hi;have hli:=hot_len hL (m:=999951) rfl hmem;refine wp_skip ?_;show K15 a s.w;refine hK15 _ _ ?_;refine wp_seq_k fun K17 hK17=>?_;refine wp_block ?_;refine wp_seq_k fun K18 hK18=>?_;refine rg ?_;refine st 12 (zg (o_i (k:=.i64) (by decide)) rfl rfl) rfl rfl hL fun a s e_ hL=>?_;refine en' ?_;show K18 a s.w;refine hK18 _ _ ?_;refine wp_block ?_;refine lpg (fun k a s=>∃j:Nat,j+k=us[i].2+1∧Has N0 110 s0 a s [(1,Pd.rep (En.slice En.SItem) s_),(2,Pd.ptr En.SDesc d_),(5,Pd.rep (En.slice En.SItem) (s_++[(77,0,0,0)])),(6,Pd.rep (En.slice En.SItem) s_),(10,Pd.rep (En.slice En.valu) (us.map fun u:Value × Nat=>u.1)),(11,Pd.rep (En.int .i64) (i:Int)),(12,Pd.rep (En.int .i64) (j:Int)),(999951,Pd.hots H 4 us)]) (us[i].2+1)
   ⟨0,by omega,hL.keep (.cons (t:=1) rfl (fun _ h_=>h_.elim) (.cons (t:=2) rfl (fun _ h_=>h_.elim) (.cons (t:=5) rfl (fun _ h_=>h_.elim) (.cons (t:=6) rfl (fun _ h_=>h_.elim) (.cons (t:=10) rfl (fun _ h_=>h_.elim) (.cons (t:=11) rfl (fun _ h_=>h_.elim) (.cons (t:=12) rfl (fun _ h_=>h_.elim) (.cons (t:=999951) rfl (fun _ _ h_=>h_) .nil))))))))⟩ ?_
  rintro k2 a s ⟨j,hjk,hL⟩ KM hKM;refine wp_seq_k fun K20 hK20=>?_;refine wp_seq_k fun K19 hK19=>?_;refine rg ?_;refine st 82 (ze (o_t 12 rfl) rfl rfl) rfl rfl hL fun a s e_ hL=>?_;refine st 83 (ze (o_t 10 rfl) rfl rfl) rfl rfl hL fun a s e_ hL=>?_;refine st 84 (ze (o_t 11 rfl) rfl rfl) rfl rfl hL fun a s e_ hL=>?_;refine st 85 (zdj (o_t 83 rfl) (o_t 84 rfl) hti Tryd.underlying52 tySv rfl rfl) rfl rfl hL fun a s e_ hL=>?_;refine st 86 (zbd tySv (o_t 85 rfl) rfl rfl) rfl rfl hL fun a s e_ hL=>?_;refine st 87 (t_lenh (m:=999951) (uv:=us[i]) rfl hmem (o_t 86 rfl) Tryd.underlying43 rfl rfl) rfl rfl hL fun a s e_ hL=>?_;refine st 88 (t_lss (o_t 82 rfl) (o_t 87 rfl) rfl rfl) rfl rfl hL fun a s e_ hL=>?_;refine en' ?_;show K19 a s.w;refine hK19 _ _ ?_;refine cnd hL rfl (fun hb4_=>?_) (fun hb4_=>?_)
  case refine_2=>
   refine wp_exit ?_;show K17 a s.w;refine hK17 _ _ ?_;refine rg ?_;refine st 80 (ze (o_t 11 rfl) rfl rfl) rfl rfl hL fun a s e_ hL=>?_;refine st 81 (t_add (o_t 80 rfl) (o_i (k:=.i64) (by decide)) (zw (by omega) (by omega)) rfl rfl) rfl rfl hL fun a s e_ hL=>?_;refine st 11 (zg (o_t 81 rfl) rfl rfl) rfl rfl hL fun a s e_ hL=>?_;refine en' ?_;exact hKL (k-1) a s (by omega) ⟨i+1,by omega,hL.keep (.cons (t:=1) rfl (fun _ h_=>h_.elim) (.cons (t:=2) rfl (fun _ h_=>h_.elim) (.cons (t:=5) rfl (fun _ h_=>h_.elim) (.cons (t:=6) rfl (fun _ h_=>h_.elim) (.cons (t:=10) rfl (fun _ h_=>h_.elim) (.cons (t:=11) rfl (fun _ h_=>h_.elim) (.cons (t:=999951) rfl (fun _ _ h_=>h_) .nil)))))))⟩
  have hj:j<us[i].2:=by have:=dt hb4_;omega
  refine wp_skip ?_;show K20 a s.w;refine hK20 _ _ ?_;refine wp_seq_k fun K21 hK21=>?_;refine wp_block ?_;refine rg ?_;refine st 91 (ze (o_t 10 rfl) rfl rfl) rfl rfl hL fun a s e_ hL=>?_;refine st 92 (ze (o_t 11 rfl) rfl rfl) rfl rfl hL fun a s e_ hL=>?_;refine st 93 (zdj (o_t 91 rfl) (o_t 92 rfl) hti Tryd.underlying52 tySv rfl rfl) rfl rfl hL fun a s e_ hL=>?_;refine st 94 (zbd tySv (o_t 93 rfl) rfl rfl) rfl rfl hL fun a s e_ hL=>?_;refine st 95 (ze (o_t 12 rfl) rfl rfl) rfl rfl hL fun a s e_ hL=>?_;refine st 96 (t_idxh (E:=En.SItem) (m:=999951) (uv:=us[i]) rfl hmem (o_t 94 rfl) (o_t 95 rfl) ⟨by omega,by omega⟩ Tryd.underlying43 zec rfl rfl rfl) rfl rfl hL fun a s e_ hL=>?_;refine st 97 (t_fah (E':=En.int .i64) (o_t 96 rfl) Tryd.underlying47 rfl ty3 (by decide) rfl rfl) rfl rfl hL fun a s e_ hL=>?_;refine st_sth (E:=En.int .i64) (x:=99) (L':=[(1,Pd.rep (En.slice En.SItem) s_),(2,Pd.ptr En.SDesc d_),(5,Pd.rep (En.slice En.SItem) (s_++[(77,0,0,0)])),(6,Pd.rep (En.slice En.SItem) s_),(10,Pd.rep (En.slice En.valu) (us.map fun u:Value × Nat=>u.1)),(11,Pd.rep (En.int .i64) (i:Int)),(12,Pd.rep (En.int .i64) (j:Int)),(999951,Pd.hots H 4 us)]) 999951 hL rfl hH (o_t 97 rfl) (o_i (k:=.i64) (by decide)) ty3 (Nat.le_refl 1) rfl rfl rfl
   (.cons (t:=1) rfl (fun _ h_=>h_.elim) (.cons (t:=2) rfl (fun _ h_=>h_.elim) (.cons (t:=5) rfl (fun _ h_=>h_.elim) (.cons (t:=6) rfl (fun _ h_=>h_.elim) (.cons (t:=10) rfl (fun _ h_=>h_.elim) (.cons (t:=11) rfl (fun _ h_=>h_.elim) (.cons (t:=12) rfl (fun _ h_=>h_.elim) (.turn (t:=999951) rfl .nil)))))))) fun s hL=>?_
  refine en' ?_;show K21 a s.w;refine hK21 _ _ ?_;refine rg ?_;refine st 89 (ze (o_t 12 rfl) rfl rfl) rfl rfl hL fun a s e_ hL=>?_;refine st 90 (t_add (o_t 89 rfl) (o_i (k:=.i64) (by decide)) (zw (by omega) (by omega)) rfl rfl) rfl rfl hL fun a s e_ hL=>?_;refine st 12 (zg (o_t 90 rfl) rfl rfl) rfl rfl hL fun a s e_ hL=>?_;refine en' ?_;exact hKM (k2-1) a s (by omega) ⟨j+1,by omega,hL.keep (.cons (t:=1) rfl (fun _ h_=>h_.elim) (.cons (t:=2) rfl (fun _ h_=>h_.elim) (.cons (t:=5) rfl (fun _ h_=>h_.elim) (.cons (t:=6) rfl (fun _ h_=>h_.elim) (.cons (t:=10) rfl (fun _ h_=>h_.elim) (.cons (t:=11) rfl (fun _ h_=>h_.elim) (.cons (t:=12) rfl (fun _ h_=>h_.elim) (.cons (t:=999951) rfl (fun _ _ h_=>h_) .nil))))))))⟩
 refine lpg (fun k a s=>∃i:Nat,i+k=us.length+1∧Has N0 110 s0 a s [(1,Pd.rep (En.slice En.SItem) s_),(2,Pd.ptr En.SDesc d_),(5,Pd.rep (En.slice En.SItem) (s_++[(77,0,0,0)])),(6,Pd.rep (En.slice En.SItem) s_),(7,Pd.rep (En.slice EnBv) (us.map fun u:Value × Nat=>((u.1,()):Value × Unit))),(8,Pd.rep (En.int .i64) (i:Int)),(999951,Pd.hots H 4 us)]) (us.length+1)
  ⟨0,by omega,hL.keep (.cons (t:=1) rfl (fun _ h_=>h_.elim) (.cons (t:=2) rfl (fun _ h_=>h_.elim) (.cons (t:=5) rfl (fun _ h_=>h_.elim) (.cons (t:=6) rfl (fun _ h_=>h_.elim) (.cons (t:=7) rfl (fun _ h_=>h_.elim) (.cons (t:=8) rfl (fun _ h_=>h_.elim) (.cons (t:=999951) rfl (fun _ _ h_=>h_) .nil)))))))⟩ ?_
 rintro k a s ⟨i,hik,hL⟩ KL hKL;refine wp_seq_k fun K15 hK15=>?_;refine wp_seq_k fun K14 hK14=>?_;refine rg ?_;refine st 45 (ze (o_t 8 rfl) rfl rfl) rfl rfl hL fun a s e_ hL=>?_;refine st 46 (ze (o_t 7 rfl) rfl rfl) rfl rfl hL fun a s e_ hL=>?_;refine st 47 (zeh (o_t 46 rfl) Tryd.underlying48 rfl rfl) rfl rfl hL fun a s e_ hL=>?_;refine st 48 (t_lss (o_t 45 rfl) (o_t 47 rfl) rfl rfl) rfl rfl hL fun a s e_ hL=>?_;refine en' ?_;show K14 a s.w;refine hK14 _ _ ?_;refine cnd hL rfl (fun hb3_=>?_) (fun hb3_=>?_)
 case refine_2=>
  refine wp_exit ?_;exact J1 a s (hL.keep (.cons (t:=1) rfl (fun _ h_=>h_.elim) (.cons (t:=2) rfl (fun _ h_=>h_.elim) (.cons (t:=5) rfl (fun _ h_=>h_.elim) (.cons (t:=6) rfl (fun _ h_=>h_.elim) .nil)))))
 have hi:i<us.length:=by have:=dt hb3_;simp at this;omega
 have hti:at? (us.map fun u:Value × Nat=>((u.1,()):Value × Unit)) (i:Int)=some (us[i].1,()):=by rw [zbz];simp [hi]
 have hmem:us[i]∈us:=List.getElem_mem hi;have hli:=hot_len hL (m:=999951) rfl hmem;refine wp_skip ?_;show K15 a s.w;refine hK15 _ _ ?_;refine wp_seq_k fun K17 hK17=>?_;refine wp_block ?_;refine wp_seq_k fun K18 hK18=>?_;refine rg ?_;refine st 9 (zg (o_i (k:=.i64) (by decide)) rfl rfl) rfl rfl hL fun a s e_ hL=>?_;refine en' ?_;show K18 a s.w;refine hK18 _ _ ?_;refine wp_block ?_;refine lpg (fun k a s=>∃j:Nat,j+k=us[i].2+1∧Has N0 110 s0 a s [(1,Pd.rep (En.slice En.SItem) s_),(2,Pd.ptr En.SDesc d_),(5,Pd.rep (En.slice En.SItem) (s_++[(77,0,0,0)])),(6,Pd.rep (En.slice En.SItem) s_),(7,Pd.rep (En.slice EnBv) (us.map fun u:Value × Nat=>((u.1,()):Value × Unit))),(8,Pd.rep (En.int .i64) (i:Int)),(9,Pd.rep (En.int .i64) (j:Int)),(999951,Pd.hots H 4 us)]) (us[i].2+1)
  ⟨0,by omega,hL.keep (.cons (t:=1) rfl (fun _ h_=>h_.elim) (.cons (t:=2) rfl (fun _ h_=>h_.elim) (.cons (t:=5) rfl (fun _ h_=>h_.elim) (.cons (t:=6) rfl (fun _ h_=>h_.elim) (.cons (t:=7) rfl (fun _ h_=>h_.elim) (.cons (t:=8) rfl (fun _ h_=>h_.elim) (.cons (t:=9) rfl (fun _ h_=>h_.elim) (.cons (t:=999951) rfl (fun _ _ h_=>h_) .nil))))))))⟩ ?_
 rintro k2 a s ⟨j,hjk,hL⟩ KM hKM;refine wp_seq_k fun K20 hK20=>?_;refine wp_seq_k fun K19 hK19=>?_;refine rg ?_;refine st 51 (ze (o_t 9 rfl) rfl rfl) rfl rfl hL fun a s e_ hL=>?_;refine st 52 (ze (o_t 7 rfl) rfl rfl) rfl rfl hL fun a s e_ hL=>?_;refine st 53 (ze (o_t 8 rfl) rfl rfl) rfl rfl hL fun a s e_ hL=>?_;refine st 54 (zdj (o_t 52 rfl) (o_t 53 rfl) hti Tryd.underlying48 tyBv rfl rfl) rfl rfl hL fun a s e_ hL=>?_;refine st 55 (zgc (off:=0) (o_t 54 rfl) Tryd.underlying51 rfl (zu (zk _ _)) rfl tySv rfl rfl) rfl rfl hL fun a s e_ hL=>?_;refine st 56 (zbd tySv (o_t 55 rfl) rfl rfl) rfl rfl hL fun a s e_ hL=>?_;refine st 57 (t_lenh (m:=999951) (uv:=us[i]) rfl hmem (o_t 56 rfl) Tryd.underlying43 rfl rfl) rfl rfl hL fun a s e_ hL=>?_;refine st 58 (t_lss (o_t 51 rfl) (o_t 57 rfl) rfl rfl) rfl rfl hL fun a s e_ hL=>?_;refine en' ?_;show K19 a s.w;refine hK19 _ _ ?_;refine cnd hL rfl (fun hb4_=>?_) (fun hb4_=>?_)
 case refine_2=>
  refine wp_exit ?_;show K17 a s.w;refine hK17 _ _ ?_;refine rg ?_;refine st 49 (ze (o_t 8 rfl) rfl rfl) rfl rfl hL fun a s e_ hL=>?_;refine st 50 (t_add (o_t 49 rfl) (o_i (k:=.i64) (by decide)) (zw (by omega) (by omega)) rfl rfl) rfl rfl hL fun a s e_ hL=>?_;refine st 8 (zg (o_t 50 rfl) rfl rfl) rfl rfl hL fun a s e_ hL=>?_;refine en' ?_;exact hKL (k-1) a s (by omega) ⟨i+1,by omega,hL.keep (.cons (t:=1) rfl (fun _ h_=>h_.elim) (.cons (t:=2) rfl (fun _ h_=>h_.elim) (.cons (t:=5) rfl (fun _ h_=>h_.elim) (.cons (t:=6) rfl (fun _ h_=>h_.elim) (.cons (t:=7) rfl (fun _ h_=>h_.elim) (.cons (t:=8) rfl (fun _ h_=>h_.elim) (.cons (t:=999951) rfl (fun _ _ h_=>h_) .nil)))))))⟩
 have hj:j<us[i].2:=by have:=dt hb4_;omega
 refine wp_skip ?_;show K20 a s.w;refine hK20 _ _ ?_;refine wp_seq_k fun K21 hK21=>?_;refine wp_block ?_;refine rg ?_;refine st 61 (ze (o_t 7 rfl) rfl rfl) rfl rfl hL fun a s e_ hL=>?_;refine st 62 (ze (o_t 8 rfl) rfl rfl) rfl rfl hL fun a s e_ hL=>?_;refine st 63 (zdj (o_t 61 rfl) (o_t 62 rfl) hti Tryd.underlying48 tyBv rfl rfl) rfl rfl hL fun a s e_ hL=>?_;refine st 64 (zgc (off:=0) (o_t 63 rfl) Tryd.underlying51 rfl (zu (zk _ _)) rfl tySv rfl rfl) rfl rfl hL fun a s e_ hL=>?_;refine st 65 (zbd tySv (o_t 64 rfl) rfl rfl) rfl rfl hL fun a s e_ hL=>?_;refine st 66 (ze (o_t 9 rfl) rfl rfl) rfl rfl hL fun a s e_ hL=>?_;refine st 67 (t_idxh (E:=En.SItem) (m:=999951) (uv:=us[i]) rfl hmem (o_t 65 rfl) (o_t 66 rfl) ⟨by omega,by omega⟩ Tryd.underlying43 zec rfl rfl rfl) rfl rfl hL fun a s e_ hL=>?_;refine st 68 (t_fah (E':=En.int .i64) (o_t 67 rfl) Tryd.underlying47 rfl ty3 (by decide) rfl rfl) rfl rfl hL fun a s e_ hL=>?_;refine st_sth (E:=En.int .i64) (x:=99) (L':=[(1,Pd.rep (En.slice En.SItem) s_),(2,Pd.ptr En.SDesc d_),(5,Pd.rep (En.slice En.SItem) (s_++[(77,0,0,0)])),(6,Pd.rep (En.slice En.SItem) s_),(7,Pd.rep (En.slice EnBv) (us.map fun u:Value × Nat=>((u.1,()):Value × Unit))),(8,Pd.rep (En.int .i64) (i:Int)),(9,Pd.rep (En.int .i64) (j:Int)),(999951,Pd.hots H 4 us)]) 999951 hL rfl hH (o_t 68 rfl) (o_i (k:=.i64) (by decide)) ty3 (Nat.le_refl 1) rfl rfl rfl
  (.cons (t:=1) rfl (fun _ h_=>h_.elim) (.cons (t:=2) rfl (fun _ h_=>h_.elim) (.cons (t:=5) rfl (fun _ h_=>h_.elim) (.cons (t:=6) rfl (fun _ h_=>h_.elim) (.cons (t:=7) rfl (fun _ h_=>h_.elim) (.cons (t:=8) rfl (fun _ h_=>h_.elim) (.cons (t:=9) rfl (fun _ h_=>h_.elim) (.turn (t:=999951) rfl .nil)))))))) fun s hL=>?_
 refine en' ?_;show K21 a s.w;refine hK21 _ _ ?_;refine rg ?_;refine st 59 (ze (o_t 9 rfl) rfl rfl) rfl rfl hL fun a s e_ hL=>?_;refine st 60 (t_add (o_t 59 rfl) (o_i (k:=.i64) (by decide)) (zw (by omega) (by omega)) rfl rfl) rfl rfl hL fun a s e_ hL=>?_;refine st 9 (zg (o_t 60 rfl) rfl rfl) rfl rfl hL fun a s e_ hL=>?_;refine en' ?_;exact hKM (k2-1) a s (by omega) ⟨j+1,by omega,hL.keep (.cons (t:=1) rfl (fun _ h_=>h_.elim) (.cons (t:=2) rfl (fun _ h_=>h_.elim) (.cons (t:=5) rfl (fun _ h_=>h_.elim) (.cons (t:=6) rfl (fun _ h_=>h_.elim) (.cons (t:=7) rfl (fun _ h_=>h_.elim) (.cons (t:=8) rfl (fun _ h_=>h_.elim) (.cons (t:=9) rfl (fun _ h_=>h_.elim) (.cons (t:=999951) rfl (fun _ _ h_=>h_) .nil))))))))⟩
theorem law14_HeadsKeeps_true {d:List SNode} {s:List SItem} (ht:Txt d):zds d s true:=by
 obtain ⟨r6,r8,h6,h6b,h8,h8b⟩:=guard14 ht;refine ⟨awake14,r6,r8,_,h6,h8,fits_in,fun g1 g2 g3=>?_,rfl⟩;have hR:=h8b g1 g2;obtain ⟨hs,hsl⟩:=sm_of ht hR g3;have hd:=hR.toROk;obtain ⟨B,b1,b2,b3⟩:=zfb hs;have hol:=opn_len (d:=d) s;exact ⟨by omega,⟨B,b1,by have:=heads_len hs b3;omega⟩,_,zdb hs.form hs.ne,fun hnr=>⟨_,zcx hd hs.form hnr (by omega) hs.ne,by omega⟩⟩
open Go.ChangeShapes Go.WideShapes Go.RowKit
structure Rd (P:Program) (t:TypeId) {α:Type} (E:En α) (G:α→Prop):Prop where
 sz:P.cellsOf t=E.sz
 rd:∀{H:Type} (enc:TypeId × Value→H) (w:World) (fuel:Nat) (cs:List Value) (x:DataW H × List MemPlace),
  DataW.trod enc P w 0 (fun _=>true) true fuel t cs=some x→(∀n∈x.1.weights P t,n≤reachBytes)→∃y,E.R w (fun b=>b<w.heap.size) cs y∧G y
 vl:∀(w:World) (v:Value),Value.okWide P w .any 0 t v→(∃y,E.R w (fun b=>b<w.heap.size) v.cells.toList y)→v=E.val v.cells.toList
theorem Rd.int {P:Program} {t:TypeId} {k:IntKind} (ht:P.underlying t=some (.int k)) (hc:P.cellsOf t=1):Rd P t (En.int k) (InR k):=by
 refine ⟨hc, ?_, ?_⟩
 ·intro H enc w fuel cs x h _;obtain ⟨n,rfl,_,hw⟩:=DataW.trod_int ht h;have:InR k n:=by simpa [Lit.wf,InR] using hw
  exact ⟨n,⟨rfl,this⟩,this⟩
 ·intro w v hv _;obtain ⟨n,rfl⟩:=okWide_int ht hv;rfl
theorem Rd.str {P:Program} {t:TypeId} (ht:P.underlying t=some .string) (hc:P.cellsOf t=1):Rd P t En.str (fun y=>y.length≤140737488351232):=by
 refine ⟨hc, ?_, ?_⟩
 ·intro H enc w fuel cs x h hwt;obtain ⟨s,rfl,hx,hs⟩:=DataW.trod_string ht h;have hl:s.data.toList.length≤9223372036854775807:=by simpa [maxLen] using hs
  have h2:s.data.toList.length≤140737488351232:=hwt _ (by rw [hx];simp [DataW.weights]);exact ⟨s.data.toList,⟨rfl,hl⟩,h2⟩
 ·intro w v hv _;simp only [Value.okWide,ht,Cell.okWide,Cell.ok] at hv;cases v <;> simp at hv;rfl
theorem zft {H:Type} {P:Program} {e:TypeId}:∀{l:List (DataW H)} {d:DataW H},d∈l→∀n∈d.weights P e,n∈DataW.weightsAll P e l
 | [],_,h,_,_=>by cases h
 | d'::l,d,h,n,hn=>by
  simp only [DataW.weightsAll,List.mem_append];rcases List.mem_cons.1 h with rfl | h
  ·exact .inl hn
  ·exact .inr (zft h n hn)
theorem Rd.slice {P:Program} {t e:TypeId} {α:Type} {E:En α} {G:α→Prop} (ht:P.underlying t=some (.slice e)) (hc:P.cellsOf t=1) (hby:Nat.blt 0 (P.bytesOf e)=true) (he:Rd P e E G):
  Rd P t (En.slice E) (fun xs=>xs.length≤140737488351232∧∀y∈xs,G y):=by
 refine ⟨hc, ?_, ?_⟩
 ·intro H enc w fuel cs x h hwt;rcases Deep.open_slice ht h with ⟨rfl,_⟩ | ⟨a,len,cap,m,n,D,Pl,rfl,hb,hl,hm,hmm,hxe,hx⟩
  ·exact ⟨[],⟨_,rfl,zei E _ _⟩,Nat.zero_le _,by simp⟩
  ·simp only [if_true] at hmm;subst hmm;have hall:∀i,i<len→∃p:α × List Value,w.cells? 0 (a.add (i*P.cellsOf e)) (P.cellsOf e)=some p.2∧E.R w (fun b=>b<w.heap.size) p.2 p.1∧G p.1:=fun i hi=>by
    obtain ⟨cs',h1,h2⟩:=hx i (by omega);obtain ⟨y,h3,h4⟩:=he.rd enc w n cs' _ h2 fun q hq=>hwt q (by
     rw [hxe];simp only [DataW.weights,ht,List.mem_cons,List.mem_append];exact .inr (.inl (zft (List.mem_map.2 ⟨i,by simpa using hi,rfl⟩) q hq)))
    exact ⟨(y,cs'),h1,h3,h4⟩
   have hmax2:len≤140737488351232:=by
    have h1:=hwt ((len+(m-len))*P.bytesOf e) (by rw [hxe];simp [DataW.weights,ht]);have h2:0<P.bytesOf e:=Nat.le_of_ble_eq_true hby;have h3:(len+(m-len))*1≤(len+(m-len))*P.bytesOf e:=Nat.mul_le_mul_left _ h2;have h4:reachBytes=140737488351232:=rfl;omega
   have hmax:len≤lim:=by have:maxLen≤lim:=by decide
                         omega
   by_cases h0:len=0
   ·subst h0;exact ⟨[],⟨_,rfl,some a,m,rfl,Nat.zero_le _,(fun h=>by cases h),Nat.zero_le _,fun h=>absurd rfl h⟩,Nat.zero_le _,by simp⟩
   have hinh:Inhabited (α × List Value):=⟨(hall 0 (by omega)).choose⟩;obtain ⟨f,hf⟩:=Deep.choose_lt hall;have hsz:=E.pos;rw [← he.sz] at hsz;obtain ⟨hcell0,hblk⟩:a.spot=none∧a.block<w.heap.size:=by
    obtain ⟨_,hl2,hcl⟩:=World.cells?_some (hf 0 (by omega)).1;have h2:=hcl 0 hsz;rw [List.getElem?_eq_getElem (by omega)] at h2;simp only [Nat.zero_mul,Addr.add,if_true,World.cell?] at h2;cases hb2:w.heap[a.block]? with
    | none=>simp [hb2] at h2
    | some o=>
     refine ⟨?_,(Array.getElem?_eq_some_iff.1 hb2).1⟩;cases o <;> simp [hb2] at h2;exact h2.1
   refine ⟨(List.range len).map (fun i=>(f i).1),⟨_,rfl,some a,m, ?_,by simpa using hl,(fun h=>by cases h),by simpa using hmax,fun _=>⟨a.block,a.off,(List.range len).map (fun i=>(f i).2), ?_,hblk,⟨by simp, ?_⟩, ?_⟩⟩,by simpa using hmax2, ?_⟩
   ·simp
   ·cases a;simp at hcell0;subst hcell0;rfl
   ·intro i c y hc1 hy1;have hi:i<len:=by have:=(List.getElem?_eq_some_iff.1 hc1).1;simpa using this
    simp [hi] at hc1 hy1;subst hc1;subst hy1;exact (hf i hi).2.1
   ·have hlens:∀c∈(List.range len).map (fun i=>(f i).2),c.length=E.sz:=by
     intro c hc;simp only [List.mem_map,List.mem_range] at hc;obtain ⟨i,hi,rfl⟩:=hc;rw [(World.cells?_some (hf i hi).1).2.1,he.sz]
    intro j u hj;have hjl:j<len*E.sz:=by
     have:=(List.getElem?_eq_some_iff.1 hj).1;rw [zd8 hlens] at this;simpa using this
    have hp:0<E.sz:=E.pos;have hi:j / E.sz<len:=Nat.div_lt_of_lt_mul (by rw [Nat.mul_comm];exact hjl);have hk:j % E.sz<E.sz:=Nat.mod_lt _ hp;obtain ⟨_,hl2,hcl⟩:=World.cells?_some (hf _ hi).1;have hcell:=hcl (j % E.sz) (by rw [he.sz];exact hk);rw [he.sz] at hl2;have hg:=zez hlens (i:=j / E.sz) (cs:=(f (j / E.sz)).2) (j:=j % E.sz) (u:=(f (j / E.sz)).2[j % E.sz]'(by omega)) (by simp [hi]) (by simp);rw [Nat.mul_comm,Nat.div_add_mod] at hg;rw [hg] at hj;rw [List.getElem?_eq_getElem (by omega),hj,Deep.add_add,he.sz,Nat.mul_comm,Nat.div_add_mod] at hcell;rw [← hcell];cases a;simp at hcell0;subst hcell0;rw [zc3]
   ·intro y hy;simp only [List.mem_map,List.mem_range] at hy;obtain ⟨i,hi,rfl⟩:=hy;exact (hf i hi).2.2
 ·intro w v hv _;simp only [Value.okWide,ht,Cell.okWide,Cell.ok] at hv;cases v <;> simp at hv;rfl
theorem u64_word {n:Int} (h:InR .u64 n):∃m:Nat,m<2 ^ 64∧n=m:=by
 simp [InR,IntKind.min,IntKind.max,IntKind.signed,IntKind.bits] at h;exact ⟨n.toNat,by omega,by omega⟩
theorem Rd.cls {P:Program} {t e:TypeId} (ht:P.underlying t=some (.array 4 e)) (hc:P.cellsOf t=4) (he:P.underlying e=some (.int .u64)) (hce:P.cellsOf e=1):Rd P t En.cls (fun _=>True):=by
 refine ⟨hc, ?_, ?_⟩
 ·intro H enc w fuel cs x h _;obtain ⟨xs,m,rfl,rfl,hlen,hn,hx⟩:=DataW.trod_array ht h;rw [hc] at hlen
  match cs,hlen with
  | [u0,u1,u2,u3],_=>
   have hx':∀i (hi:i<4) u,[u0,u1,u2,u3][i]?=some u→∃q:Nat,q<2 ^ 64∧u = .int .u64 q:=by
    intro i hi u hu;have h1:=hx i hi;rw [hce,Nat.mul_one,List.getElem?_eq_getElem (by omega)] at h1;have h2:List.take 1 (List.drop i [u0,u1,u2,u3])=[u]:=by
     match i,hi with
     | 0,_ | 1,_ | 2,_ | 3,_=>simp at hu;subst hu;rfl
    rw [h2] at h1;obtain ⟨n,h3,_,h4⟩:=DataW.trod_int he h1;obtain ⟨q,hq,rfl⟩:=u64_word (n:=n) (by simpa [Lit.wf,InR] using h4);simp at h3;exact ⟨q,hq,h3⟩
   obtain ⟨q0,h0,rfl⟩:=hx' 0 (by omega) u0 rfl;obtain ⟨q1,h1,rfl⟩:=hx' 1 (by omega) u1 rfl;obtain ⟨q2,h2,rfl⟩:=hx' 2 (by omega) u2 rfl;obtain ⟨q3,h3,rfl⟩:=hx' 3 (by omega) u3 rfl;refine ⟨Cl.ofWords q0 q1 q2 q3, ?_,trivial⟩;obtain ⟨e0,e1,e2,e3⟩:=Cl.ofWords_word h0 h1 h2 h3;show _=ze1 _;unfold ze1;rw [e0,e1,e2,e3]
 ·intro w v hv _;simp only [Value.okWide,ht] at hv;obtain ⟨cs,rfl,_⟩:=hv;simp [En.val,En.cls,Value.cells]
structure RdF (P:Program) (fs:List Field) (o:Nat) {α:Type} (E:En α) (G:α→Prop):Prop where
 rd:∀{H:Type} (enc:TypeId × Value→H) (w:World) (fuel:Nat) (cs:List Value) (xs:List (DataW H × List MemPlace)),xs.length=fs.length →
  (∀(i:Nat) (f:Field),fs[i]?=some f→DataW.trod enc P w 0 (fun _=>true) true fuel f.type ((cs.drop f.offset).take (P.cellsOf f.type))=xs[i]?) →
  (∀n∈DataW.weightsEach P (fs.map (·.type)) (xs.map (·.1)),n≤reachBytes)→∃y,E.R w (fun b=>b<w.heap.size) ((cs.drop o).take E.sz) y∧G y
theorem RdF.last {P:Program} {f:Field} {o:Nat} {α:Type} {E:En α} {G:α→Prop} (h:Rd P f.type E G) (ho:f.offset=o):RdF P [f] o E G:=⟨by
 intro H enc w fuel cs xs hl hx hw;obtain ⟨x,rfl⟩:∃x,xs=[x]:=List.length_eq_one_iff.1 hl;have h1:=hx 0 f rfl;rw [ho,h.sz] at h1;exact h.rd enc w fuel _ x h1 fun n hn=>hw n (by simp [DataW.weightsEach,hn])⟩
theorem RdF.solo {P:Program} {fs:List Field} {o:Nat} {α:Type} {E:En α} {G:α→Prop} (h:RdF P fs o E G):RdF P fs o E.solo G:=⟨h.rd⟩
theorem zgb {xs:List Value} {o m n:Nat}:(xs.drop o).take (m+n)=(xs.drop o).take m++(xs.drop (o+m)).take n:=by
 rw [List.take_add,List.drop_drop]
theorem RdF.cons {P:Program} {f:Field} {fs:List Field} {o:Nat} {α β:Type} {E:En α} {F:En β} {G:α→Prop} {K:β→Prop} (h:Rd P f.type E G) (ho:f.offset=o) (hr:RdF P fs (o+E.sz) F K):RdF P (f::fs) o (E.cat F) (fun x=>G x.1∧K x.2):=⟨by
 intro H enc w fuel cs xs hl hx hw;obtain ⟨x,xs',rfl⟩:∃x xs',xs=x::xs':=by
  cases xs with
  | nil=>simp at hl
  | cons x xs'=>exact ⟨x,xs',rfl⟩
 have h1:=hx 0 f rfl;rw [ho,h.sz] at h1;obtain ⟨y,hy1,hy2⟩:=h.rd enc w fuel _ x h1 fun n hn=>hw n (by simp [DataW.weightsEach,hn]);obtain ⟨z,hz1,hz2⟩:=hr.rd enc w fuel cs xs' (by simpa using hl) (fun i g hg=>by have:=hx (i+1) g (by simpa using hg);simpa using this) fun n hn=>hw n (by
  simp only [List.map_cons,DataW.weightsEach,List.mem_append];exact .inr hn)
 exact ⟨(y,z),⟨_,_,zgb,hy1,hz1⟩,hy2,hz2⟩⟩
theorem Rd.struct {P:Program} {t:TypeId} {fs:Array Field} {α:Type} {E:En α} {G:α→Prop} (ht:P.underlying t=some (.struct fs)) (ha:E.agg=true) (hc:P.cellsOf t=E.sz) (h:RdF P fs.toList 0 E G):Rd P t E G:=by
 refine ⟨hc, ?_, ?_⟩
 ·intro H enc w fuel cs x hx hw;obtain ⟨xs,n,rfl,rfl,hlen,hxl,hf⟩:=DataW.trod_struct ht hx;obtain ⟨y,hy1,hy2⟩:=h.rd enc w n cs xs (by simpa using hxl) (fun i f hi=>hf i f (by simpa using hi)) fun q hq=>hw q (by
   simp only [DataW.weights,ht];exact hq)
  rw [List.drop_zero,List.take_of_length_le (by rw [hlen,hc];exact Nat.le_refl _)] at hy1;exact ⟨y,hy1,hy2⟩
 ·intro w v hv _;obtain ⟨cs,rfl,_⟩:=okWide_struct ht hv;unfold En.val;rw [ha];simp [Value.cells]
theorem Rd.open {P:Program} {t:TypeId} {α:Type} {E:En α} {G:α→Prop} (hr:Rd P t E G) {H:Type} {enc:TypeId × Value→H} {W:World} {v:Value} {d:DataW H} {p:List MemPlace}
  (hv:Value.okWide P W .any 0 t v) (hd:DataW.Trod enc P W 0 (fun _=>true) true t v d p) (hw:∀n∈d.weights P t,n≤reachBytes):∃y,(Pd.rep E y).p ⟨W,fun _=>False,fun _ h=>h.elim⟩ v∧G y:=by
 obtain ⟨fuel,h⟩:=hd;obtain ⟨y,hy,hg⟩:=hr.rd enc W fuel _ _ h hw;refine ⟨y,⟨v.cells.toList,hr.vl W v hv ⟨y,hy⟩, ?_⟩,hg⟩;exact E.mono (fun b hb=>⟨hb,fun h=>h⟩) hy
theorem Ex.below {s s':St} (h:Ex s s'):Below s.w.heap.size s.w s'.w:=⟨h.mv.os,h.mv.tape,h.mv.output,h.mv.size,fun k hk=>h.mv.blk k hk (fun h=>h)⟩
theorem okWide_any {P:Program} {W:World} {b:Nat} {t:TypeId} {v:Value} (h:Value.okWide P W .any b t v):Value.okWide P W .any 0 t v:=by
 unfold Value.okWide Row.okWide Cell.okWide Cell.ok World.has at *;exact h
section
variable {H : Type} {enc : TypeId × Value → H} {P : Program}
theorem stays {W W':World} (hl:laidOutB P=true) (hb:Below W.heap.size W W') {sp:Nat→Bool}:∀{ts:List TypeId} {vs:List Value} {ds:List (DataW H)} {ps:List MemPlace},
  (ts.all fun t=>P.readableRec t&&decide (t<P.types.size))=true→DataW.TrodAll enc P W 0 (fun _=>true) true ts vs ds ps→(∀p∈ps,p.block<W.heap.size)→(∀p∈ps,sp p.block=true) →
  DataW.TrodAll enc P W' 0 sp true ts vs ds ps
 | [],vs,ds,ps,_,h,_,_=>by
  obtain ⟨rfl,rfl,rfl⟩:=trodAll_nil h;exact trodAll_mk0
 | t::ts,vs,ds,ps,ha,h,hlt,hsp=>by
  obtain ⟨v,vs',d,ds',p,q,rfl,rfl,rfl,h1,h2⟩:=trodAll_cons h;simp only [List.all_cons,Bool.and_eq_true,decide_eq_true_eq] at ha;refine trodAll_cons_mk (WideElems.Trod_stays hl ha.1.1 ha.1.2 h1 (fun x hx=>hb.same (hlt x (List.mem_append_left _ hx))) fun x hx=>hsp x (List.mem_append_left _ hx)) ?_;exact stays hl hb (by simpa using ha.2) h2 (fun x hx=>hlt x (List.mem_append_right _ hx)) fun x hx=>hsp x (List.mem_append_right _ hx)
theorem post_law {f:Func} {s:ChangeSpec} {apart fresh handsOn again:Bool} {W W':World} {args:Array Value} {v:Value} {ds gs:List (DataW H)} {before:List MemPlace} {tb:TypeId}
  (hW:DataW.Whole enc P f.params.toList s.vars apart W args.toList ds gs before) (hb:Below W.heap.size W W') (hl:laidOutB P=true)
  (hrd:(f.params.toList.all fun t=>P.readableRec t&&decide (t<P.types.size))=true) (hs:s.vars=[]) (hrt:f.resultTypes = #[tb]) (hub:P.underlying tb=some .bool) (hv:v = .bool true)
  (hres:(s.fn H (ds++gs)).results=[.lit (.bool true)]) (hargs:(s.fn H (ds++gs)).args=ds) (hvars:(s.fn H (ds++gs)).vars=[]):s.post enc P f apart fresh handsOn again W args v W':=by
 subst hv;have hlt:=hW.lt;have hW':=hW;obtain ⟨p,q,hA,hV,rfl,hz,hn⟩:=hW;rw [hs] at hV;obtain ⟨rfl,rfl⟩:=trodVars_none hV;have hsub:∀x∈p,x∈p++([]:List MemPlace):=fun x hx=>by simpa using hx
 have harg:∀sp:Nat→Bool,(∀x∈p++([]:List MemPlace),sp x.block=true)→DataW.TrodAll enc P W' 0 sp true f.params.toList args.toList (s.fn H (ds++[])).args p:=fun sp hsp=>by
  rw [hargs];exact stays hl hb hrd hA (fun x hx=>hlt x (hsub x hx)) fun x hx=>hsp x (hsub x hx)
 have hvar:∀sp:Nat→Bool,DataW.TrodVars enc P W' sp s.vars (s.fn H (ds++[])).vars []:=fun sp=>by rw [hs,hvars];exact rfl
 have hr:∀(b:Nat) (sp:Nat→Bool) (hd:Bool),DataW.TrodAll enc P W' b sp hd f.resultTypes.toList ((Value.bool true).resultList f.resultTypes.size) (s.fn H (ds++[])).results []:=fun b sp hd=>by
  rw [hres,hrt];exact trodAll_cons_mk (shut_bool hub _) trodAll_mk0
 have hold:∀x∈p++([]:List MemPlace),(fun b=>decide (b<W.heap.size)) x.block=true:=fun x hx=>by simpa using hlt x hx
 refine ⟨ds,[],p++[],[],p,[],hW',hr _ _ _,harg _ hold,hvar _,World.keptBut_mono (fun x hx=>⟨hx, ?_⟩) (hb.frame (·∈p++[])),fun _=>?_⟩
 ·simpa using hx
 ·refine ⟨ok_one hrt rfl (okWide_bool_mk hub _),_,_,([]++p)++[],⟨[]++p,[],trodAll_append (harg _ (fun _ _=>rfl)) (hr _ _ _),hvar _,rfl, ?_, ?_⟩, ?_⟩
  ·intro b off hp;have hp':MemPlace.cell b off∈p++([]:List MemPlace):=by simpa using hp
   rw [hb.frozen (p:=⟨b,off,none⟩) (hlt _ hp')];exact hz b off hp'
  ·intro ha;simpa using hn ha
  ·intro x hx _;simpa using hx
end
end Go.Proofs.YtaknifhhnhcchaaDoor.V
namespace Go.Proofs.YtaknifhhnhcchaaDoor.V
open Go Go.ChangeShapes Go.WideShapes Go.RowKit
set_option linter.unusedVariables false
def lst:List (String × DataW Unit):=[("math/bits.deBruijn32tab",Rows.laid_math_bits_deBruijn32tab),("math/bits.deBruijn64tab",Rows.laid_math_bits_deBruijn64tab),("internal/strconv.uint64pow10",Rows.laid_internal_strconv_uint64pow10),("scantling/heads.readies",Rows.laid_scantling_heads_readies)]
theorem zgi {H:Type} {enc:TypeId × Value→H} {P:Program} {w:World} {base:Nat} {sp:Nat→Bool} {held:Bool} {fuel:Nat} {t e:TypeId} {n:Nat} {cs:List Value} {bs:List Bool} {p:List MemPlace}
  (ht:P.underlying t=some (.array n e)) (he:P.underlying e=some .bool) (hce:P.cellsOf e=1) (hct:P.cellsOf t=n)
  (h:DataW.trod enc P w base sp held fuel t cs=some (.agg (bs.map fun b=>.lit (.bool b)),p)):cs=bs.map Value.bool:=by
 obtain ⟨xs,m,rfl,hx,hl,hn,hf⟩:=DataW.trod_array ht h;have hx1:=congrArg Prod.fst hx;simp only [DataW.agg.injEq] at hx1;have hbl:bs.length=n:=by
  have:=congrArg List.length hx1;simp at this;omega
 apply List.ext_getElem?;intro i
 by_cases hi:i<n
 ·have h1:=hf i hi;rw [hce,Nat.mul_one,List.getElem?_eq_getElem (by omega)] at h1;obtain ⟨b,hc,hb⟩:=DataW.trod_bool he h1;have h2:cs[i]?=some (.bool b):=by
   have:=congrArg (·[0]?) hc;simpa [List.getElem?_take,List.getElem?_drop] using this
  have h3:(bs.map fun b=>(DataW.lit (.bool b):DataW H))[i]?=some (.lit (.bool b)):=by
   rw [hx1,List.getElem?_map,List.getElem?_eq_getElem (by omega),hb];rfl
  rw [List.getElem?_map,Option.map_eq_some_iff] at h3;obtain ⟨b',hb',e⟩:=h3;cases e;rw [h2,List.getElem?_map,hb'];rfl
 ·rw [List.getElem?_eq_none (by omega),List.getElem?_eq_none (by simp;omega)]
def Tabs (W:World):Prop:=Lib.TabIs Tryd.prog W "internal/strconv.uint64pow10" .u64 Lib.pow10Tab∧W.var? Tryd.prog "scantling/heads.readies"=some (gdat0.map Value.bool).toArray
theorem tab_of_laid {W:World} (h:laidMetH Tryd.prog lst W):Tabs W:=by
 have h':laidMet Tryd.prog lst W:=h;unfold lst at h';refine ⟨?_, ?_⟩
 ·have e:(Rows.laid_internal_strconv_uint64pow10:DataW Unit)=Lib.tabData .u64 Lib.pow10Tab:=by kernel_rfl
  have h2:=h'.tail.tail;rw [e] at h2;exact Lib.tabIs_of_head (g:=1) (t:=158) (e:=65) (n:=20) (by kernel_rfl) (by kernel_rfl) Tryd.underlying158 Tryd.underlying65 (by kernel_rfl) (by kernel_rfl) h2
 ·have e:(Rows.laid_scantling_heads_readies:DataW Unit) = .agg (gdat0.map fun b=>.lit (.bool b)):=by kernel_rfl
  have h2:=h'.tail.tail.tail;rw [e] at h2;obtain ⟨ps,⟨g',t',cs,fuel,p,q,hg',ht',hvar,hd,_,_⟩,_⟩:=h2;have hg:Tryd.prog.globalNamed "scantling/heads.readies"=some 0:=by kernel_rfl
  have hty:(Tryd.prog.globals[0]?).map (·.type)=some 98:=by kernel_rfl
  obtain rfl:=Option.some.inj (hg.symm.trans hg');obtain rfl:=Option.some.inj (hty.symm.trans ht');rw [hvar,← zgi Tryd.underlying98 (e:=4) Tryd.underlying4 (by kernel_rfl) (by kernel_rfl) hd]
theorem gl_of_tab {W:World} (h:Tabs W):Gl ⟨W,fun _=>False,fun _ h=>h.elim⟩:=by
 obtain ⟨h1,h2⟩:=h;refine ⟨fun p hp=>?_,fun p hp=>by simp [gmap] at hp⟩;unfold gtab at hp;rcases List.mem_cons.1 hp with rfl | hp
 ·refine ⟨fun h=>h, ?_⟩;unfold Lib.TabIs World.var? at h1;have hg:Tryd.prog.globalNamed "internal/strconv.uint64pow10"=some 1:=by kernel_rfl
  rw [hg] at h1;simp only [Option.bind_some] at h1;split at h1
  ·rename_i cs t fr hc
   refine ⟨t,fr, ?_⟩;show W.heap[1]?=_;rw [hc];simp only [Option.some.injEq] at h1;rw [h1];simp [Lib.pow10Tab]
  ·cases h1
 ·obtain rfl:=List.mem_singleton.1 hp;refine ⟨fun h=>h, ?_⟩;unfold World.var? at h2;have hg:Tryd.prog.globalNamed "scantling/heads.readies"=some 0:=by kernel_rfl
  rw [hg] at h2;simp only [Option.bind_some] at h2;split at h2
  ·rename_i cs t fr hc
   refine ⟨t,fr, ?_⟩;show W.heap[0]?=_;rw [hc];simp only [Option.some.injEq] at h2;rw [h2]
  ·cases h2
def tabCells:DataW Unit→Array Value
 | .agg l=>(l.map fun d=>match d with | .lit (.int k z)=>Value.int k z | .lit (.bool b)=>Value.bool b | _=>undef).toArray
 | _=>#[]
def zhh (d:DataW Unit):Obj→Obj
 | .cells _ t fr=>.cells (tabCells d) t fr
 | o=>o
noncomputable def laidWorld (os:Os):World:=
 let w0:=World.holding Tryd.prog os ⟨#[],#[],[]⟩
 { w0 with heap:=(((w0.heap.modify 0 (zhh Rows.laid_scantling_heads_readies)).modify 1 (zhh Rows.laid_internal_strconv_uint64pow10)).modify 2 (zhh Rows.laid_math_bits_deBruijn32tab)).modify 3 (zhh Rows.laid_math_bits_deBruijn64tab) }
theorem laid_met (os:Os) (args:Array Value):laidMetH Tryd.prog lst ((laidWorld os).forCall (fun _ _=>0) ⟨#[],args,[]⟩).memory:=
 laidMetH_of_parts (laidMet_of_run' 8 (by kernel_rfl) (by kernel_rfl)) (by kernel_rfl)
theorem weigh {H:Type} {P:Program} {ts:List TypeId} {ds:List (DataW H)} (h:(DataW.weightsEach P ts ds).all (·≤reachBytes)=true) (j:Nat) {t:TypeId} {d:DataW H} (ht:ts[j]?=some t) (hd:ds[j]?=some d):∀n∈d.weights P t,n≤reachBytes:=fun n hn=>by
 have:=List.all_eq_true.1 h n (DataW.weights_mem_each ht hd n hn);simpa using this
end Go.Proofs.YtaknifhhnhcchaaDoor.V
