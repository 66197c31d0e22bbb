/-
  The texts that the law's proof needs, part 3.
-/
import Derived.Deep.LoopGhost
import Derived.Laws.AppendOwnNone
import Derived.Lib.Hide
import Derived.Lib.ItoaNum
import Derived.OpenShut
import Derived.Orders
import Derived.Shelf.SlSortCmp.NoneTotal
import Derived.Shelf.SlSortCmp.WholeK
import Derived.WalkKit
import Derived.Test.YtahgmdbioafmbaaGreatDoorSetsPartsP2
namespace Go.Proofs.YtahgmdbioafmbaaGreatDoor.V
open Go
set_option linter.unusedVariables false
def z7.j1 (r_:(List SNode)) (out5:(List SNode)):Prop:=r_=out5
def z7.j2 (L1_:(List SNode)→Int→Prop) (out9:(List SNode)) (i11:Int) (n30:SNode):Prop:=(out9.length+[n30].length≤2147483648)∧(InR .i64 (i11+1))∧L1_ (out9++[n30]) (i11+1)
def z7.j3 (L1_:(List SNode)→Int→Prop) (by_:Int) (out9:(List SNode)) (i11:Int) (n25:SNode):Prop:=((((n25.1==4)||(n25.1==5)))=true→(InR .i64 (n25.2.2.1+by_))∧(z7.j2 (L1_) out9 i11) (n25.1,n25.2.1,n25.2.2.1+by_,n25.2.2.2.1,n25.2.2.2.2.1,n25.2.2.2.2.2.1,n25.2.2.2.2.2.2))∧((((n25.1==4)||(n25.1==5)))=false→(z7.j2 (L1_) out9 i11) n25)
def z7.l1 (l_:(List SNode)) (by_:Int) (X1:(List SNode)→Prop):Nat→(List SNode)→Int→Prop
 | 0,_,_=>False
 | k_0+1,out9,i11=>((decide (i11<(l_.length:Int)))=true→∃e19:SNode,at? l_ i11=some e19∧((decide (4≤e19.1))=true→(InR .i64 (e19.2.1+by_))∧(z7.j3 (z7.l1 l_ by_ X1 k_0) by_ out9 i11) (e19.1,e19.2.1+by_,e19.2.2.1,e19.2.2.2.1,e19.2.2.2.2.1,e19.2.2.2.2.2.1,e19.2.2.2.2.2.2))∧((decide (4≤e19.1))=false→(z7.j3 (z7.l1 l_ by_ X1 k_0) by_ out9 i11) e19))∧((decide (i11<(l_.length:Int)))=false→X1 out9)
def z7 (l_:(List SNode)) (by_:Int) (r_:(List SNode)):Prop:=∃k12,z7.l1 l_ by_ (z7.j1 r_) k12 ([]:(List SNode)) 0
def ref04_Wrap (kind_:Int) (lo_:Int) (hi_:Int) (a_:SDesc) (r_:SDesc):Prop:=∃r6:(List SNode),z7 a_ 0 r6∧(InR .i64 ((a_.length:Int)-1))∧(r6.length+[(kind_,(a_.length:Int)-1,0,lo_,hi_,(0#256),([]:Str))].length≤2147483648)∧r_=r6++[(kind_,(a_.length:Int)-1,0,lo_,hi_,(0#256),([]:Str))]
def zct.j1 (d_:SDesc) (r_:Bool) (n5:Int):Prop:=∃b8:Bool,b8=((decide ((d_.length:Int)≤100))&&(decide (n5≤2000)))∧r_=b8
def zct.l1 (d_:SDesc) (X1:Int→Prop):Nat→Int→Int→Prop
 | 0,_,_=>False
 | k_0+1,n10,i11=>∃b17:Bool,b17=((decide (i11<(d_.length:Int)))&&(decide (i11<200)))∧((b17)=true→∃e20:SNode,at? d_ i11=some e20∧(InR .i64 (n10+(e20.2.2.2.2.2.2.length:Int)))∧(InR .i64 (i11+1))∧zct.l1 d_ X1 k_0 (n10+(e20.2.2.2.2.2.2.length:Int)) (i11+1))∧((b17)=false→X1 n10)
def zct (d_:SDesc) (r_:Bool):Prop:=∃k12,zct.l1 d_ (zct.j1 d_ r_) k12 0 0
def zcb.j1 (s_:Str) (r_:Bool):Prop:=∃r6:Bool,(((decide (0<(s_.length:Int)))=true)→zbf s_ r6)∧r_=((decide (0<(s_.length:Int)))&&r6)
def zcb.l1 (s_:Str) (r_:Bool) (X1:Prop):Nat→Int→Prop
 | 0,_=>False
 | k_0+1,i8=>((decide (i8<(s_.length:Int)))=true→∃c16:Int,byte? s_ i8=some c16∧(((c16==34))=true→r_=false)∧(((c16==34))=false→(InR .i64 (i8+1))∧zcb.l1 s_ r_ X1 k_0 (i8+1)))∧((decide (i8<(s_.length:Int)))=false→X1)
def zcb (s_:Str) (r_:Bool):Prop:=∃k9,zcb.l1 s_ r_ (zcb.j1 s_ r_) k9 0
def zx.j1 (n_:(List SNode)→Int→Int→Prop) (l_:(List SNode)) (i_:Int) (r_:Int) (e6:SNode) (want48:SNode):Prop:=(InR .i64 (i_-1))∧∃r52:Int,n_ l_ (i_-1) r52∧(((e6 != want48))=true→r_=(-1))∧(((e6 != want48))=false→r_=r52)
def zx.j2 (n_:(List SNode)→Int→Int→Prop) (l_:(List SNode)) (i_:Int) (r_:Int) (e6:SNode) (v66:Bool):Prop:=((v66)=true→(InR .i64 (i_-1))∧(InR .i64 (i_-1))∧∃r73:Int,n_ l_ (i_-1) r73∧((decide (r73<0))=true→r_=(-1))∧((decide (r73<0))=false→(InR .i64 (r73-1))∧(InR .i64 (r73-1))∧∃r81:Int,n_ l_ (r73-1) r81∧∃b85:Bool,b85=(e6 != (e6.1,r73-1,i_-1,0,0,(0#256),([]:Str)))∧((b85)=true→r_=(-1))∧((b85)=false→r_=r81)))∧((v66)=false→r_=(-1))
def zx.j3 (n_:(List SNode)→Int→Int→Prop) (l_:(List SNode)) (i_:Int) (r_:Int) (e6:SNode) (v41:Bool):Prop:=((v41)=true→(InR .i64 (i_-1))∧(((e6.1==7))=true→∃b61:Bool,b61=((decide (e6.2.2.2.1<0))||(decide (e6.2.2.2.2.1<e6.2.2.2.1)))∧(((b61||(decide (255<e6.2.2.2.2.1))))=true→r_=(-1))∧(((b61||(decide (255<e6.2.2.2.2.1))))=false→(zx.j1 (n_) l_ i_ r_ e6) (e6.1,i_-1,0,e6.2.2.2.1,e6.2.2.2.2.1,(0#256),([]:Str))))∧(((e6.1==7))=false→(zx.j1 (n_) l_ i_ r_ e6) (e6.1,i_-1,0,0,0,(0#256),([]:Str))))∧((v41)=false→(((e6.1==4))=true→(zx.j2 (n_) l_ i_ r_ e6) (e6.1==4))∧(((e6.1==4))=false→(zx.j2 (n_) l_ i_ r_ e6) (e6.1==5)))
def zx.n:Nat→(List SNode)→Int→Int→Prop
 | 0,_,_,_=>False
 | k_+1,l_,i_,r_=>((decide (i_<0))=true→r_=(-1))∧((decide (i_<0))=false→∃e6:SNode,at? l_ i_=some e6∧(((e6.1==1))=true→(((e6 != (e6.1,0,0,0,0,(0#256),([]:Str))))=true→r_=(-1))∧(((e6 != (e6.1,0,0,0,0,(0#256),([]:Str))))=false→r_=i_))∧(((e6.1==1))=false→(((e6.1==2))=true→∃b23:Bool,b23=(e6 != (e6.1,0,0,0,0,e6.2.2.2.2.2.1,([]:Str)))∧((b23)=true→r_=(-1))∧((b23)=false→r_=i_))∧(((e6.1==2))=false→(((e6.1==3))=true→∃r30:Bool,zcb e6.2.2.2.2.2.2 r30∧(((!r30))=true→r_=(-1))∧(((!r30))=false→∃b35:Bool,b35=(e6 != (e6.1,0,0,0,0,(0#256),e6.2.2.2.2.2.2))∧((b35)=true→r_=(-1))∧((b35)=false→r_=i_)))∧(((e6.1==3))=false→(((e6.1==6))=true→(zx.j3 (zx.n k_) l_ i_ r_ e6) (e6.1==6))∧(((e6.1==6))=false→(((e6.1==7))=true→(zx.j3 (zx.n k_) l_ i_ r_ e6) (e6.1==7))∧(((e6.1==7))=false→(((e6.1==8))=true→(zx.j3 (zx.n k_) l_ i_ r_ e6) (e6.1==8))∧(((e6.1==8))=false→(zx.j3 (zx.n k_) l_ i_ r_ e6) (e6.1==9))))))))
def zx (l_:(List SNode)) (i_:Int) (r_:Int):Prop:=∃k_,zx.n k_ l_ i_ r_
def ref04_Form (d_:SDesc) (r_:Bool):Prop:=(((decide (0<(d_.length:Int)))=true)→InR .i64 ((d_.length:Int)-1))∧∃r4:Int,(((decide (0<(d_.length:Int)))=true)→zx d_ ((d_.length:Int)-1) r4)∧r_=((decide (0<(d_.length:Int)))&&(r4==0))
end Go.Proofs.YtahgmdbioafmbaaGreatDoor.V
namespace Go.Proofs.YtahgmdbioafmbaaGreatDoor.V
open Go
set_option linter.unusedVariables false
set_option maxRecDepth 100000
theorem ref04_moved_ok {l_:(List SNode)} {by_:Int} {r_:(List SNode)} (h:z7 l_ by_ r_):Fn Tryz.prog 84 [(Pd.rep (En.slice En.SNode) l_),(Pd.rep (En.int .i64) by_)] (Ro En.SNode 68 r_):=by
 unfold z7 at h
 refine fn_of Tryz.func84 rfl Tryz.ntmps84 (by rfl) (by simp) fun s0 a hL=>?_
 refine wp_seq_k fun K1 hK1=>rg (sx 4 (zd (o_nil (E:=En.SNode) (N:=s0.w.heap.size) (te:=68)) rfl rfl) hL fun a s e_ hL=>?_)
 refine en' (hK1 _ _ ?_)
 refine wp_seq_k fun K2 hK2=>rg (sx 5 (zd (o_nil (E:=En.SNode) (N:=s0.w.heap.size) (te:=68)) rfl rfl) hL fun a s e_ hL=>?_)
 refine en' (hK2 _ _ ?_)
 refine wp_seq_k fun K3 hK3=>wp_seq_k fun K4 hK4=>rg (sx 6 (zd (o_i (k:=.i64) (by decide)) rfl rfl) hL fun a s e_ hL=>?_)
 refine en' (hK4 _ _ ?_)
 refine wp_block ?_
 have J7:∀(out5:(List SNode)) (og6:Option Nat) (a:Act) (s:St),Has N0 44 s0 a s [(5,(Pd.row En.SNode s0.w.heap.size 68 og6 out5))]→((z7.j1 r_) out5)→K3 a s.w:=by
  intro out5 og6 a s hL h
  unfold z7.j1 at h
  show K3 a s.w
  refine hK3 _ _ (wp_seq_k fun K8 hK8=>?_)
  refine rg (sx 43 (zb (o_t 5 rfl) rfl rfl) hL fun a s e_ hL=>?_)
  refine sx 4 (zd (o_t 43 rfl) rfl rfl) hL fun a s e_ hL=>en' (hK8 _ _ ?_)
  subst h
  exact wp_ret (reto rfl hL rfl)
 obtain ⟨k12,h⟩:=h
 refine lpg (fun k13 a s=>∃(out9:(List SNode)) (i11:Int) (og10:Option Nat),Has N0 44 s0 a s [(0,(Pd.rep (En.slice En.SNode) l_)),(1,(Pd.rep (En.int .i64) by_)),(5,(Pd.row En.SNode s0.w.heap.size 68 og10 out9)),(6,(Pd.rep (En.int .i64) i11))]∧z7.l1 l_ by_ (z7.j1 r_) k13 out9 i11) k12 ⟨([]:(List SNode)),0,none,hL.keep (.cons (t:=0) rfl nE (.cons (t:=1) rfl nE (.cons (t:=5) rfl (fun _ _ h_=>h_) (.cons (t:=6) rfl nE .nil)))),h⟩ ?_
 rintro k13 a s ⟨out9,i11,og10,hL,h⟩ KL14 hKL14
 cases k13 with
 | zero=>exact h.elim
 | succ k13=>
 unfold z7.l1 at h
 refine wp_seq_k fun K15 hK15=>wp_seq_k fun K16 hK16=>rg (sx 8 (zb (o_t 6 rfl) rfl rfl) hL fun a s e_ hL=>?_)
 refine sx 9 (zb (o_t 0 rfl) rfl rfl) hL fun a s e_ hL=>sx 10 (t_len (o_t 9 rfl) Tryz.underlying22 rfl rfl) hL fun a s e_ hL=>sx 11 (t_lss (o_t 8 rfl) (o_t 10 rfl) rfl rfl) hL fun a s e_ hL=>en' (hK16 _ _ ?_)
 refine cnd hL rfl (fun hb_=>?_) (fun hb_=>?_)
 ·replace h:=h.1 hb_
  refine wp_skip ?_
  show K15 a s.w
  refine hK15 _ _ (wp_seq_k fun K17 hK17=>?_)
  refine wp_block (wp_seq_k fun K18 hK18=>?_)
  obtain ⟨e19,h20,h⟩:=h
  refine rg (sx 14 (zb (o_t 0 rfl) rfl rfl) hL fun a s e_ hL=>?_)
  refine sx 15 (zb (o_t 6 rfl) rfl rfl) hL fun a s e_ hL=>sx 16 (t_idx (o_t 14 rfl) (o_t 15 rfl) h20 Tryz.underlying22 ty68 rfl rfl) hL fun a s e_ hL=>sx 17 (zp ty68 (o_t 16 rfl) rfl rfl) hL fun a s e_ hL=>?_
  have lt_d22:=hL.rlt 5 rfl
  refine zbc En.SNode (z:=(0,0,0,0,0,(0#256),([]:Str))) 7 hL tyz68 rfl rfl rfl rfl fun a s g21 hg_ hL=>?_
  have d22:Dis (some g21) og10:=Dis.newg hg_ lt_d22
  refine zb6 (L':=[(0,(Pd.rep (En.slice En.SNode) l_)),(1,(Pd.rep (En.int .i64) by_)),(5,(Pd.row En.SNode s0.w.heap.size 68 og10 out9)),(6,(Pd.rep (En.int .i64) i11))]) 7 hL rfl (o_t 17 rfl) ty68 rfl rfl rfl (.cons (t:=0) rfl nE (.cons (t:=1) rfl nE (.cons (t:=5) rfl (Dis.ow (Dis.symm d22)) (.cons (t:=6) rfl nE .nil)))) fun s hL=>?_
  refine en' (hK18 _ _ ?_)
  refine wp_seq_k fun K23 hK23=>wp_seq_k fun K24 hK24=>rg (sx 18 (t_fab (off:=0) (o_t 7 rfl) Tryz.underlying68 rfl (zo (zj _ _)) rfl ty3 rfl rfl) hL fun a s e_ hL=>?_)
  refine sx 19 (zu ty3 (o_t 18 rfl) rfl rfl) hL fun a s e_ hL=>sx 20 (t_geq (o_t 19 rfl) (o_i (k:=.i64) (by decide)) rfl rfl) hL fun a s e_ hL=>en' (hK24 _ _ ?_)
  have J26:∀(n25:SNode) (a:Act) (s:St),Has N0 44 s0 a s [(0,(Pd.rep (En.slice En.SNode) l_)),(1,(Pd.rep (En.int .i64) by_)),(5,(Pd.row En.SNode s0.w.heap.size 68 og10 out9)),(6,(Pd.rep (En.int .i64) i11)),(7,(Pd.box En.SNode s0.w.heap.size g21 n25))]→Dis og10 (some g21)→((z7.j3 (z7.l1 l_ by_ (z7.j1 r_) k13) by_ out9 i11) n25)→K23 a s.w:=by
   intro n25 a s hL d27 h
   unfold z7.j3 at h
   show K23 a s.w
   refine hK23 _ _ (wp_seq_k fun K28 hK28=>?_)
   refine wp_seq_k fun K29 hK29=>rg (sx 26 (t_fab (off:=0) (o_t 7 rfl) Tryz.underlying68 rfl (zo (zj _ _)) rfl ty3 rfl rfl) hL fun a s e_ hL=>?_)
   refine sx 27 (zu ty3 (o_t 26 rfl) rfl rfl) hL fun a s e_ hL=>sx 28 (t_eqi (o_t 27 rfl) (o_i (k:=.i64) (by decide)) rfl rfl) hL fun a s e_ hL=>sx 29 (zb (o_t 28 rfl) rfl rfl) hL fun a s e_ hL=>sx 30 (t_g1 rfl rfl rfl (fun hc_=>t_fab (off:=0) (o_t 7 rfl) Tryz.underlying68 rfl (zo (zj _ _)) rfl ty3 rfl rfl)) hL fun a s e_ hL=>sx 31 (t_g1 rfl rfl rfl (fun hc_=>zu ty3 (o_w hc_ 30 rfl) rfl rfl)) hL fun a s e_ hL=>sx 32 (t_g1 rfl rfl rfl (fun hc_=>t_eqi (o_w hc_ 31 rfl) (o_i (k:=.i64) (by decide)) rfl rfl)) hL fun a s e_ hL=>sx 33 (t_or (o_t 29 rfl) (fun hc2_=>(o_w hc2_ 32 rfl)) rfl rfl) hL fun a s e_ hL=>en' (hK29 _ _ ?_)
   have J31:∀(n30:SNode) (a:Act) (s:St),Has N0 44 s0 a s [(0,(Pd.rep (En.slice En.SNode) l_)),(1,(Pd.rep (En.int .i64) by_)),(5,(Pd.row En.SNode s0.w.heap.size 68 og10 out9)),(6,(Pd.rep (En.int .i64) i11)),(7,(Pd.box En.SNode s0.w.heap.size g21 n30))]→Dis og10 (some g21)→((z7.j2 (z7.l1 l_ by_ (z7.j1 r_) k13) out9 i11) n30)→K28 a s.w:=by
    intro n30 a s hL d32 h
    unfold z7.j2 at h
    show K28 a s.w
    refine hK28 _ _ ?_
    obtain ⟨h33,h⟩:=h
    refine rg (sx 39 (zb (o_t 5 rfl) rfl rfl) hL fun a s e_ hL=>?_)
    refine sx 40 (zbg ty68 (o_t 7 rfl) rfl rfl) hL fun a s e_ hL=>sx 41 (t_lit (xs:=[.tmp 40]) (.cons (o_t 40 rfl) .nil) Tryz.underlying22 ty68 rfl rfl (by decide) rfl rfl) hL fun a s e_ hL=>st_app (L':=[(0,(Pd.rep (En.slice En.SNode) l_)),(1,(Pd.rep (En.int .i64) by_)),(6,(Pd.rep (En.int .i64) i11))]) 42 hL (o_t 39 rfl) (o_t 41 rfl) Tryz.underlying22 ty68 h33 rfl rfl rfl rfl (.cons (t:=0) rfl nE (.cons (t:=1) rfl nE (.cons (t:=6) rfl nE .nil))) fun a s og34 hg_ hL=>?_
    refine sx 5 (zd (o_t 42 rfl) rfl rfl) hL fun a s e_ hL=>en' (hK17 _ _ ?_)
    obtain ⟨h35,h⟩:=h
    refine rg (sx 12 (zb (o_t 6 rfl) rfl rfl) hL fun a s e_ hL=>?_)
    refine sx 13 (t_add (o_t 12 rfl) (o_i (k:=.i64) (by decide)) h35 rfl rfl) hL fun a s e_ hL=>sx 6 (zd (o_t 13 rfl) rfl rfl) hL fun a s e_ hL=>en' ?_
    exact hKL14 k13 a s (Nat.lt_succ_self _) ⟨(out9++[n30]),(i11+1),og34,hL.keep (.cons (t:=0) rfl nE (.cons (t:=1) rfl nE (.cons (t:=5) rfl (fun _ _ h_=>h_) (.cons (t:=6) rfl nE .nil)))),h⟩
   refine cnd hL rfl (fun hb_=>?_) (fun hb_=>?_)
   ·replace h:=h.1 hb_
    obtain ⟨h36,h⟩:=h
    refine rg (sx 34 (t_fab (off:=2) (o_t 7 rfl) Tryz.underlying68 rfl (zg (zg (zo (zj _ _)) rfl) rfl) rfl ty3 rfl rfl) hL fun a s e_ hL=>?_)
    refine sx 35 (zu ty3 (o_t 34 rfl) rfl rfl) hL fun a s e_ hL=>sx 36 (zb (o_t 1 rfl) rfl rfl) hL fun a s e_ hL=>sx 37 (t_add (o_t 35 rfl) (o_t 36 rfl) h36 rfl rfl) hL fun a s e_ hL=>sx 38 (t_fab (off:=2) (o_t 7 rfl) Tryz.underlying68 rfl (zg (zg (zo (zj _ _)) rfl) rfl) rfl ty3 rfl rfl) hL fun a s e_ hL=>zdk (L':=[(0,(Pd.rep (En.slice En.SNode) l_)),(1,(Pd.rep (En.int .i64) by_)),(5,(Pd.row En.SNode s0.w.heap.size 68 og10 out9)),(6,(Pd.rep (En.int .i64) i11))]) 7 hL rfl (o_t 38 rfl) (o_t 37 rfl) (z6 (z6 (zbj (z8 _ _ _)) rfl) rfl) ty3 rfl rfl rfl (.cons (t:=0) rfl nE (.cons (t:=1) rfl nE (.cons (t:=5) rfl (Dis.ow d27) (.cons (t:=6) rfl nE .nil)))) fun s hL=>?_
    refine en' ?_
    exact J31 (n25.1,n25.2.1,n25.2.2.1+by_,n25.2.2.2.1,n25.2.2.2.2.1,n25.2.2.2.2.2.1,n25.2.2.2.2.2.2) a s (hL.keep (.cons (t:=0) rfl nE (.cons (t:=1) rfl nE (.cons (t:=5) rfl (fun _ _ h_=>h_) (.cons (t:=6) rfl nE (.cons (t:=7) rfl (fun _ _ h_=>h_) .nil)))))) d27 h
   ·replace h:=h.2 hb_
    refine wp_skip ?_
    exact J31 n25 a s (hL.keep (.cons (t:=0) rfl nE (.cons (t:=1) rfl nE (.cons (t:=5) rfl (fun _ _ h_=>h_) (.cons (t:=6) rfl nE (.cons (t:=7) rfl (fun _ _ h_=>h_) .nil)))))) d27 h
  refine cnd hL rfl (fun hb_=>?_) (fun hb_=>?_)
  ·replace h:=h.1 hb_
   obtain ⟨h37,h⟩:=h
   refine rg (sx 21 (t_fab (off:=1) (o_t 7 rfl) Tryz.underlying68 rfl (zg (zo (zj _ _)) rfl) rfl ty3 rfl rfl) hL fun a s e_ hL=>?_)
   refine sx 22 (zu ty3 (o_t 21 rfl) rfl rfl) hL fun a s e_ hL=>sx 23 (zb (o_t 1 rfl) rfl rfl) hL fun a s e_ hL=>sx 24 (t_add (o_t 22 rfl) (o_t 23 rfl) h37 rfl rfl) hL fun a s e_ hL=>sx 25 (t_fab (off:=1) (o_t 7 rfl) Tryz.underlying68 rfl (zg (zo (zj _ _)) rfl) rfl ty3 rfl rfl) hL fun a s e_ hL=>zdk (L':=[(0,(Pd.rep (En.slice En.SNode) l_)),(1,(Pd.rep (En.int .i64) by_)),(5,(Pd.row En.SNode s0.w.heap.size 68 og10 out9)),(6,(Pd.rep (En.int .i64) i11))]) 7 hL rfl (o_t 25 rfl) (o_t 24 rfl) (z6 (zbj (z8 _ _ _)) rfl) ty3 rfl rfl rfl (.cons (t:=0) rfl nE (.cons (t:=1) rfl nE (.cons (t:=5) rfl (Dis.ow (Dis.symm d22)) (.cons (t:=6) rfl nE .nil)))) fun s hL=>?_
   refine en' ?_
   exact J26 (e19.1,e19.2.1+by_,e19.2.2.1,e19.2.2.2.1,e19.2.2.2.2.1,e19.2.2.2.2.2.1,e19.2.2.2.2.2.2) a s (hL.keep (.cons (t:=0) rfl nE (.cons (t:=1) rfl nE (.cons (t:=5) rfl (fun _ _ h_=>h_) (.cons (t:=6) rfl nE (.cons (t:=7) rfl (fun _ _ h_=>h_) .nil)))))) (Dis.symm d22) h
  ·replace h:=h.2 hb_
   refine wp_skip ?_
   exact J26 e19 a s (hL.keep (.cons (t:=0) rfl nE (.cons (t:=1) rfl nE (.cons (t:=5) rfl (fun _ _ h_=>h_) (.cons (t:=6) rfl nE (.cons (t:=7) rfl (fun _ _ h_=>h_) .nil)))))) (Dis.symm d22) h
 ·replace h:=h.2 hb_
  refine wp_exit ?_
  exact J7 out9 og10 a s (hL.keep (.cons (t:=5) rfl (fun _ _ h_=>h_) .nil)) h
theorem ref04_Wrap_ok {kind_:Int} {lo_:Int} {hi_:Int} {a_:SDesc} {r_:SDesc} (h:ref04_Wrap kind_ lo_ hi_ a_ r_):Fn Tryz.prog 48 [(Pd.rep (En.int .i64) kind_),(Pd.rep (En.int .i64) lo_),(Pd.rep (En.int .i64) hi_),(Pd.rep En.SDesc a_)] (Rq (Pd.rep En.SDesc r_)):=by
 unfold ref04_Wrap at h
 refine fn_of Tryz.func48 rfl Tryz.ntmps48 (by rfl) (by simp) fun s0 a hL=>?_
 refine wp_seq_k fun K1 hK1=>rg (sx 7 (t_box (o_t 3 rfl) rfl rfl) hL fun a s e_ hL=>?_)
 refine zbc En.SDesc (z:=[]) 8 hL tyz24 rfl rfl rfl rfl fun a s g2 hg_ hL=>?_
 refine en' (hK1 _ _ ?_)
 refine wp_seq_k fun K3 hK3=>?_
 obtain ⟨r6,h7,h8,h11,h⟩:=h
 obtain ⟨K4,hK4,nK4,hL⟩:=hL.mark 999983
 have lt5:∀k,(some g2)=some k→k<K4:=by rw [hK4];exact hL.blt 8 rfl
 refine rda zbq 12 [(Pd.ptr (En.slice En.SNode) a_),(Pd.rep (En.slice En.SNode) a_),(Pd.erow En.SNode s0.w.heap.size K4 68 r6),(Pd.rep (En.int .i64) kind_),(Pd.ptr (En.slice En.SNode) a_),(Pd.rep (En.slice En.SNode) a_),(Pd.rep (En.int .i64) (a_.length:Int)),(Pd.rep (En.int .i64) ((a_.length:Int)-1)),(Pd.rep (En.int .i64) lo_),(Pd.rep (En.int .i64) hi_),(Pd.rep En.SNode (kind_,(a_.length:Int)-1,0,lo_,hi_,(0#256),([]:Str))),(Pd.rep (En.slice En.SNode) [(kind_,(a_.length:Int)-1,0,lo_,hi_,(0#256),([]:Str))])] hL (by kernel_rfl) rfl rfl ?_ ?_
 ·refine AllT.cons (t_fa (off:=0) (o_t 7 rfl) Tryz.underlying24 rfl (zcm (zj _ _)) rfl ty22 rfl rfl) ?_
  refine AllT.cons (zp ty22 (o_t 9 rfl) rfl rfl) (AllT.cons (t_callox (K:=K4) (m:=999983) rfl nK4 (ref04_moved_ok h7) (xs:=[.tmp 10,.const (.int .i64 0)]) (.cons (o_t 10 rfl) (.cons (o_i (k:=.i64) (by decide)) .nil)) rfl rfl) ?_)
  refine AllT.cons (zb (o_t 0 rfl) rfl rfl) (AllT.cons (t_fa (off:=0) (o_t 7 rfl) Tryz.underlying24 rfl (zcm (zj _ _)) rfl ty22 rfl rfl) ?_)
  refine AllT.cons (zp ty22 (o_t 13 rfl) rfl rfl) (AllT.cons (t_len (o_t 14 rfl) Tryz.underlying22 rfl rfl) ?_)
  refine AllT.cons (t_sub (o_t 15 rfl) (o_i (k:=.i64) (by decide)) h8 rfl rfl) (AllT.cons (zb (o_t 1 rfl) rfl rfl) ?_)
  refine AllT.cons (zb (o_t 2 rfl) rfl rfl) (AllT.cons (zdi (x:=(kind_,(a_.length:Int)-1,0,lo_,hi_,(0#256),([]:Str))) (ps:=[(0,.tmp 12),(1,.tmp 16),(3,.tmp 17),(4,.tmp 18)]) tyz68 rfl stt68 (.cons (i:=0) (o_t 12 rfl) rfl (zbj (z8 _ _ _)) (.cons (i:=1) (o_t 16 rfl) rfl (z6 (zbj (z8 _ _ _)) rfl) (.cons (i:=3) (o_t 17 rfl) rfl (z6 (z6 (z6 (zbj (z8 _ _ _)) rfl) rfl) rfl) (.cons (i:=4) (o_t 18 rfl) rfl (z6 (z6 (z6 (z6 (zbj (z8 _ _ _)) rfl) rfl) rfl) rfl) .nil)))) rfl rfl) ?_)
  refine AllT.cons (t_lit (xs:=[.tmp 19]) (.cons (o_t 19 rfl) .nil) Tryz.underlying22 ty68 rfl rfl (by decide) rfl rfl) ?_
  exact AllT.nil
 intro a s e_ hL
 obtain ⟨og9,hg_,hL⟩:=hL.openr 11 rfl
 have d10:Dis og9 (some g2):=Dis.new hg_ lt5
 have lt_og12_0:=hL.blt 8 rfl
 refine st_app (L':=[(8,(Pd.box En.SDesc s0.w.heap.size g2 []))]) 21 hL (o_t 11 rfl) (o_t 20 rfl) Tryz.underlying22 ty68 h11 rfl rfl rfl rfl (.cons (t:=8) rfl (Dis.bx (Dis.symm d10)) .nil) fun a s og12 hg_ hL=>?_
 have d13:Dis og12 (some g2):=Dis.app hg_ d10 lt_og12_0
 obtain ⟨s15,h14,hL⟩:=hL.freeze (L':=[(8,(Pd.box En.SDesc s0.w.heap.size g2 []))]) 21 rfl (.cons (t:=8) rfl (Dis.bx (Dis.symm d13)) .nil)
 rw [← h14]
 clear h14
 generalize s15=s at *
 refine sx 22 (zdi (x:=r6++[(kind_,(a_.length:Int)-1,0,lo_,hi_,(0#256),([]:Str))]) (ps:=[(0,.tmp 21)]) tyz24 rfl stt24 (.cons (i:=0) (o_t 21 rfl) rfl (sub_solo (z8 _ _ _)) .nil) rfl rfl) hL fun a s e_ hL=>zb6 (L':=[]) 8 hL rfl (o_t 22 rfl) ty24 rfl rfl rfl .nil fun s hL=>?_
 refine en' (hK3 _ _ ?_)
 subst h
 exact wp_ret (retb rfl ty24 hL rfl)
theorem ref04_Few_ok {d_:SDesc} {r_:Bool} (h:zct d_ r_):Fn Tryz.prog 13 [(Pd.rep En.SDesc d_)] (Rq (Pd.rep En.bool r_)):=by
 unfold zct at h
 refine fn_of Tryz.func13 rfl Tryz.ntmps13 (by rfl) (by simp) fun s0 a hL=>?_
 refine wp_seq_k fun K1 hK1=>rg (sx 1 (t_box (o_t 0 rfl) rfl rfl) hL fun a s e_ hL=>?_)
 refine sx 2 (zd o_b rfl rfl) hL fun a s e_ hL=>en' (hK1 _ _ ?_)
 refine wp_seq_k fun K2 hK2=>rg (sx 3 (zd (o_i (k:=.i64) (by decide)) rfl rfl) hL fun a s e_ hL=>?_)
 refine en' (hK2 _ _ ?_)
 refine wp_seq_k fun K3 hK3=>wp_seq_k fun K4 hK4=>rg (sx 4 (zd (o_i (k:=.i64) (by decide)) rfl rfl) hL fun a s e_ hL=>?_)
 refine en' (hK4 _ _ ?_)
 refine wp_block ?_
 have J6:∀(n5:Int) (a:Act) (s:St),Has N0 33 s0 a s [(1,(Pd.ptr En.SDesc d_)),(3,(Pd.rep (En.int .i64) n5))]→((zct.j1 d_ r_) n5)→K3 a s.w:=by
  intro n5 a s hL h
  unfold zct.j1 at h
  show K3 a s.w
  refine hK3 _ _ (wp_seq_k fun K7 hK7=>?_)
  obtain ⟨b8,h9,h⟩:=h
  refine rg (sx 25 (t_fa (off:=0) (o_t 1 rfl) Tryz.underlying24 rfl (zcm (zj _ _)) rfl ty22 rfl rfl) hL fun a s e_ hL=>?_)
  refine sx 26 (zp ty22 (o_t 25 rfl) rfl rfl) hL fun a s e_ hL=>sx 27 (t_len (o_t 26 rfl) Tryz.underlying22 rfl rfl) hL fun a s e_ hL=>sx 28 (t_leq (o_t 27 rfl) (o_i (k:=.i64) (by decide)) rfl rfl) hL fun a s e_ hL=>sx 29 (zb (o_t 28 rfl) rfl rfl) hL fun a s e_ hL=>sx 30 (t_g1 rfl rfl rfl (fun hc_=>zb (o_t 3 rfl) rfl rfl)) hL fun a s e_ hL=>sx 31 (t_g1 rfl rfl rfl (fun hc_=>t_leq (o_w hc_ 30 rfl) (o_i (k:=.i64) (by decide)) rfl rfl)) hL fun a s e_ hL=>sx 32 (h9 ▸ (t_and (o_t 29 rfl) (fun hc2_=>(o_w hc2_ 31 rfl)) rfl rfl)) hL fun a s e_ hL=>sx 2 (zd (o_t 32 rfl) rfl rfl) hL fun a s e_ hL=>en' (hK7 _ _ ?_)
  subst h
  exact wp_ret (retq rfl hL rfl)
 obtain ⟨k12,h⟩:=h
 refine lpg (fun k13 a s=>∃(n10:Int) (i11:Int),Has N0 33 s0 a s [(1,(Pd.ptr En.SDesc d_)),(3,(Pd.rep (En.int .i64) n10)),(4,(Pd.rep (En.int .i64) i11))]∧zct.l1 d_ (zct.j1 d_ r_) k13 n10 i11) k12 ⟨0,0,hL.keep (.cons (t:=1) rfl nE (.cons (t:=3) rfl nE (.cons (t:=4) rfl nE .nil))),h⟩ ?_
 rintro k13 a s ⟨n10,i11,hL,h⟩ KL14 hKL14
 cases k13 with
 | zero=>exact h.elim
 | succ k13=>
 unfold zct.l1 at h
 refine wp_seq_k fun K15 hK15=>wp_seq_k fun K16 hK16=>?_
 obtain ⟨b17,h18,h⟩:=h
 refine rg (sx 5 (zb (o_t 4 rfl) rfl rfl) hL fun a s e_ hL=>?_)
 refine sx 6 (t_fa (off:=0) (o_t 1 rfl) Tryz.underlying24 rfl (zcm (zj _ _)) rfl ty22 rfl rfl) hL fun a s e_ hL=>sx 7 (zp ty22 (o_t 6 rfl) rfl rfl) hL fun a s e_ hL=>sx 8 (t_len (o_t 7 rfl) Tryz.underlying22 rfl rfl) hL fun a s e_ hL=>sx 9 (t_lss (o_t 5 rfl) (o_t 8 rfl) rfl rfl) hL fun a s e_ hL=>sx 10 (zb (o_t 9 rfl) rfl rfl) hL fun a s e_ hL=>sx 11 (t_g1 rfl rfl rfl (fun hc_=>zb (o_t 4 rfl) rfl rfl)) hL fun a s e_ hL=>sx 12 (t_g1 rfl rfl rfl (fun hc_=>t_lss (o_w hc_ 11 rfl) (o_i (k:=.i64) (by decide)) rfl rfl)) hL fun a s e_ hL=>sx 13 (h18 ▸ (t_and (o_t 10 rfl) (fun hc2_=>(o_w hc2_ 12 rfl)) rfl rfl)) hL fun a s e_ hL=>en' (hK16 _ _ ?_)
 refine cnd hL rfl (fun hb_=>?_) (fun hb_=>?_)
 ·replace h:=h.1 hb_
  refine wp_skip ?_
  show K15 a s.w
  refine hK15 _ _ (wp_seq_k fun K19 hK19=>?_)
  refine wp_block ?_
  obtain ⟨e20,h21,h22,h⟩:=h
  refine rg (sx 16 (zb (o_t 3 rfl) rfl rfl) hL fun a s e_ hL=>?_)
  refine sx 17 (t_fa (off:=0) (o_t 1 rfl) Tryz.underlying24 rfl (zcm (zj _ _)) rfl ty22 rfl rfl) hL fun a s e_ hL=>sx 18 (zp ty22 (o_t 17 rfl) rfl rfl) hL fun a s e_ hL=>sx 19 (zb (o_t 4 rfl) rfl rfl) hL fun a s e_ hL=>sx 20 (t_idx (o_t 18 rfl) (o_t 19 rfl) h21 Tryz.underlying22 ty68 rfl rfl) hL fun a s e_ hL=>sx 21 (t_fa (off:=9) (o_t 20 rfl) Tryz.underlying68 rfl (zg (zg (zg (zg (zg (zg (zj _ _) rfl) rfl) rfl) rfl) rfl) rfl) rfl ty9 rfl rfl) hL fun a s e_ hL=>sx 22 (zp ty9 (o_t 21 rfl) rfl rfl) hL fun a s e_ hL=>sx 23 (t_slen (o_t 22 rfl) Tryz.underlying9 rfl rfl) hL fun a s e_ hL=>sx 24 (t_add (o_t 16 rfl) (o_t 23 rfl) h22 rfl rfl) hL fun a s e_ hL=>sx 3 (zd (o_t 24 rfl) rfl rfl) hL fun a s e_ hL=>?_
  refine en' (hK19 _ _ ?_)
  obtain ⟨h23,h⟩:=h
  refine rg (sx 14 (zb (o_t 4 rfl) rfl rfl) hL fun a s e_ hL=>?_)
  refine sx 15 (t_add (o_t 14 rfl) (o_i (k:=.i64) (by decide)) h23 rfl rfl) hL fun a s e_ hL=>sx 4 (zd (o_t 15 rfl) rfl rfl) hL fun a s e_ hL=>en' ?_
  exact hKL14 k13 a s (Nat.lt_succ_self _) ⟨(n10+(e20.2.2.2.2.2.2.length:Int)),(i11+1),hL.keep (.cons (t:=1) rfl nE (.cons (t:=3) rfl nE (.cons (t:=4) rfl nE .nil))),h⟩
 ·replace h:=h.2 hb_
  refine wp_exit ?_
  exact J6 n10 a s (hL.keep (.cons (t:=1) rfl nE (.cons (t:=3) rfl nE .nil))) h
theorem ref04_text_ok {s_:Str} {r_:Bool} (h:zcb s_ r_):Fn Tryz.prog 114 [(Pd.rep En.str s_)] (Rq (Pd.rep En.bool r_)):=by
 unfold zcb at h
 refine fn_of Tryz.func114 rfl Tryz.ntmps114 (by rfl) (by simp) fun s0 a hL=>?_
 refine wp_seq_k fun K1 hK1=>rg (sx 2 (zd o_b rfl rfl) hL fun a s e_ hL=>?_)
 refine en' (hK1 _ _ ?_)
 refine wp_seq_k fun K2 hK2=>wp_seq_k fun K3 hK3=>rg (sx 3 (zd (o_i (k:=.i64) (by decide)) rfl rfl) hL fun a s e_ hL=>?_)
 refine en' (hK3 _ _ ?_)
 refine wp_block ?_
 have J4:∀(a:Act) (s:St),Has N0 21 s0 a s [(0,(Pd.rep En.str s_))]→((zcb.j1 s_ r_))→K2 a s.w:=by
  intro a s hL h
  unfold zcb.j1 at h
  show K2 a s.w
  refine hK2 _ _ (wp_seq_k fun K5 hK5=>?_)
  obtain ⟨r6,h7,h⟩:=h
  refine rg (sx 14 (zb (o_t 0 rfl) rfl rfl) hL fun a s e_ hL=>?_)
  refine sx 15 (t_slen (o_t 14 rfl) Tryz.underlying9 rfl rfl) hL fun a s e_ hL=>sx 16 (t_gtr (o_t 15 rfl) (o_i (k:=.i64) (by decide)) rfl rfl) hL fun a s e_ hL=>sx 17 (zb (o_t 16 rfl) rfl rfl) hL fun a s e_ hL=>sx 18 (t_g1 rfl rfl rfl (fun hc_=>zb (o_t 0 rfl) rfl rfl)) hL fun a s e_ hL=>sx 19 (t_g1 rfl rfl rfl (fun hc_=>zw (ref03_Utf8_ok (h7 hc_)) (xs:=[.tmp 18]) (.cons (o_w hc_ 18 rfl) .nil) rfl rfl)) hL fun a s e_ hL=>sx 20 (t_and (o_t 17 rfl) (fun hc2_=>(o_w hc2_ 19 rfl)) rfl rfl) hL fun a s e_ hL=>sx 2 (zd (o_t 20 rfl) rfl rfl) hL fun a s e_ hL=>en' (hK5 _ _ ?_)
  subst h
  exact wp_ret (retq rfl hL rfl)
 obtain ⟨k9,h⟩:=h
 refine lpg (fun k10 a s=>∃(i8:Int),Has N0 21 s0 a s [(0,(Pd.rep En.str s_)),(3,(Pd.rep (En.int .i64) i8))]∧zcb.l1 s_ r_ (zcb.j1 s_ r_) k10 i8) k9 ⟨0,hL.keep (.cons (t:=0) rfl nE (.cons (t:=3) rfl nE .nil)),h⟩ ?_
 rintro k10 a s ⟨i8,hL,h⟩ KL11 hKL11
 cases k10 with
 | zero=>exact h.elim
 | succ k10=>
 unfold zcb.l1 at h
 refine wp_seq_k fun K12 hK12=>wp_seq_k fun K13 hK13=>rg (sx 4 (zb (o_t 3 rfl) rfl rfl) hL fun a s e_ hL=>?_)
 refine sx 5 (zb (o_t 0 rfl) rfl rfl) hL fun a s e_ hL=>sx 6 (t_slen (o_t 5 rfl) Tryz.underlying9 rfl rfl) hL fun a s e_ hL=>sx 7 (t_lss (o_t 4 rfl) (o_t 6 rfl) rfl rfl) hL fun a s e_ hL=>en' (hK13 _ _ ?_)
 refine cnd hL rfl (fun hb_=>?_) (fun hb_=>?_)
 ·replace h:=h.1 hb_
  refine wp_skip ?_
  show K12 a s.w
  refine hK12 _ _ (wp_seq_k fun K14 hK14=>?_)
  refine wp_block (wp_seq_k fun K15 hK15=>?_)
  obtain ⟨c16,h17,h⟩:=h
  refine rg (sx 10 (zb (o_t 0 rfl) rfl rfl) hL fun a s e_ hL=>?_)
  refine sx 11 (zb (o_t 3 rfl) rfl rfl) hL fun a s e_ hL=>sx 12 (t_sidx (o_t 10 rfl) (o_t 11 rfl) h17 Tryz.underlying9 rfl rfl) hL fun a s e_ hL=>sx 13 (t_eqi (o_t 12 rfl) (o_i (k:=.u8) (by decide)) rfl rfl) hL fun a s e_ hL=>en' (hK15 _ _ ?_)
  refine cnd hL rfl (fun hb_=>?_) (fun hb_=>?_)
  ·replace h:=h.1 hb_
   refine wp_seq_k fun K18 hK18=>rg (sx 2 (zd o_b rfl rfl) hL fun a s e_ hL=>?_)
   refine en' (hK18 _ _ ?_)
   subst h
   exact wp_ret (retq rfl hL rfl)
  ·replace h:=h.2 hb_
   refine wp_skip ?_
   show K14 a s.w
   refine hK14 _ _ ?_
   obtain ⟨h19,h⟩:=h
   refine rg (sx 8 (zb (o_t 3 rfl) rfl rfl) hL fun a s e_ hL=>?_)
   refine sx 9 (t_add (o_t 8 rfl) (o_i (k:=.i64) (by decide)) h19 rfl rfl) hL fun a s e_ hL=>sx 3 (zd (o_t 9 rfl) rfl rfl) hL fun a s e_ hL=>en' ?_
   exact hKL11 k10 a s (Nat.lt_succ_self _) ⟨(i8+1),hL.keep (.cons (t:=0) rfl nE (.cons (t:=3) rfl nE .nil)),h⟩
 ·replace h:=h.2 hb_
  refine wp_exit ?_
  exact J4 a s (hL.keep (.cons (t:=0) rfl nE .nil)) h
theorem zx.n_ok (k_:Nat):∀{l_:(List SNode)} {i_:Int} {r_:Int} (h:zx.n k_ l_ i_ r_),Fn Tryz.prog 85 [(Pd.rep (En.slice En.SNode) l_),(Pd.rep (En.int .i64) i_)] (Rq (Pd.rep (En.int .i64) r_)):=by
 induction k_ with
 | zero=>intro l_ i_ r_ h;exact h.elim
 | succ k_ ih_=>
 intro l_ i_ r_ h
 unfold zx.n at h
 refine fn_of Tryz.func85 rfl Tryz.ntmps85 (by rfl) (by simp) fun s0 a hL=>?_
 refine wp_seq_k fun K1 hK1=>rg (sx 4 (zd (o_i (k:=.i64) (by decide)) rfl rfl) hL fun a s e_ hL=>?_)
 refine en' (hK1 _ _ ?_)
 refine wp_seq_k fun K2 hK2=>wp_seq_k fun K3 hK3=>rg (sx 9 (zb (o_t 1 rfl) rfl rfl) hL fun a s e_ hL=>?_)
 refine sx 10 (t_lss (o_t 9 rfl) (o_i (k:=.i64) (by decide)) rfl rfl) hL fun a s e_ hL=>en' (hK3 _ _ ?_)
 refine cnd hL rfl (fun hb_=>?_) (fun hb_=>?_)
 ·replace h:=h.1 hb_
  refine wp_seq_k fun K4 hK4=>rg (sx 4 (zd (o_i (k:=.i64) (by decide)) rfl rfl) hL fun a s e_ hL=>?_)
  refine en' (hK4 _ _ ?_)
  subst h
  exact wp_ret (retq rfl hL rfl)
 ·replace h:=h.2 hb_
  refine wp_skip ?_
  show K2 a s.w
  refine hK2 _ _ (wp_seq_k fun K5 hK5=>?_)
  obtain ⟨e6,h7,h⟩:=h
  refine rg (sx 11 (zb (o_t 0 rfl) rfl rfl) hL fun a s e_ hL=>?_)
  refine sx 12 (zb (o_t 1 rfl) rfl rfl) hL fun a s e_ hL=>sx 13 (t_idx (o_t 11 rfl) (o_t 12 rfl) h7 Tryz.underlying22 ty68 rfl rfl) hL fun a s e_ hL=>sx 14 (zp ty68 (o_t 13 rfl) rfl rfl) hL fun a s e_ hL=>zbc En.SNode (z:=(0,0,0,0,0,(0#256),([]:Str))) 5 hL tyz68 rfl rfl rfl rfl fun a s g8 hg_ hL=>?_
  refine zb6 (L':=[(0,(Pd.rep (En.slice En.SNode) l_)),(1,(Pd.rep (En.int .i64) i_))]) 5 hL rfl (o_t 14 rfl) ty68 rfl rfl rfl (.cons (t:=0) rfl nE (.cons (t:=1) rfl nE .nil)) fun s hL=>?_
  refine en' (hK5 _ _ ?_)
  refine wp_seq_k fun K9 hK9=>rg (sx 15 (t_fab (off:=0) (o_t 5 rfl) Tryz.underlying68 rfl (zo (zj _ _)) rfl ty3 rfl rfl) hL fun a s e_ hL=>?_)
  refine sx 16 (zu ty3 (o_t 15 rfl) rfl rfl) hL fun a s e_ hL=>sx 17 (zdi (x:=(e6.1,0,0,0,0,(0#256),([]:Str))) (ps:=[(0,.tmp 16)]) tyz68 rfl stt68 (.cons (i:=0) (o_t 16 rfl) rfl (zbj (z8 _ _ _)) .nil) rfl rfl) hL fun a s e_ hL=>?_
  have lt_d11:=hL.blt 5 rfl
  refine zbc En.SNode (z:=(0,0,0,0,0,(0#256),([]:Str))) 6 hL tyz68 rfl rfl rfl rfl fun a s g10 hg_ hL=>?_
  have d11:Dis (some g10) (some g8):=Dis.newg hg_ lt_d11
  refine zb6 (L':=[(0,(Pd.rep (En.slice En.SNode) l_)),(1,(Pd.rep (En.int .i64) i_)),(5,(Pd.box En.SNode s0.w.heap.size g8 e6))]) 6 hL rfl (o_t 17 rfl) ty68 rfl rfl rfl (.cons (t:=0) rfl nE (.cons (t:=1) rfl nE (.cons (t:=5) rfl (Dis.bx (Dis.symm d11)) .nil))) fun s hL=>?_
  refine en' (hK9 _ _ ?_)
  refine wp_seq_k fun K12 hK12=>rg (sx 18 (zb (o_t 1 rfl) rfl rfl) hL fun a s e_ hL=>?_)
  refine sx 7 (zd (o_t 18 rfl) rfl rfl) hL fun a s e_ hL=>en' (hK12 _ _ ?_)
  refine wp_seq_k fun K13 hK13=>wp_seq_k fun K14 hK14=>rg (sx 19 (t_fab (off:=0) (o_t 5 rfl) Tryz.underlying68 rfl (zo (zj _ _)) rfl ty3 rfl rfl) hL fun a s e_ hL=>?_)
  refine sx 20 (zu ty3 (o_t 19 rfl) rfl rfl) hL fun a s e_ hL=>en' (hK14 _ _ ?_)
  refine wp_block (wp_seq_k fun K15 hK15=>?_)
  refine rg (sx 22 (t_eqi (o_t 20 rfl) (o_i (k:=.i64) (by decide)) rfl rfl) hL fun a s e_ hL=>?_)
  refine sx 21 (zd (o_t 22 rfl) rfl rfl) hL fun a s e_ hL=>en' (hK15 _ _ ?_)
  refine cnd hL rfl (fun hb_=>?_) (fun hb_=>?_)
  ·replace h:=h.1 hb_
   refine wp_skip ?_
   show K13 a s.w
   refine hK13 _ _ (wp_seq_k fun K16 hK16=>?_)
   refine wp_seq_k fun K17 hK17=>rg (sx 92 (zbg ty68 (o_t 5 rfl) rfl rfl) hL fun a s e_ hL=>?_)
   refine sx 93 (zbg ty68 (o_t 6 rfl) rfl rfl) hL fun a s e_ hL=>sx 94 (t_nev eq68 (o_t 92 rfl) (o_t 93 rfl) rfl rfl) hL fun a s e_ hL=>en' (hK17 _ _ ?_)
   refine cnd hL rfl (fun hb_=>?_) (fun hb_=>?_)
   ·replace h:=h.1 hb_
    refine wp_seq_k fun K18 hK18=>rg (sx 4 (zd (o_i (k:=.i64) (by decide)) rfl rfl) hL fun a s e_ hL=>?_)
    refine en' (hK18 _ _ ?_)
    subst h
    exact wp_ret (retq rfl hL rfl)
   ·replace h:=h.2 hb_
    refine wp_skip ?_
    show K16 a s.w
    refine hK16 _ _ (wp_seq_k fun K19 hK19=>?_)
    refine rg (sx 95 (zb (o_t 7 rfl) rfl rfl) hL fun a s e_ hL=>?_)
    refine sx 4 (zd (o_t 95 rfl) rfl rfl) hL fun a s e_ hL=>en' (hK19 _ _ ?_)
    subst h
    exact wp_ret (retq rfl hL rfl)
  ·replace h:=h.2 hb_
   refine wp_seq_k fun K20 hK20=>rg (sx 24 (t_eqi (o_t 20 rfl) (o_i (k:=.i64) (by decide)) rfl rfl) hL fun a s e_ hL=>?_)
   refine sx 23 (zd (o_t 24 rfl) rfl rfl) hL fun a s e_ hL=>en' (hK20 _ _ ?_)
   refine cnd hL rfl (fun hb_=>?_) (fun hb_=>?_)
   ·replace h:=h.1 hb_
    refine rg (sx 25 (t_fab (off:=5) (o_t 5 rfl) Tryz.underlying68 rfl (zg (zg (zg (zg (zg (zo (zj _ _)) rfl) rfl) rfl) rfl) rfl) rfl ty51 rfl rfl) hL fun a s e_ hL=>?_)
    refine sx 26 (zu ty51 (o_t 25 rfl) rfl rfl) hL fun a s e_ hL=>sx 27 (t_fab (off:=5) (o_t 6 rfl) Tryz.underlying68 rfl (zg (zg (zg (zg (zg (zo (zj _ _)) rfl) rfl) rfl) rfl) rfl) rfl ty51 rfl rfl) hL fun a s e_ hL=>zdk (L':=[(5,(Pd.box En.SNode s0.w.heap.size g8 e6)),(7,(Pd.rep (En.int .i64) i_))]) 6 hL rfl (o_t 27 rfl) (o_t 26 rfl) (z6 (z6 (z6 (z6 (z6 (zbj (z8 _ _ _)) rfl) rfl) rfl) rfl) rfl) ty51 rfl rfl rfl (.cons (t:=5) rfl (Dis.bx (Dis.symm d11)) (.cons (t:=7) rfl nE .nil)) fun s hL=>?_
    refine en' (hK13 _ _ ?_)
    refine wp_seq_k fun K21 hK21=>wp_seq_k fun K22 hK22=>?_
    obtain ⟨b23,h24,h⟩:=h
    refine rg (sx 92 (zbg ty68 (o_t 5 rfl) rfl rfl) hL fun a s e_ hL=>?_)
    refine sx 93 (zbg ty68 (o_t 6 rfl) rfl rfl) hL fun a s e_ hL=>sx 94 (h24 ▸ (t_nev eq68 (o_t 92 rfl) (o_t 93 rfl) rfl rfl)) hL fun a s e_ hL=>en' (hK22 _ _ ?_)
    refine cnd hL rfl (fun hb_=>?_) (fun hb_=>?_)
    ·replace h:=h.1 hb_
     refine wp_seq_k fun K25 hK25=>rg (sx 4 (zd (o_i (k:=.i64) (by decide)) rfl rfl) hL fun a s e_ hL=>?_)
     refine en' (hK25 _ _ ?_)
     subst h
     exact wp_ret (retq rfl hL rfl)
    ·replace h:=h.2 hb_
     refine wp_skip ?_
     show K21 a s.w
     refine hK21 _ _ (wp_seq_k fun K26 hK26=>?_)
     refine rg (sx 95 (zb (o_t 7 rfl) rfl rfl) hL fun a s e_ hL=>?_)
     refine sx 4 (zd (o_t 95 rfl) rfl rfl) hL fun a s e_ hL=>en' (hK26 _ _ ?_)
     subst h
     exact wp_ret (retq rfl hL rfl)
   ·replace h:=h.2 hb_
    refine wp_seq_k fun K27 hK27=>rg (sx 29 (t_eqi (o_t 20 rfl) (o_i (k:=.i64) (by decide)) rfl rfl) hL fun a s e_ hL=>?_)
    refine sx 28 (zd (o_t 29 rfl) rfl rfl) hL fun a s e_ hL=>en' (hK27 _ _ ?_)
    refine cnd hL rfl (fun hb_=>?_) (fun hb_=>?_)
    ·replace h:=h.1 hb_
     refine wp_seq_k fun K28 hK28=>rg (sx 30 (t_fab (off:=9) (o_t 5 rfl) Tryz.underlying68 rfl (zg (zg (zg (zg (zg (zg (zj _ _) rfl) rfl) rfl) rfl) rfl) rfl) rfl ty9 rfl rfl) hL fun a s e_ hL=>?_)
     refine sx 31 (zu ty9 (o_t 30 rfl) rfl rfl) hL fun a s e_ hL=>sx 32 (t_fab (off:=9) (o_t 6 rfl) Tryz.underlying68 rfl (zg (zg (zg (zg (zg (zg (zj _ _) rfl) rfl) rfl) rfl) rfl) rfl) rfl ty9 rfl rfl) hL fun a s e_ hL=>zdk (L':=[(5,(Pd.box En.SNode s0.w.heap.size g8 e6)),(7,(Pd.rep (En.int .i64) i_))]) 6 hL rfl (o_t 32 rfl) (o_t 31 rfl) (z6 (z6 (z6 (z6 (z6 (z6 (z8 _ _ _) rfl) rfl) rfl) rfl) rfl) rfl) ty9 rfl rfl rfl (.cons (t:=5) rfl (Dis.bx (Dis.symm d11)) (.cons (t:=7) rfl nE .nil)) fun s hL=>?_
     refine en' (hK28 _ _ ?_)
     refine wp_seq_k fun K29 hK29=>?_
     obtain ⟨r30,h31,h⟩:=h
     refine rg (sx 33 (t_fab (off:=9) (o_t 5 rfl) Tryz.underlying68 rfl (zg (zg (zg (zg (zg (zg (zj _ _) rfl) rfl) rfl) rfl) rfl) rfl) rfl ty9 rfl rfl) hL fun a s e_ hL=>?_)
     refine sx 34 (zu ty9 (o_t 33 rfl) rfl rfl) hL fun a s e_ hL=>sx 35 (zw (ref04_text_ok h31) (xs:=[.tmp 34]) (.cons (o_t 34 rfl) .nil) rfl rfl) hL fun a s e_ hL=>sx 36 (t_not (o_t 35 rfl) rfl rfl) hL fun a s e_ hL=>en' (hK29 _ _ ?_)
     refine cnd hL rfl (fun hb_=>?_) (fun hb_=>?_)
     ·replace h:=h.1 hb_
      refine wp_seq_k fun K32 hK32=>rg (sx 4 (zd (o_i (k:=.i64) (by decide)) rfl rfl) hL fun a s e_ hL=>?_)
      refine en' (hK32 _ _ ?_)
      subst h
      exact wp_ret (retq rfl hL rfl)
     ·replace h:=h.2 hb_
      refine wp_skip ?_
      show K13 a s.w
      refine hK13 _ _ (wp_seq_k fun K33 hK33=>?_)
      refine wp_seq_k fun K34 hK34=>?_
      obtain ⟨b35,h36,h⟩:=h
      refine rg (sx 92 (zbg ty68 (o_t 5 rfl) rfl rfl) hL fun a s e_ hL=>?_)
      refine sx 93 (zbg ty68 (o_t 6 rfl) rfl rfl) hL fun a s e_ hL=>sx 94 (h36 ▸ (t_nev eq68 (o_t 92 rfl) (o_t 93 rfl) rfl rfl)) hL fun a s e_ hL=>en' (hK34 _ _ ?_)
      refine cnd hL rfl (fun hb_=>?_) (fun hb_=>?_)
      ·replace h:=h.1 hb_
       refine wp_seq_k fun K37 hK37=>rg (sx 4 (zd (o_i (k:=.i64) (by decide)) rfl rfl) hL fun a s e_ hL=>?_)
       refine en' (hK37 _ _ ?_)
       subst h
       exact wp_ret (retq rfl hL rfl)
      ·replace h:=h.2 hb_
       refine wp_skip ?_
       show K33 a s.w
       refine hK33 _ _ (wp_seq_k fun K38 hK38=>?_)
       refine rg (sx 95 (zb (o_t 7 rfl) rfl rfl) hL fun a s e_ hL=>?_)
       refine sx 4 (zd (o_t 95 rfl) rfl rfl) hL fun a s e_ hL=>en' (hK38 _ _ ?_)
       subst h
       exact wp_ret (retq rfl hL rfl)
    ·replace h:=h.2 hb_
     refine wp_seq_k fun K39 hK39=>wp_seq_k fun K40 hK40=>rg (sx 38 (t_eqi (o_t 20 rfl) (o_i (k:=.i64) (by decide)) rfl rfl) hL fun a s e_ hL=>?_)
     refine sx 37 (zd (o_t 38 rfl) rfl rfl) hL fun a s e_ hL=>en' (hK40 _ _ ?_)
     have J42:∀(v41:Bool) (a:Act) (s:St),Has N0 96 s0 a s [(0,(Pd.rep (En.slice En.SNode) l_)),(1,(Pd.rep (En.int .i64) i_)),(5,(Pd.box En.SNode s0.w.heap.size g8 e6)),(6,(Pd.box En.SNode s0.w.heap.size g10 (e6.1,0,0,0,0,(0#256),([]:Str)))),(20,(Pd.rep (En.int .i64) e6.1)),(37,(Pd.rep En.bool v41))]→Dis (some g8) (some g10)→((zx.j3 (zx.n k_) l_ i_ r_ e6) v41)→K39 a s.w:=by
      intro v41 a s hL d43 h
      unfold zx.j3 at h
      show K39 a s.w
      refine hK39 _ _ (cnd hL rfl (fun hb_=>?_) (fun hb_=>?_))
      ·replace h:=h.1 hb_
       refine wp_seq_k fun K44 hK44=>?_
       obtain ⟨h45,h⟩:=h
       refine rg (sx 42 (zb (o_t 1 rfl) rfl rfl) hL fun a s e_ hL=>?_)
       refine sx 43 (t_sub (o_t 42 rfl) (o_i (k:=.i64) (by decide)) h45 rfl rfl) hL fun a s e_ hL=>sx 44 (t_fab (off:=1) (o_t 6 rfl) Tryz.underlying68 rfl (zg (zo (zj _ _)) rfl) rfl ty3 rfl rfl) hL fun a s e_ hL=>zdk (L':=[(0,(Pd.rep (En.slice En.SNode) l_)),(1,(Pd.rep (En.int .i64) i_)),(5,(Pd.box En.SNode s0.w.heap.size g8 e6))]) 6 hL rfl (o_t 44 rfl) (o_t 43 rfl) (z6 (zbj (z8 _ _ _)) rfl) ty3 rfl rfl rfl (.cons (t:=0) rfl nE (.cons (t:=1) rfl nE (.cons (t:=5) rfl (Dis.bx d43) .nil))) fun s hL=>?_
       refine en' (hK44 _ _ ?_)
       refine wp_seq_k fun K46 hK46=>wp_seq_k fun K47 hK47=>rg (sx 45 (t_fab (off:=0) (o_t 5 rfl) Tryz.underlying68 rfl (zo (zj _ _)) rfl ty3 rfl rfl) hL fun a s e_ hL=>?_)
       refine sx 46 (zu ty3 (o_t 45 rfl) rfl rfl) hL fun a s e_ hL=>sx 47 (t_eqi (o_t 46 rfl) (o_i (k:=.i64) (by decide)) rfl rfl) hL fun a s e_ hL=>en' (hK47 _ _ ?_)
       have J49:∀(want48:SNode) (a:Act) (s:St),Has N0 96 s0 a s [(0,(Pd.rep (En.slice En.SNode) l_)),(1,(Pd.rep (En.int .i64) i_)),(5,(Pd.box En.SNode s0.w.heap.size g8 e6)),(6,(Pd.box En.SNode s0.w.heap.size g10 want48))]→Dis (some g8) (some g10)→((zx.j1 (zx.n k_) l_ i_ r_ e6) want48)→K46 a s.w:=by
        intro want48 a s hL d50 h
        unfold zx.j1 at h
        show K46 a s.w
        refine hK46 _ _ ?_
        obtain ⟨h51,r52,h53,h⟩:=h
        refine rg (sx 69 (zb (o_t 0 rfl) rfl rfl) hL fun a s e_ hL=>?_)
        refine sx 70 (zb (o_t 1 rfl) rfl rfl) hL fun a s e_ hL=>sx 71 (t_sub (o_t 70 rfl) (o_i (k:=.i64) (by decide)) h51 rfl rfl) hL fun a s e_ hL=>sx 72 (zw (ih_ h53) (xs:=[.tmp 69,.tmp 71]) (.cons (o_t 69 rfl) (.cons (o_t 71 rfl) .nil)) rfl rfl) hL fun a s e_ hL=>sx 7 (zd (o_t 72 rfl) rfl rfl) hL fun a s e_ hL=>en' (hK13 _ _ ?_)
        refine wp_seq_k fun K54 hK54=>wp_seq_k fun K55 hK55=>rg (sx 92 (zbg ty68 (o_t 5 rfl) rfl rfl) hL fun a s e_ hL=>?_)
        refine sx 93 (zbg ty68 (o_t 6 rfl) rfl rfl) hL fun a s e_ hL=>sx 94 (t_nev eq68 (o_t 92 rfl) (o_t 93 rfl) rfl rfl) hL fun a s e_ hL=>en' (hK55 _ _ ?_)
        refine cnd hL rfl (fun hb_=>?_) (fun hb_=>?_)
        ·replace h:=h.1 hb_
         refine wp_seq_k fun K56 hK56=>rg (sx 4 (zd (o_i (k:=.i64) (by decide)) rfl rfl) hL fun a s e_ hL=>?_)
         refine en' (hK56 _ _ ?_)
         subst h
         exact wp_ret (retq rfl hL rfl)
        ·replace h:=h.2 hb_
         refine wp_skip ?_
         show K54 a s.w
         refine hK54 _ _ (wp_seq_k fun K57 hK57=>?_)
         refine rg (sx 95 (zb (o_t 7 rfl) rfl rfl) hL fun a s e_ hL=>?_)
         refine sx 4 (zd (o_t 95 rfl) rfl rfl) hL fun a s e_ hL=>en' (hK57 _ _ ?_)
         subst h
         exact wp_ret (retq rfl hL rfl)
       refine cnd hL rfl (fun hb_=>?_) (fun hb_=>?_)
       ·replace h:=h.1 hb_
        refine wp_seq_k fun K58 hK58=>rg (sx 48 (t_fab (off:=3) (o_t 5 rfl) Tryz.underlying68 rfl (zg (zg (zg (zo (zj _ _)) rfl) rfl) rfl) rfl ty3 rfl rfl) hL fun a s e_ hL=>?_)
        refine sx 49 (zu ty3 (o_t 48 rfl) rfl rfl) hL fun a s e_ hL=>sx 50 (t_fab (off:=3) (o_t 6 rfl) Tryz.underlying68 rfl (zg (zg (zg (zo (zj _ _)) rfl) rfl) rfl) rfl ty3 rfl rfl) hL fun a s e_ hL=>zdk (L':=[(0,(Pd.rep (En.slice En.SNode) l_)),(1,(Pd.rep (En.int .i64) i_)),(5,(Pd.box En.SNode s0.w.heap.size g8 e6))]) 6 hL rfl (o_t 50 rfl) (o_t 49 rfl) (z6 (z6 (z6 (zbj (z8 _ _ _)) rfl) rfl) rfl) ty3 rfl rfl rfl (.cons (t:=0) rfl nE (.cons (t:=1) rfl nE (.cons (t:=5) rfl (Dis.bx d43) .nil))) fun s hL=>?_
        refine en' (hK58 _ _ ?_)
        refine wp_seq_k fun K59 hK59=>rg (sx 51 (t_fab (off:=4) (o_t 5 rfl) Tryz.underlying68 rfl (zg (zg (zg (zg (zo (zj _ _)) rfl) rfl) rfl) rfl) rfl ty3 rfl rfl) hL fun a s e_ hL=>?_)
        refine sx 52 (zu ty3 (o_t 51 rfl) rfl rfl) hL fun a s e_ hL=>sx 53 (t_fab (off:=4) (o_t 6 rfl) Tryz.underlying68 rfl (zg (zg (zg (zg (zo (zj _ _)) rfl) rfl) rfl) rfl) rfl ty3 rfl rfl) hL fun a s e_ hL=>zdk (L':=[(0,(Pd.rep (En.slice En.SNode) l_)),(1,(Pd.rep (En.int .i64) i_)),(5,(Pd.box En.SNode s0.w.heap.size g8 e6))]) 6 hL rfl (o_t 53 rfl) (o_t 52 rfl) (z6 (z6 (z6 (z6 (zbj (z8 _ _ _)) rfl) rfl) rfl) rfl) ty3 rfl rfl rfl (.cons (t:=0) rfl nE (.cons (t:=1) rfl nE (.cons (t:=5) rfl (Dis.bx d43) .nil))) fun s hL=>?_
        refine en' (hK59 _ _ ?_)
        refine wp_seq_k fun K60 hK60=>?_
        obtain ⟨b61,h62,h⟩:=h
        refine rg (sx 54 (t_fab (off:=3) (o_t 5 rfl) Tryz.underlying68 rfl (zg (zg (zg (zo (zj _ _)) rfl) rfl) rfl) rfl ty3 rfl rfl) hL fun a s e_ hL=>?_)
        refine sx 55 (zu ty3 (o_t 54 rfl) rfl rfl) hL fun a s e_ hL=>sx 56 (t_lss (o_t 55 rfl) (o_i (k:=.i64) (by decide)) rfl rfl) hL fun a s e_ hL=>sx 57 (zb (o_t 56 rfl) rfl rfl) hL fun a s e_ hL=>sx 58 (t_g1 rfl rfl rfl (fun hc_=>t_fab (off:=3) (o_t 5 rfl) Tryz.underlying68 rfl (zg (zg (zg (zo (zj _ _)) rfl) rfl) rfl) rfl ty3 rfl rfl)) hL fun a s e_ hL=>sx 59 (t_g1 rfl rfl rfl (fun hc_=>zu ty3 (o_w hc_ 58 rfl) rfl rfl)) hL fun a s e_ hL=>sx 60 (t_g1 rfl rfl rfl (fun hc_=>t_fab (off:=4) (o_t 5 rfl) Tryz.underlying68 rfl (zg (zg (zg (zg (zo (zj _ _)) rfl) rfl) rfl) rfl) rfl ty3 rfl rfl)) hL fun a s e_ hL=>sx 61 (t_g1 rfl rfl rfl (fun hc_=>zu ty3 (o_w hc_ 60 rfl) rfl rfl)) hL fun a s e_ hL=>sx 62 (t_g1 rfl rfl rfl (fun hc_=>t_gtr (o_w hc_ 59 rfl) (o_w hc_ 61 rfl) rfl rfl)) hL fun a s e_ hL=>sx 63 (h62 ▸ (t_or (o_t 57 rfl) (fun hc2_=>(o_w hc2_ 62 rfl)) rfl rfl)) hL fun a s e_ hL=>?_
        refine sx 64 (zb (o_t 63 rfl) rfl rfl) hL fun a s e_ hL=>sx 65 (t_g1 rfl rfl rfl (fun hc_=>t_fab (off:=4) (o_t 5 rfl) Tryz.underlying68 rfl (zg (zg (zg (zg (zo (zj _ _)) rfl) rfl) rfl) rfl) rfl ty3 rfl rfl)) hL fun a s e_ hL=>sx 66 (t_g1 rfl rfl rfl (fun hc_=>zu ty3 (o_w hc_ 65 rfl) rfl rfl)) hL fun a s e_ hL=>sx 67 (t_g1 rfl rfl rfl (fun hc_=>t_gtr (o_w hc_ 66 rfl) (o_i (k:=.i64) (by decide)) rfl rfl)) hL fun a s e_ hL=>sx 68 (t_or (o_t 64 rfl) (fun hc2_=>(o_w hc2_ 67 rfl)) rfl rfl) hL fun a s e_ hL=>en' (hK60 _ _ ?_)
        refine cnd hL rfl (fun hb_=>?_) (fun hb_=>?_)
        ·replace h:=h.1 hb_
         refine wp_seq_k fun K63 hK63=>rg (sx 4 (zd (o_i (k:=.i64) (by decide)) rfl rfl) hL fun a s e_ hL=>?_)
         refine en' (hK63 _ _ ?_)
         subst h
         exact wp_ret (retq rfl hL rfl)
        ·replace h:=h.2 hb_
         refine wp_skip ?_
         exact J49 (e6.1,i_-1,0,e6.2.2.2.1,e6.2.2.2.2.1,(0#256),([]:Str)) a s (hL.keep (.cons (t:=0) rfl nE (.cons (t:=1) rfl nE (.cons (t:=5) rfl (fun _ _ h_=>h_) (.cons (t:=6) rfl (fun _ _ h_=>h_) .nil))))) d43 h
       ·replace h:=h.2 hb_
        refine wp_skip ?_
        exact J49 (e6.1,i_-1,0,0,0,(0#256),([]:Str)) a s (hL.keep (.cons (t:=0) rfl nE (.cons (t:=1) rfl nE (.cons (t:=5) rfl (fun _ _ h_=>h_) (.cons (t:=6) rfl (fun _ _ h_=>h_) .nil))))) d43 h
      ·replace h:=h.2 hb_
       refine wp_seq_k fun K64 hK64=>wp_seq_k fun K65 hK65=>rg (sx 74 (t_eqi (o_t 20 rfl) (o_i (k:=.i64) (by decide)) rfl rfl) hL fun a s e_ hL=>?_)
       refine sx 73 (zd (o_t 74 rfl) rfl rfl) hL fun a s e_ hL=>en' (hK65 _ _ ?_)
       have J67:∀(v66:Bool) (a:Act) (s:St),Has N0 96 s0 a s [(0,(Pd.rep (En.slice En.SNode) l_)),(1,(Pd.rep (En.int .i64) i_)),(5,(Pd.box En.SNode s0.w.heap.size g8 e6)),(6,(Pd.box En.SNode s0.w.heap.size g10 (e6.1,0,0,0,0,(0#256),([]:Str)))),(73,(Pd.rep En.bool v66))]→Dis (some g8) (some g10)→((zx.j2 (zx.n k_) l_ i_ r_ e6) v66)→K64 a s.w:=by
        intro v66 a s hL d68 h
        unfold zx.j2 at h
        show K64 a s.w
        refine hK64 _ _ (cnd hL rfl (fun hb_=>?_) (fun hb_=>?_))
        ·replace h:=h.1 hb_
         refine wp_seq_k fun K69 hK69=>?_
         obtain ⟨h70,h⟩:=h
         refine rg (sx 76 (zb (o_t 1 rfl) rfl rfl) hL fun a s e_ hL=>?_)
         refine sx 77 (t_sub (o_t 76 rfl) (o_i (k:=.i64) (by decide)) h70 rfl rfl) hL fun a s e_ hL=>sx 78 (t_fab (off:=2) (o_t 6 rfl) Tryz.underlying68 rfl (zg (zg (zo (zj _ _)) rfl) rfl) rfl ty3 rfl rfl) hL fun a s e_ hL=>zdk (L':=[(0,(Pd.rep (En.slice En.SNode) l_)),(1,(Pd.rep (En.int .i64) i_)),(5,(Pd.box En.SNode s0.w.heap.size g8 e6))]) 6 hL rfl (o_t 78 rfl) (o_t 77 rfl) (z6 (z6 (zbj (z8 _ _ _)) rfl) rfl) ty3 rfl rfl rfl (.cons (t:=0) rfl nE (.cons (t:=1) rfl nE (.cons (t:=5) rfl (Dis.bx d68) .nil))) fun s hL=>?_
         refine en' (hK69 _ _ ?_)
         refine wp_seq_k fun K71 hK71=>?_
         obtain ⟨h72,r73,h74,h⟩:=h
         refine rg (sx 79 (zb (o_t 0 rfl) rfl rfl) hL fun a s e_ hL=>?_)
         refine sx 80 (zb (o_t 1 rfl) rfl rfl) hL fun a s e_ hL=>sx 81 (t_sub (o_t 80 rfl) (o_i (k:=.i64) (by decide)) h72 rfl rfl) hL fun a s e_ hL=>sx 82 (zw (ih_ h74) (xs:=[.tmp 79,.tmp 81]) (.cons (o_t 79 rfl) (.cons (o_t 81 rfl) .nil)) rfl rfl) hL fun a s e_ hL=>sx 8 (zd (o_t 82 rfl) rfl rfl) hL fun a s e_ hL=>en' (hK71 _ _ ?_)
         refine wp_seq_k fun K75 hK75=>wp_seq_k fun K76 hK76=>rg (sx 83 (zb (o_t 8 rfl) rfl rfl) hL fun a s e_ hL=>?_)
         refine sx 84 (t_lss (o_t 83 rfl) (o_i (k:=.i64) (by decide)) rfl rfl) hL fun a s e_ hL=>en' (hK76 _ _ ?_)
         refine cnd hL rfl (fun hb_=>?_) (fun hb_=>?_)
         ·replace h:=h.1 hb_
          refine wp_seq_k fun K77 hK77=>rg (sx 4 (zd (o_i (k:=.i64) (by decide)) rfl rfl) hL fun a s e_ hL=>?_)
          refine en' (hK77 _ _ ?_)
          subst h
          exact wp_ret (retq rfl hL rfl)
         ·replace h:=h.2 hb_
          refine wp_skip ?_
          show K75 a s.w
          refine hK75 _ _ (wp_seq_k fun K78 hK78=>?_)
          obtain ⟨h79,h⟩:=h
          refine rg (sx 85 (zb (o_t 8 rfl) rfl rfl) hL fun a s e_ hL=>?_)
          refine sx 86 (t_sub (o_t 85 rfl) (o_i (k:=.i64) (by decide)) h79 rfl rfl) hL fun a s e_ hL=>sx 87 (t_fab (off:=1) (o_t 6 rfl) Tryz.underlying68 rfl (zg (zo (zj _ _)) rfl) rfl ty3 rfl rfl) hL fun a s e_ hL=>zdk (L':=[(0,(Pd.rep (En.slice En.SNode) l_)),(5,(Pd.box En.SNode s0.w.heap.size g8 e6)),(8,(Pd.rep (En.int .i64) r73))]) 6 hL rfl (o_t 87 rfl) (o_t 86 rfl) (z6 (zbj (z8 _ _ _)) rfl) ty3 rfl rfl rfl (.cons (t:=0) rfl nE (.cons (t:=5) rfl (Dis.bx d68) (.cons (t:=8) rfl nE .nil))) fun s hL=>?_
          refine en' (hK78 _ _ ?_)
          obtain ⟨h80,r81,h82,h⟩:=h
          refine rg (sx 88 (zb (o_t 0 rfl) rfl rfl) hL fun a s e_ hL=>?_)
          refine sx 89 (zb (o_t 8 rfl) rfl rfl) hL fun a s e_ hL=>sx 90 (t_sub (o_t 89 rfl) (o_i (k:=.i64) (by decide)) h80 rfl rfl) hL fun a s e_ hL=>sx 91 (zw (ih_ h82) (xs:=[.tmp 88,.tmp 90]) (.cons (o_t 88 rfl) (.cons (o_t 90 rfl) .nil)) rfl rfl) hL fun a s e_ hL=>sx 7 (zd (o_t 91 rfl) rfl rfl) hL fun a s e_ hL=>en' (hK13 _ _ ?_)
          refine wp_seq_k fun K83 hK83=>wp_seq_k fun K84 hK84=>?_
          obtain ⟨b85,h86,h⟩:=h
          refine rg (sx 92 (zbg ty68 (o_t 5 rfl) rfl rfl) hL fun a s e_ hL=>?_)
          refine sx 93 (zbg ty68 (o_t 6 rfl) rfl rfl) hL fun a s e_ hL=>sx 94 (h86 ▸ (t_nev eq68 (o_t 92 rfl) (o_t 93 rfl) rfl rfl)) hL fun a s e_ hL=>en' (hK84 _ _ ?_)
          refine cnd hL rfl (fun hb_=>?_) (fun hb_=>?_)
          ·replace h:=h.1 hb_
           refine wp_seq_k fun K87 hK87=>rg (sx 4 (zd (o_i (k:=.i64) (by decide)) rfl rfl) hL fun a s e_ hL=>?_)
           refine en' (hK87 _ _ ?_)
           subst h
           exact wp_ret (retq rfl hL rfl)
          ·replace h:=h.2 hb_
           refine wp_skip ?_
           show K83 a s.w
           refine hK83 _ _ (wp_seq_k fun K88 hK88=>?_)
           refine rg (sx 95 (zb (o_t 7 rfl) rfl rfl) hL fun a s e_ hL=>?_)
           refine sx 4 (zd (o_t 95 rfl) rfl rfl) hL fun a s e_ hL=>en' (hK88 _ _ ?_)
           subst h
           exact wp_ret (retq rfl hL rfl)
        ·replace h:=h.2 hb_
         refine wp_seq_k fun K89 hK89=>rg (sx 4 (zd (o_i (k:=.i64) (by decide)) rfl rfl) hL fun a s e_ hL=>?_)
         refine en' (hK89 _ _ ?_)
         subst h
         exact wp_ret (retq rfl hL rfl)
       refine cnd hL rfl (fun hb_=>?_) (fun hb_=>?_)
       ·replace h:=h.1 hb_
        refine wp_skip ?_
        exact J67 (e6.1==4) a s (hL.keep (.cons (t:=0) rfl nE (.cons (t:=1) rfl nE (.cons (t:=5) rfl (fun _ _ h_=>h_) (.cons (t:=6) rfl (fun _ _ h_=>h_) (.cons (t:=73) rfl nE .nil)))))) d43 h
       ·replace h:=h.2 hb_
        refine rg (sx 75 (t_eqi (o_t 20 rfl) (o_i (k:=.i64) (by decide)) rfl rfl) hL fun a s e_ hL=>?_)
        refine sx 73 (zd (o_t 75 rfl) rfl rfl) hL fun a s e_ hL=>en' ?_
        exact J67 (e6.1==5) a s (hL.keep (.cons (t:=0) rfl nE (.cons (t:=1) rfl nE (.cons (t:=5) rfl (fun _ _ h_=>h_) (.cons (t:=6) rfl (fun _ _ h_=>h_) (.cons (t:=73) rfl nE .nil)))))) d43 h
     refine cnd hL rfl (fun hb_=>?_) (fun hb_=>?_)
     ·replace h:=h.1 hb_
      refine wp_skip ?_
      exact J42 (e6.1==6) a s (hL.keep (.cons (t:=0) rfl nE (.cons (t:=1) rfl nE (.cons (t:=5) rfl (fun _ _ h_=>h_) (.cons (t:=6) rfl (fun _ _ h_=>h_) (.cons (t:=20) rfl nE (.cons (t:=37) rfl nE .nil))))))) (Dis.symm d11) h
     ·replace h:=h.2 hb_
      refine wp_seq_k fun K90 hK90=>rg (sx 39 (t_eqi (o_t 20 rfl) (o_i (k:=.i64) (by decide)) rfl rfl) hL fun a s e_ hL=>?_)
      refine sx 37 (zd (o_t 39 rfl) rfl rfl) hL fun a s e_ hL=>en' (hK90 _ _ ?_)
      refine cnd hL rfl (fun hb_=>?_) (fun hb_=>?_)
      ·replace h:=h.1 hb_
       refine wp_skip ?_
       exact J42 (e6.1==7) a s (hL.keep (.cons (t:=0) rfl nE (.cons (t:=1) rfl nE (.cons (t:=5) rfl (fun _ _ h_=>h_) (.cons (t:=6) rfl (fun _ _ h_=>h_) (.cons (t:=20) rfl nE (.cons (t:=37) rfl nE .nil))))))) (Dis.symm d11) h
      ·replace h:=h.2 hb_
       refine wp_seq_k fun K91 hK91=>rg (sx 40 (t_eqi (o_t 20 rfl) (o_i (k:=.i64) (by decide)) rfl rfl) hL fun a s e_ hL=>?_)
       refine sx 37 (zd (o_t 40 rfl) rfl rfl) hL fun a s e_ hL=>en' (hK91 _ _ ?_)
       refine cnd hL rfl (fun hb_=>?_) (fun hb_=>?_)
       ·replace h:=h.1 hb_
        refine wp_skip ?_
        exact J42 (e6.1==8) a s (hL.keep (.cons (t:=0) rfl nE (.cons (t:=1) rfl nE (.cons (t:=5) rfl (fun _ _ h_=>h_) (.cons (t:=6) rfl (fun _ _ h_=>h_) (.cons (t:=20) rfl nE (.cons (t:=37) rfl nE .nil))))))) (Dis.symm d11) h
       ·replace h:=h.2 hb_
        refine rg (sx 41 (t_eqi (o_t 20 rfl) (o_i (k:=.i64) (by decide)) rfl rfl) hL fun a s e_ hL=>?_)
        refine sx 37 (zd (o_t 41 rfl) rfl rfl) hL fun a s e_ hL=>en' ?_
        exact J42 (e6.1==9) a s (hL.keep (.cons (t:=0) rfl nE (.cons (t:=1) rfl nE (.cons (t:=5) rfl (fun _ _ h_=>h_) (.cons (t:=6) rfl (fun _ _ h_=>h_) (.cons (t:=20) rfl nE (.cons (t:=37) rfl nE .nil))))))) (Dis.symm d11) h
theorem ref04_First_ok {l_:(List SNode)} {i_:Int} {r_:Int} (h:zx l_ i_ r_):Fn Tryz.prog 85 [(Pd.rep (En.slice En.SNode) l_),(Pd.rep (En.int .i64) i_)] (Rq (Pd.rep (En.int .i64) r_)):=by
 obtain ⟨k_,h⟩:=h
 exact zx.n_ok k_ h
theorem ref04_Form_ok {d_:SDesc} {r_:Bool} (h:ref04_Form d_ r_):Fn Tryz.prog 49 [(Pd.rep En.SDesc d_)] (Rq (Pd.rep En.bool r_)):=by
 unfold ref04_Form at h
 refine fn_of Tryz.func49 rfl Tryz.ntmps49 (by rfl) (by simp) fun s0 a hL=>?_
 refine wp_seq_k fun K1 hK1=>rg (sx 1 (t_box (o_t 0 rfl) rfl rfl) hL fun a s e_ hL=>?_)
 refine sx 2 (zd o_b rfl rfl) hL fun a s e_ hL=>en' (hK1 _ _ ?_)
 refine wp_seq_k fun K2 hK2=>?_
 obtain ⟨h3,r4,h5,h⟩:=h
 refine rg (sx 3 (t_fa (off:=0) (o_t 1 rfl) Tryz.underlying24 rfl (zcm (zj _ _)) rfl ty22 rfl rfl) hL fun a s e_ hL=>?_)
 refine sx 4 (zp ty22 (o_t 3 rfl) rfl rfl) hL fun a s e_ hL=>sx 5 (t_len (o_t 4 rfl) Tryz.underlying22 rfl rfl) hL fun a s e_ hL=>sx 6 (t_gtr (o_t 5 rfl) (o_i (k:=.i64) (by decide)) rfl rfl) hL fun a s e_ hL=>sx 7 (zb (o_t 6 rfl) rfl rfl) hL fun a s e_ hL=>sx 8 (t_g1 rfl rfl rfl (fun hc_=>t_fa (off:=0) (o_t 1 rfl) Tryz.underlying24 rfl (zcm (zj _ _)) rfl ty22 rfl rfl)) hL fun a s e_ hL=>sx 9 (t_g1 rfl rfl rfl (fun hc_=>zp ty22 (o_w hc_ 8 rfl) rfl rfl)) hL fun a s e_ hL=>sx 10 (t_g1 rfl rfl rfl (fun hc_=>t_fa (off:=0) (o_t 1 rfl) Tryz.underlying24 rfl (zcm (zj _ _)) rfl ty22 rfl rfl)) hL fun a s e_ hL=>sx 11 (t_g1 rfl rfl rfl (fun hc_=>zp ty22 (o_w hc_ 10 rfl) rfl rfl)) hL fun a s e_ hL=>sx 12 (t_g1 rfl rfl rfl (fun hc_=>t_len (o_w hc_ 11 rfl) Tryz.underlying22 rfl rfl)) hL fun a s e_ hL=>?_
 refine sx 13 (t_g1 rfl rfl rfl (fun hc_=>t_sub (o_w hc_ 12 rfl) (o_i (k:=.i64) (by decide)) (h3 hc_) rfl rfl)) hL fun a s e_ hL=>sx 14 (t_g1 rfl rfl rfl (fun hc_=>zw (ref04_First_ok (h5 hc_)) (xs:=[.tmp 9,.tmp 13]) (.cons (o_w hc_ 9 rfl) (.cons (o_w hc_ 13 rfl) .nil)) rfl rfl)) hL fun a s e_ hL=>sx 15 (t_g1 rfl rfl rfl (fun hc_=>t_eqi (o_w hc_ 14 rfl) (o_i (k:=.i64) (by decide)) rfl rfl)) hL fun a s e_ hL=>sx 16 (t_and (o_t 7 rfl) (fun hc2_=>(o_w hc2_ 15 rfl)) rfl rfl) hL fun a s e_ hL=>sx 2 (zd (o_t 16 rfl) rfl rfl) hL fun a s e_ hL=>en' (hK2 _ _ ?_)
 subst h
 exact wp_ret (retq rfl hL rfl)
end Go.Proofs.YtahgmdbioafmbaaGreatDoor.V
namespace Go.Proofs.YtahgmdbioafmbaaGreatDoor.V
open Go
set_option linter.unusedVariables false
def zq.j1 (i_:Int) (r_:Int) (l5:(List Int)):Prop:=∃e9:Int,at? l5 i_=some e9∧r_=e9
def zq.j2 (L1_:(List Int)→Int→Prop) (l11:(List Int)) (k13:Int) (w29:Int):Prop:=(l11.length+[(min 2 w29)].length≤2147483648)∧(InR .i64 (k13+1))∧L1_ (l11++[(min 2 w29)]) (k13+1)
def zq.j3 (L2_:Int→Int→Prop) (w53:Int) (t54:Int) (p65:Int):Prop:=(InR .i64 (w53+p65))∧(InR .i64 (t54+1))∧L2_ (min 2 (w53+p65)) (t54+1)
def zq.l3 (l11:(List Int)) (e21:SNode) (t54:Int) (X3:Int→Prop):Nat→Int→Int→Prop
 | 0,_,_=>False
 | k_0+1,p70,m71=>((decide (m71<t54))=true→∃e79:Int,at? l11 e21.2.1=some e79∧(InR .i64 (p70*e79))∧(InR .i64 (m71+1))∧zq.l3 l11 e21 t54 X3 k_0 (min 2 (p70*e79)) (m71+1))∧((decide (m71<t54))=false→X3 p70)
def zq.l2 (l11:(List Int)) (e21:SNode) (X2:Int→Prop):Nat→Int→Int→Prop
 | 0,_,_=>False
 | k_0+1,w53,t54=>((decide (t54≤e21.2.2.2.2.1))=true→∃k72,zq.l3 l11 e21 t54 (zq.j3 (zq.l2 l11 e21 X2 k_0) w53 t54) k72 1 0)∧((decide (t54≤e21.2.2.2.2.1))=false→X2 w53)
def zq.l1 (d_:SDesc) (i_:Int) (X1:(List Int)→Prop):Nat→(List Int)→Int→Prop
 | 0,_,_=>False
 | k_0+1,l11,k13=>((decide (k13≤i_))=true→∃e21:SNode,at? d_ k13=some e21∧(((e21.1==1))=true→(zq.j2 (zq.l1 d_ i_ X1 k_0) l11 k13) 1)∧(((e21.1==1))=false→(((e21.1==4))=true→∃e35:Int,at? l11 e21.2.1=some e35∧∃e37:Int,at? l11 e21.2.2.1=some e37∧(InR .i64 (e35*e37))∧(zq.j2 (zq.l1 d_ i_ X1 k_0) l11 k13) (e35*e37))∧(((e21.1==4))=false→(((e21.1==5))=true→∃e41:Int,at? l11 e21.2.1=some e41∧∃e43:Int,at? l11 e21.2.2.1=some e43∧(InR .i64 (e41+e43))∧(zq.j2 (zq.l1 d_ i_ X1 k_0) l11 k13) (e41+e43))∧(((e21.1==5))=false→(((e21.1==6))=true→∃e49:Int,at? l11 e21.2.1=some e49∧((decide (0<e49))=true→(zq.j2 (zq.l1 d_ i_ X1 k_0) l11 k13) 2)∧((decide (0<e49))=false→(zq.j2 (zq.l1 d_ i_ X1 k_0) l11 k13) 1))∧(((e21.1==6))=false→(((e21.1==7))=true→∃k55,zq.l2 l11 e21 (zq.j2 (zq.l1 d_ i_ X1 k_0) l11 k13) k55 0 e21.2.2.2.1)∧(((e21.1==7))=false→(zq.j2 (zq.l1 d_ i_ X1 k_0) l11 k13) 0))))))∧((decide (k13≤i_))=false→X1 l11)
def zq (d_:SDesc) (i_:Int) (r_:Int):Prop:=∃k14,zq.l1 d_ i_ (zq.j1 i_ r_) k14 ([]:(List Int)) 0
def zbw.j1 (r_:(Int × Bool)):Prop:=r_=(0,false)
def zbw.l1 (d_:SDesc) (r_:(Int × Bool)) (X1:Prop):Nat→Int→Prop
 | 0,_=>False
 | k_0+1,i6=>((decide (i6<(d_.length:Int)))=true→∃e14:SNode,at? d_ i6=some e14∧∃e17:SNode,(((((e14.1==6)||(e14.1==7)))=true)→at? d_ i6=some e17)∧∃r19:Int,(((((e14.1==6)||(e14.1==7)))=true)→zq d_ e17.2.1 r19)∧(((((e14.1==6)||(e14.1==7))&&(r19 != 0)))=true→r_=(i6,true))∧(((((e14.1==6)||(e14.1==7))&&(r19 != 0)))=false→(InR .i64 (i6+1))∧zbw.l1 d_ r_ X1 k_0 (i6+1)))∧((decide (i6<(d_.length:Int)))=false→X1)
def zbw (d_:SDesc) (r_:(Int × Bool)):Prop:=∃k7,zbw.l1 d_ r_ (zbw.j1 r_) k7 0
def ref08_Right (d_:SDesc) (r_:Bool):Prop:=∃r4:Bool,ref04_Form d_ r4∧(((!r4))=true→r_=false)∧(((!r4))=false→∃r8:(Int × Bool),zbw d_ r8∧r_=(!r8.2))
end Go.Proofs.YtahgmdbioafmbaaGreatDoor.V
namespace Go.Proofs.YtahgmdbioafmbaaGreatDoor.V
open Go
set_option linter.unusedVariables false
set_option maxRecDepth 100000
theorem ref08_Ways_ok {d_:SDesc} {i_:Int} {r_:Int} (h:zq d_ i_ r_):Fn Tryz.prog 86 [(Pd.rep En.SDesc d_),(Pd.rep (En.int .i64) i_)] (Rq (Pd.rep (En.int .i64) r_)):=by
 unfold zq at h
 refine fn_of Tryz.func86 rfl Tryz.ntmps86 (by rfl) (by simp) fun s0 a hL=>?_
 refine wp_seq_k fun K1 hK1=>rg (sx 2 (t_box (o_t 0 rfl) rfl rfl) hL fun a s e_ hL=>?_)
 refine sx 4 (zd (o_i (k:=.i64) (by decide)) rfl rfl) hL fun a s e_ hL=>en' (hK1 _ _ ?_)
 refine wp_seq_k fun K2 hK2=>rg (sx 5 (zd (o_nil (E:=(En.int .i64)) (N:=s0.w.heap.size) (te:=3)) rfl rfl) hL fun a s e_ hL=>?_)
 refine en' (hK2 _ _ ?_)
 refine wp_seq_k fun K3 hK3=>wp_seq_k fun K4 hK4=>rg (sx 6 (zd (o_i (k:=.i64) (by decide)) rfl rfl) hL fun a s e_ hL=>?_)
 refine en' (hK4 _ _ ?_)
 refine wp_block ?_
 have J7:∀(l5:(List Int)) (og6:Option Nat) (a:Act) (s:St),Has N0 96 s0 a s [(1,(Pd.rep (En.int .i64) i_)),(5,(Pd.row (En.int .i64) s0.w.heap.size 3 og6 l5))]→((zq.j1 i_ r_) l5)→K3 a s.w:=by
  intro l5 og6 a s hL h
  unfold zq.j1 at h
  show K3 a s.w
  refine hK3 _ _ (wp_seq_k fun K8 hK8=>?_)
  obtain ⟨e9,h10,h⟩:=h
  refine rg (sx 92 (zb (o_t 5 rfl) rfl rfl) hL fun a s e_ hL=>?_)
  refine sx 93 (zb (o_t 1 rfl) rfl rfl) hL fun a s e_ hL=>sx 94 (zcg (o_t 92 rfl) (o_t 93 rfl) h10 Tryz.underlying91 ty3 rfl rfl) hL fun a s e_ hL=>sx 95 (zu ty3 (o_t 94 rfl) rfl rfl) hL fun a s e_ hL=>sx 4 (zd (o_t 95 rfl) rfl rfl) hL fun a s e_ hL=>en' (hK8 _ _ ?_)
  subst h
  exact wp_ret (retq rfl hL rfl)
 obtain ⟨k14,h⟩:=h
 refine lpg (fun k15 a s=>∃(l11:(List Int)) (k13:Int) (og12:Option Nat),Has N0 96 s0 a s [(1,(Pd.rep (En.int .i64) i_)),(2,(Pd.ptr En.SDesc d_)),(5,(Pd.row (En.int .i64) s0.w.heap.size 3 og12 l11)),(6,(Pd.rep (En.int .i64) k13))]∧zq.l1 d_ i_ (zq.j1 i_ r_) k15 l11 k13) k14 ⟨([]:(List Int)),0,none,hL.keep (.cons (t:=1) rfl nE (.cons (t:=2) rfl nE (.cons (t:=5) rfl (fun _ _ h_=>h_) (.cons (t:=6) rfl nE .nil)))),h⟩ ?_
 rintro k15 a s ⟨l11,k13,og12,hL,h⟩ KL16 hKL16
 cases k15 with
 | zero=>exact h.elim
 | succ k15=>
 unfold zq.l1 at h
 refine wp_seq_k fun K17 hK17=>wp_seq_k fun K18 hK18=>rg (sx 12 (zb (o_t 6 rfl) rfl rfl) hL fun a s e_ hL=>?_)
 refine sx 13 (zb (o_t 1 rfl) rfl rfl) hL fun a s e_ hL=>sx 14 (t_leq (o_t 12 rfl) (o_t 13 rfl) rfl rfl) hL fun a s e_ hL=>en' (hK18 _ _ ?_)
 refine cnd hL rfl (fun hb_=>?_) (fun hb_=>?_)
 ·replace h:=h.1 hb_
  refine wp_skip ?_
  show K17 a s.w
  refine hK17 _ _ (wp_seq_k fun K19 hK19=>?_)
  refine wp_block (wp_seq_k fun K20 hK20=>?_)
  obtain ⟨e21,h22,h⟩:=h
  refine rg (sx 17 (t_fa (off:=0) (o_t 2 rfl) Tryz.underlying24 rfl (zcm (zj _ _)) rfl ty22 rfl rfl) hL fun a s e_ hL=>?_)
  refine sx 18 (zp ty22 (o_t 17 rfl) rfl rfl) hL fun a s e_ hL=>sx 19 (zb (o_t 6 rfl) rfl rfl) hL fun a s e_ hL=>sx 20 (t_idx (o_t 18 rfl) (o_t 19 rfl) h22 Tryz.underlying22 ty68 rfl rfl) hL fun a s e_ hL=>sx 21 (zp ty68 (o_t 20 rfl) rfl rfl) hL fun a s e_ hL=>?_
  have lt_d24:=hL.rlt 5 rfl
  refine zbc En.SNode (z:=(0,0,0,0,0,(0#256),([]:Str))) 7 hL tyz68 rfl rfl rfl rfl fun a s g23 hg_ hL=>?_
  have d24:Dis (some g23) og12:=Dis.newg hg_ lt_d24
  refine zb6 (L':=[(1,(Pd.rep (En.int .i64) i_)),(2,(Pd.ptr En.SDesc d_)),(5,(Pd.row (En.int .i64) s0.w.heap.size 3 og12 l11)),(6,(Pd.rep (En.int .i64) k13))]) 7 hL rfl (o_t 21 rfl) ty68 rfl rfl rfl (.cons (t:=1) rfl nE (.cons (t:=2) rfl nE (.cons (t:=5) rfl (Dis.ow (Dis.symm d24)) (.cons (t:=6) rfl nE .nil)))) fun s hL=>?_
  refine en' (hK20 _ _ ?_)
  refine wp_seq_k fun K25 hK25=>rg (sx 8 (zd (o_i (k:=.i64) (by decide)) rfl rfl) hL fun a s e_ hL=>?_)
  refine en' (hK25 _ _ ?_)
  refine wp_seq_k fun K26 hK26=>wp_seq_k fun K27 hK27=>rg (sx 22 (t_fab (off:=0) (o_t 7 rfl) Tryz.underlying68 rfl (zo (zj _ _)) rfl ty3 rfl rfl) hL fun a s e_ hL=>?_)
  refine sx 23 (zu ty3 (o_t 22 rfl) rfl rfl) hL fun a s e_ hL=>en' (hK27 _ _ ?_)
  refine wp_block (wp_seq_k fun K28 hK28=>?_)
  refine rg (sx 25 (t_eqi (o_t 23 rfl) (o_i (k:=.i64) (by decide)) rfl rfl) hL fun a s e_ hL=>?_)
  refine sx 24 (zd (o_t 25 rfl) rfl rfl) hL fun a s e_ hL=>en' (hK28 _ _ ?_)
  have J30:∀(w29:Int) (a:Act) (s:St),Has N0 96 s0 a s [(1,(Pd.rep (En.int .i64) i_)),(2,(Pd.ptr En.SDesc d_)),(5,(Pd.row (En.int .i64) s0.w.heap.size 3 og12 l11)),(6,(Pd.rep (En.int .i64) k13)),(8,(Pd.rep (En.int .i64) w29))]→((zq.j2 (zq.l1 d_ i_ (zq.j1 i_ r_) k15) l11 k13) w29)→K26 a s.w:=by
   intro w29 a s hL h
   unfold zq.j2 at h
   show K26 a s.w
   refine hK26 _ _ ?_
   obtain ⟨h31,h⟩:=h
   refine rg (sx 87 (zb (o_t 5 rfl) rfl rfl) hL fun a s e_ hL=>?_)
   refine sx 88 (zb (o_t 8 rfl) rfl rfl) hL fun a s e_ hL=>sx 89 (t_min (o_i (k:=.i64) (by decide)) (o_t 88 rfl) rfl rfl) hL fun a s e_ hL=>sx 90 (t_lit (xs:=[.tmp 89]) (.cons (o_t 89 rfl) .nil) Tryz.underlying91 ty3 rfl rfl (by decide) rfl rfl) hL fun a s e_ hL=>st_app (L':=[(1,(Pd.rep (En.int .i64) i_)),(2,(Pd.ptr En.SDesc d_)),(6,(Pd.rep (En.int .i64) k13))]) 91 hL (o_t 87 rfl) (o_t 90 rfl) Tryz.underlying91 ty3 h31 rfl rfl rfl rfl (.cons (t:=1) rfl nE (.cons (t:=2) rfl nE (.cons (t:=6) rfl nE .nil))) fun a s og32 hg_ hL=>?_
   refine sx 5 (zd (o_t 91 rfl) rfl rfl) hL fun a s e_ hL=>en' (hK19 _ _ ?_)
   obtain ⟨h33,h⟩:=h
   refine rg (sx 15 (zb (o_t 6 rfl) rfl rfl) hL fun a s e_ hL=>?_)
   refine sx 16 (t_add (o_t 15 rfl) (o_i (k:=.i64) (by decide)) h33 rfl rfl) hL fun a s e_ hL=>sx 6 (zd (o_t 16 rfl) rfl rfl) hL fun a s e_ hL=>en' ?_
   exact hKL16 k15 a s (Nat.lt_succ_self _) ⟨(l11++[(min 2 w29)]),(k13+1),og32,hL.keep (.cons (t:=1) rfl nE (.cons (t:=2) rfl nE (.cons (t:=5) rfl (fun _ _ h_=>h_) (.cons (t:=6) rfl nE .nil)))),h⟩
  refine cnd hL rfl (fun hb_=>?_) (fun hb_=>?_)
  ·replace h:=h.1 hb_
   refine rg (sx 8 (zd (o_i (k:=.i64) (by decide)) rfl rfl) hL fun a s e_ hL=>?_)
   refine en' ?_
   exact J30 1 a s (hL.keep (.cons (t:=1) rfl nE (.cons (t:=2) rfl nE (.cons (t:=5) rfl (fun _ _ h_=>h_) (.cons (t:=6) rfl nE (.cons (t:=8) rfl nE .nil)))))) h
  ·replace h:=h.2 hb_
   refine wp_seq_k fun K34 hK34=>rg (sx 27 (t_eqi (o_t 23 rfl) (o_i (k:=.i64) (by decide)) rfl rfl) hL fun a s e_ hL=>?_)
   refine sx 26 (zd (o_t 27 rfl) rfl rfl) hL fun a s e_ hL=>en' (hK34 _ _ ?_)
   refine cnd hL rfl (fun hb_=>?_) (fun hb_=>?_)
   ·replace h:=h.1 hb_
    obtain ⟨e35,h36,e37,h38,h39,h⟩:=h
    refine rda zbq 11 [(Pd.row (En.int .i64) s0.w.heap.size 3 og12 l11),(Pd.optr (En.int .i64) s0.w.heap.size (some g23) (1) e21.2.1),(Pd.rep (En.int .i64) e21.2.1),(Pd.optr (En.int .i64) s0.w.heap.size og12 ((e21.2.1:Int).toNat*(En.int .i64).sz) e35),(Pd.rep (En.int .i64) e35),(Pd.row (En.int .i64) s0.w.heap.size 3 og12 l11),(Pd.optr (En.int .i64) s0.w.heap.size (some g23) (2) e21.2.2.1),(Pd.rep (En.int .i64) e21.2.2.1),(Pd.optr (En.int .i64) s0.w.heap.size og12 ((e21.2.2.1:Int).toNat*(En.int .i64).sz) e37),(Pd.rep (En.int .i64) e37),(Pd.rep (En.int .i64) (e35*e37))] hL (by kernel_rfl) rfl rfl ?_ ?_
    ·refine AllT.cons (zb (o_t 5 rfl) rfl rfl) ?_
     refine AllT.cons (t_fab (off:=1) (o_t 7 rfl) Tryz.underlying68 rfl (zg (zo (zj _ _)) rfl) rfl ty3 rfl rfl) (AllT.cons (zu ty3 (o_t 29 rfl) rfl rfl) ?_)
     refine AllT.cons (zcg (o_t 28 rfl) (o_t 30 rfl) h36 Tryz.underlying91 ty3 rfl rfl) (AllT.cons (zu ty3 (o_t 31 rfl) rfl rfl) ?_)
     refine AllT.cons (zb (o_t 5 rfl) rfl rfl) (AllT.cons (t_fab (off:=2) (o_t 7 rfl) Tryz.underlying68 rfl (zg (zg (zo (zj _ _)) rfl) rfl) rfl ty3 rfl rfl) ?_)
     refine AllT.cons (zu ty3 (o_t 34 rfl) rfl rfl) (AllT.cons (zcg (o_t 33 rfl) (o_t 35 rfl) h38 Tryz.underlying91 ty3 rfl rfl) ?_)
     refine AllT.cons (zu ty3 (o_t 36 rfl) rfl rfl) (AllT.cons (t_mul (o_t 32 rfl) (o_t 37 rfl) h39 rfl rfl) ?_)
     exact AllT.nil
    intro a s e_ hL
    refine sx 8 (zd (o_t 38 rfl) rfl rfl) hL fun a s e_ hL=>en' ?_
    exact J30 (e35*e37) a s (hL.keep (.cons (t:=1) rfl nE (.cons (t:=2) rfl nE (.cons (t:=5) rfl (fun _ _ h_=>h_) (.cons (t:=6) rfl nE (.cons (t:=8) rfl nE .nil)))))) h
   ·replace h:=h.2 hb_
    refine wp_seq_k fun K40 hK40=>rg (sx 40 (t_eqi (o_t 23 rfl) (o_i (k:=.i64) (by decide)) rfl rfl) hL fun a s e_ hL=>?_)
    refine sx 39 (zd (o_t 40 rfl) rfl rfl) hL fun a s e_ hL=>en' (hK40 _ _ ?_)
    refine cnd hL rfl (fun hb_=>?_) (fun hb_=>?_)
    ·replace h:=h.1 hb_
     obtain ⟨e41,h42,e43,h44,h45,h⟩:=h
     refine rda zbq 11 [(Pd.row (En.int .i64) s0.w.heap.size 3 og12 l11),(Pd.optr (En.int .i64) s0.w.heap.size (some g23) (1) e21.2.1),(Pd.rep (En.int .i64) e21.2.1),(Pd.optr (En.int .i64) s0.w.heap.size og12 ((e21.2.1:Int).toNat*(En.int .i64).sz) e41),(Pd.rep (En.int .i64) e41),(Pd.row (En.int .i64) s0.w.heap.size 3 og12 l11),(Pd.optr (En.int .i64) s0.w.heap.size (some g23) (2) e21.2.2.1),(Pd.rep (En.int .i64) e21.2.2.1),(Pd.optr (En.int .i64) s0.w.heap.size og12 ((e21.2.2.1:Int).toNat*(En.int .i64).sz) e43),(Pd.rep (En.int .i64) e43),(Pd.rep (En.int .i64) (e41+e43))] hL (by kernel_rfl) rfl rfl ?_ ?_
     ·refine AllT.cons (zb (o_t 5 rfl) rfl rfl) ?_
      refine AllT.cons (t_fab (off:=1) (o_t 7 rfl) Tryz.underlying68 rfl (zg (zo (zj _ _)) rfl) rfl ty3 rfl rfl) (AllT.cons (zu ty3 (o_t 42 rfl) rfl rfl) ?_)
      refine AllT.cons (zcg (o_t 41 rfl) (o_t 43 rfl) h42 Tryz.underlying91 ty3 rfl rfl) (AllT.cons (zu ty3 (o_t 44 rfl) rfl rfl) ?_)
      refine AllT.cons (zb (o_t 5 rfl) rfl rfl) (AllT.cons (t_fab (off:=2) (o_t 7 rfl) Tryz.underlying68 rfl (zg (zg (zo (zj _ _)) rfl) rfl) rfl ty3 rfl rfl) ?_)
      refine AllT.cons (zu ty3 (o_t 47 rfl) rfl rfl) (AllT.cons (zcg (o_t 46 rfl) (o_t 48 rfl) h44 Tryz.underlying91 ty3 rfl rfl) ?_)
      refine AllT.cons (zu ty3 (o_t 49 rfl) rfl rfl) (AllT.cons (t_add (o_t 45 rfl) (o_t 50 rfl) h45 rfl rfl) ?_)
      exact AllT.nil
     intro a s e_ hL
     refine sx 8 (zd (o_t 51 rfl) rfl rfl) hL fun a s e_ hL=>en' ?_
     exact J30 (e41+e43) a s (hL.keep (.cons (t:=1) rfl nE (.cons (t:=2) rfl nE (.cons (t:=5) rfl (fun _ _ h_=>h_) (.cons (t:=6) rfl nE (.cons (t:=8) rfl nE .nil)))))) h
    ·replace h:=h.2 hb_
     refine wp_seq_k fun K46 hK46=>rg (sx 53 (t_eqi (o_t 23 rfl) (o_i (k:=.i64) (by decide)) rfl rfl) hL fun a s e_ hL=>?_)
     refine sx 52 (zd (o_t 53 rfl) rfl rfl) hL fun a s e_ hL=>en' (hK46 _ _ ?_)
     refine cnd hL rfl (fun hb_=>?_) (fun hb_=>?_)
     ·replace h:=h.1 hb_
      refine wp_seq_k fun K47 hK47=>rg (sx 8 (zd (o_i (k:=.i64) (by decide)) rfl rfl) hL fun a s e_ hL=>?_)
      refine en' (hK47 _ _ ?_)
      refine wp_seq_k fun K48 hK48=>?_
      obtain ⟨e49,h50,h⟩:=h
      refine rg (sx 54 (zb (o_t 5 rfl) rfl rfl) hL fun a s e_ hL=>?_)
      refine sx 55 (t_fab (off:=1) (o_t 7 rfl) Tryz.underlying68 rfl (zg (zo (zj _ _)) rfl) rfl ty3 rfl rfl) hL fun a s e_ hL=>sx 56 (zu ty3 (o_t 55 rfl) rfl rfl) hL fun a s e_ hL=>sx 57 (zcg (o_t 54 rfl) (o_t 56 rfl) h50 Tryz.underlying91 ty3 rfl rfl) hL fun a s e_ hL=>sx 58 (zu ty3 (o_t 57 rfl) rfl rfl) hL fun a s e_ hL=>sx 59 (t_gtr (o_t 58 rfl) (o_i (k:=.i64) (by decide)) rfl rfl) hL fun a s e_ hL=>en' (hK48 _ _ ?_)
      refine cnd hL rfl (fun hb_=>?_) (fun hb_=>?_)
      ·replace h:=h.1 hb_
       refine rg (sx 8 (zd (o_i (k:=.i64) (by decide)) rfl rfl) hL fun a s e_ hL=>?_)
       refine en' ?_
       exact J30 2 a s (hL.keep (.cons (t:=1) rfl nE (.cons (t:=2) rfl nE (.cons (t:=5) rfl (fun _ _ h_=>h_) (.cons (t:=6) rfl nE (.cons (t:=8) rfl nE .nil)))))) h
      ·replace h:=h.2 hb_
       refine wp_skip ?_
       exact J30 1 a s (hL.keep (.cons (t:=1) rfl nE (.cons (t:=2) rfl nE (.cons (t:=5) rfl (fun _ _ h_=>h_) (.cons (t:=6) rfl nE (.cons (t:=8) rfl nE .nil)))))) h
     ·replace h:=h.2 hb_
      refine wp_seq_k fun K51 hK51=>rg (sx 61 (t_eqi (o_t 23 rfl) (o_i (k:=.i64) (by decide)) rfl rfl) hL fun a s e_ hL=>?_)
      refine sx 60 (zd (o_t 61 rfl) rfl rfl) hL fun a s e_ hL=>en' (hK51 _ _ ?_)
      refine cnd hL rfl (fun hb_=>?_) (fun hb_=>?_)
      ·replace h:=h.1 hb_
       refine wp_seq_k fun K52 hK52=>rg (sx 62 (t_fab (off:=3) (o_t 7 rfl) Tryz.underlying68 rfl (zg (zg (zg (zo (zj _ _)) rfl) rfl) rfl) rfl ty3 rfl rfl) hL fun a s e_ hL=>?_)
       refine sx 63 (zu ty3 (o_t 62 rfl) rfl rfl) hL fun a s e_ hL=>sx 9 (zd (o_t 63 rfl) rfl rfl) hL fun a s e_ hL=>en' (hK52 _ _ ?_)
       refine wp_block ?_
       obtain ⟨k55,h⟩:=h
       refine lpg (fun k56 a s=>∃(w53:Int) (t54:Int),Has N0 96 s0 a s [(1,(Pd.rep (En.int .i64) i_)),(2,(Pd.ptr En.SDesc d_)),(5,(Pd.row (En.int .i64) s0.w.heap.size 3 og12 l11)),(6,(Pd.rep (En.int .i64) k13)),(7,(Pd.box En.SNode s0.w.heap.size g23 e21)),(8,(Pd.rep (En.int .i64) w53)),(9,(Pd.rep (En.int .i64) t54))]∧Dis og12 (some g23)∧zq.l2 l11 e21 (zq.j2 (zq.l1 d_ i_ (zq.j1 i_ r_) k15) l11 k13) k56 w53 t54) k55 ⟨0,e21.2.2.2.1,hL.keep (.cons (t:=1) rfl nE (.cons (t:=2) rfl nE (.cons (t:=5) rfl (fun _ _ h_=>h_) (.cons (t:=6) rfl nE (.cons (t:=7) rfl (fun _ _ h_=>h_) (.cons (t:=8) rfl nE (.cons (t:=9) rfl nE .nil))))))),(Dis.symm d24),h⟩ ?_
       rintro k56 a s ⟨w53,t54,hL,d58,h⟩ KL57 hKL57
       cases k56 with
       | zero=>exact h.elim
       | succ k56=>
       unfold zq.l2 at h
       refine wp_seq_k fun K59 hK59=>wp_seq_k fun K60 hK60=>rg (sx 64 (zb (o_t 9 rfl) rfl rfl) hL fun a s e_ hL=>?_)
       refine sx 65 (t_fab (off:=4) (o_t 7 rfl) Tryz.underlying68 rfl (zg (zg (zg (zg (zo (zj _ _)) rfl) rfl) rfl) rfl) rfl ty3 rfl rfl) hL fun a s e_ hL=>sx 66 (zu ty3 (o_t 65 rfl) rfl rfl) hL fun a s e_ hL=>sx 67 (t_leq (o_t 64 rfl) (o_t 66 rfl) rfl rfl) hL fun a s e_ hL=>en' (hK60 _ _ ?_)
       refine cnd hL rfl (fun hb_=>?_) (fun hb_=>?_)
       ·replace h:=h.1 hb_
        refine wp_skip ?_
        show K59 a s.w
        refine hK59 _ _ (wp_seq_k fun K61 hK61=>?_)
        refine wp_block (wp_seq_k fun K62 hK62=>?_)
        refine rg (sx 10 (zd (o_i (k:=.i64) (by decide)) rfl rfl) hL fun a s e_ hL=>?_)
        refine en' (hK62 _ _ ?_)
        refine wp_seq_k fun K63 hK63=>wp_seq_k fun K64 hK64=>rg (sx 11 (zd (o_i (k:=.i64) (by decide)) rfl rfl) hL fun a s e_ hL=>?_)
        refine en' (hK64 _ _ ?_)
        refine wp_block ?_
        have J66:∀(p65:Int) (a:Act) (s:St),Has N0 96 s0 a s [(1,(Pd.rep (En.int .i64) i_)),(2,(Pd.ptr En.SDesc d_)),(5,(Pd.row (En.int .i64) s0.w.heap.size 3 og12 l11)),(6,(Pd.rep (En.int .i64) k13)),(7,(Pd.box En.SNode s0.w.heap.size g23 e21)),(8,(Pd.rep (En.int .i64) w53)),(9,(Pd.rep (En.int .i64) t54)),(10,(Pd.rep (En.int .i64) p65))]→Dis og12 (some g23)→((zq.j3 (zq.l2 l11 e21 (zq.j2 (zq.l1 d_ i_ (zq.j1 i_ r_) k15) l11 k13) k56) w53 t54) p65)→K63 a s.w:=by
         intro p65 a s hL d67 h
         unfold zq.j3 at h
         show K63 a s.w
         refine hK63 _ _ ?_
         obtain ⟨h68,h⟩:=h
         refine rg (sx 83 (zb (o_t 8 rfl) rfl rfl) hL fun a s e_ hL=>?_)
         refine sx 84 (zb (o_t 10 rfl) rfl rfl) hL fun a s e_ hL=>sx 85 (t_add (o_t 83 rfl) (o_t 84 rfl) h68 rfl rfl) hL fun a s e_ hL=>sx 86 (t_min (o_i (k:=.i64) (by decide)) (o_t 85 rfl) rfl rfl) hL fun a s e_ hL=>sx 8 (zd (o_t 86 rfl) rfl rfl) hL fun a s e_ hL=>en' (hK61 _ _ ?_)
         obtain ⟨h69,h⟩:=h
         refine rg (sx 68 (zb (o_t 9 rfl) rfl rfl) hL fun a s e_ hL=>?_)
         refine sx 69 (t_add (o_t 68 rfl) (o_i (k:=.i64) (by decide)) h69 rfl rfl) hL fun a s e_ hL=>sx 9 (zd (o_t 69 rfl) rfl rfl) hL fun a s e_ hL=>en' ?_
         exact hKL57 k56 a s (Nat.lt_succ_self _) ⟨(min 2 (w53+p65)),(t54+1),hL.keep (.cons (t:=1) rfl nE (.cons (t:=2) rfl nE (.cons (t:=5) rfl (fun _ _ h_=>h_) (.cons (t:=6) rfl nE (.cons (t:=7) rfl (fun _ _ h_=>h_) (.cons (t:=8) rfl nE (.cons (t:=9) rfl nE .nil))))))),d67,h⟩
        obtain ⟨k72,h⟩:=h
        refine lpg (fun k73 a s=>∃(p70:Int) (m71:Int),Has N0 96 s0 a s [(1,(Pd.rep (En.int .i64) i_)),(2,(Pd.ptr En.SDesc d_)),(5,(Pd.row (En.int .i64) s0.w.heap.size 3 og12 l11)),(6,(Pd.rep (En.int .i64) k13)),(7,(Pd.box En.SNode s0.w.heap.size g23 e21)),(8,(Pd.rep (En.int .i64) w53)),(9,(Pd.rep (En.int .i64) t54)),(10,(Pd.rep (En.int .i64) p70)),(11,(Pd.rep (En.int .i64) m71))]∧Dis og12 (some g23)∧zq.l3 l11 e21 t54 (zq.j3 (zq.l2 l11 e21 (zq.j2 (zq.l1 d_ i_ (zq.j1 i_ r_) k15) l11 k13) k56) w53 t54) k73 p70 m71) k72 ⟨1,0,hL.keep (.cons (t:=1) rfl nE (.cons (t:=2) rfl nE (.cons (t:=5) rfl (fun _ _ h_=>h_) (.cons (t:=6) rfl nE (.cons (t:=7) rfl (fun _ _ h_=>h_) (.cons (t:=8) rfl nE (.cons (t:=9) rfl nE (.cons (t:=10) rfl nE (.cons (t:=11) rfl nE .nil))))))))),d58,h⟩ ?_
        rintro k73 a s ⟨p70,m71,hL,d75,h⟩ KL74 hKL74
        cases k73 with
        | zero=>exact h.elim
        | succ k73=>
        unfold zq.l3 at h
        refine wp_seq_k fun K76 hK76=>wp_seq_k fun K77 hK77=>rg (sx 70 (zb (o_t 11 rfl) rfl rfl) hL fun a s e_ hL=>?_)
        refine sx 71 (zb (o_t 9 rfl) rfl rfl) hL fun a s e_ hL=>sx 72 (t_lss (o_t 70 rfl) (o_t 71 rfl) rfl rfl) hL fun a s e_ hL=>en' (hK77 _ _ ?_)
        refine cnd hL rfl (fun hb_=>?_) (fun hb_=>?_)
        ·replace h:=h.1 hb_
         refine wp_skip ?_
         show K76 a s.w
         refine hK76 _ _ (wp_seq_k fun K78 hK78=>?_)
         refine wp_block ?_
         obtain ⟨e79,h80,h81,h⟩:=h
         refine rg (sx 75 (zb (o_t 10 rfl) rfl rfl) hL fun a s e_ hL=>?_)
         refine sx 76 (zb (o_t 5 rfl) rfl rfl) hL fun a s e_ hL=>sx 77 (t_fab (off:=1) (o_t 7 rfl) Tryz.underlying68 rfl (zg (zo (zj _ _)) rfl) rfl ty3 rfl rfl) hL fun a s e_ hL=>sx 78 (zu ty3 (o_t 77 rfl) rfl rfl) hL fun a s e_ hL=>sx 79 (zcg (o_t 76 rfl) (o_t 78 rfl) h80 Tryz.underlying91 ty3 rfl rfl) hL fun a s e_ hL=>sx 80 (zu ty3 (o_t 79 rfl) rfl rfl) hL fun a s e_ hL=>sx 81 (t_mul (o_t 75 rfl) (o_t 80 rfl) h81 rfl rfl) hL fun a s e_ hL=>sx 82 (t_min (o_i (k:=.i64) (by decide)) (o_t 81 rfl) rfl rfl) hL fun a s e_ hL=>sx 10 (zd (o_t 82 rfl) rfl rfl) hL fun a s e_ hL=>en' (hK78 _ _ ?_)
         obtain ⟨h82,h⟩:=h
         refine rg (sx 73 (zb (o_t 11 rfl) rfl rfl) hL fun a s e_ hL=>?_)
         refine sx 74 (t_add (o_t 73 rfl) (o_i (k:=.i64) (by decide)) h82 rfl rfl) hL fun a s e_ hL=>sx 11 (zd (o_t 74 rfl) rfl rfl) hL fun a s e_ hL=>en' ?_
         exact hKL74 k73 a s (Nat.lt_succ_self _) ⟨(min 2 (p70*e79)),(m71+1),hL.keep (.cons (t:=1) rfl nE (.cons (t:=2) rfl nE (.cons (t:=5) rfl (fun _ _ h_=>h_) (.cons (t:=6) rfl nE (.cons (t:=7) rfl (fun _ _ h_=>h_) (.cons (t:=8) rfl nE (.cons (t:=9) rfl nE (.cons (t:=10) rfl nE (.cons (t:=11) rfl nE .nil))))))))),d75,h⟩
        ·replace h:=h.2 hb_
         refine wp_exit ?_
         exact J66 p70 a s (hL.keep (.cons (t:=1) rfl nE (.cons (t:=2) rfl nE (.cons (t:=5) rfl (fun _ _ h_=>h_) (.cons (t:=6) rfl nE (.cons (t:=7) rfl (fun _ _ h_=>h_) (.cons (t:=8) rfl nE (.cons (t:=9) rfl nE (.cons (t:=10) rfl nE .nil))))))))) d75 h
       ·replace h:=h.2 hb_
        refine wp_exit ?_
        exact J30 w53 a s (hL.keep (.cons (t:=1) rfl nE (.cons (t:=2) rfl nE (.cons (t:=5) rfl (fun _ _ h_=>h_) (.cons (t:=6) rfl nE (.cons (t:=8) rfl nE .nil)))))) h
      ·replace h:=h.2 hb_
       refine wp_skip ?_
       exact J30 0 a s (hL.keep (.cons (t:=1) rfl nE (.cons (t:=2) rfl nE (.cons (t:=5) rfl (fun _ _ h_=>h_) (.cons (t:=6) rfl nE (.cons (t:=8) rfl nE .nil)))))) h
 ·replace h:=h.2 hb_
  refine wp_exit ?_
  exact J7 l11 og12 a s (hL.keep (.cons (t:=1) rfl nE (.cons (t:=5) rfl (fun _ _ h_=>h_) .nil))) h
theorem ref08_First_ok {d_:SDesc} {r_:(Int × Bool)} (h:zbw d_ r_):Fn Tryz.prog 50 [(Pd.rep En.SDesc d_)] (Rq2 (Pd.rep (En.int .i64) r_.1) (Pd.rep En.bool r_.2)):=by
 unfold zbw at h
 refine fn_of Tryz.func50 rfl Tryz.ntmps50 (by rfl) (by simp) fun s0 a hL=>?_
 refine wp_seq_k fun K1 hK1=>rg (sx 1 (t_box (o_t 0 rfl) rfl rfl) hL fun a s e_ hL=>?_)
 refine sx 2 (zd (o_i (k:=.i64) (by decide)) rfl rfl) hL fun a s e_ hL=>sx 3 (zd o_b rfl rfl) hL fun a s e_ hL=>en' (hK1 _ _ ?_)
 refine wp_seq_k fun K2 hK2=>wp_seq_k fun K3 hK3=>rg (sx 4 (zd (o_i (k:=.i64) (by decide)) rfl rfl) hL fun a s e_ hL=>?_)
 refine en' (hK3 _ _ ?_)
 refine wp_block ?_
 have J4:∀(a:Act) (s:St),Has N0 37 s0 a s []→((zbw.j1 r_))→K2 a s.w:=by
  intro a s hL h
  unfold zbw.j1 at h
  show K2 a s.w
  refine hK2 _ _ (wp_seq_k fun K5 hK5=>?_)
  refine rg (sx 2 (zd (o_i (k:=.i64) (by decide)) rfl rfl) hL fun a s e_ hL=>?_)
  refine sx 3 (zd o_b rfl rfl) hL fun a s e_ hL=>en' (hK5 _ _ ?_)
  subst h
  exact wp_ret (ret2 rfl hL rfl rfl)
 obtain ⟨k7,h⟩:=h
 refine lpg (fun k8 a s=>∃(i6:Int),Has N0 37 s0 a s [(1,(Pd.ptr En.SDesc d_)),(4,(Pd.rep (En.int .i64) i6))]∧zbw.l1 d_ r_ (zbw.j1 r_) k8 i6) k7 ⟨0,hL.keep (.cons (t:=1) rfl nE (.cons (t:=4) rfl nE .nil)),h⟩ ?_
 rintro k8 a s ⟨i6,hL,h⟩ KL9 hKL9
 cases k8 with
 | zero=>exact h.elim
 | succ k8=>
 unfold zbw.l1 at h
 refine wp_seq_k fun K10 hK10=>wp_seq_k fun K11 hK11=>rg (sx 6 (zb (o_t 4 rfl) rfl rfl) hL fun a s e_ hL=>?_)
 refine sx 7 (t_fa (off:=0) (o_t 1 rfl) Tryz.underlying24 rfl (zcm (zj _ _)) rfl ty22 rfl rfl) hL fun a s e_ hL=>sx 8 (zp ty22 (o_t 7 rfl) rfl rfl) hL fun a s e_ hL=>sx 9 (t_len (o_t 8 rfl) Tryz.underlying22 rfl rfl) hL fun a s e_ hL=>sx 10 (t_lss (o_t 6 rfl) (o_t 9 rfl) rfl rfl) hL fun a s e_ hL=>en' (hK11 _ _ ?_)
 refine cnd hL rfl (fun hb_=>?_) (fun hb_=>?_)
 ·replace h:=h.1 hb_
  refine wp_skip ?_
  show K10 a s.w
  refine hK10 _ _ (wp_seq_k fun K12 hK12=>?_)
  refine wp_block (wp_seq_k fun K13 hK13=>?_)
  obtain ⟨e14,h15,h⟩:=h
  refine rg (sx 13 (t_fa (off:=0) (o_t 1 rfl) Tryz.underlying24 rfl (zcm (zj _ _)) rfl ty22 rfl rfl) hL fun a s e_ hL=>?_)
  refine sx 14 (zp ty22 (o_t 13 rfl) rfl rfl) hL fun a s e_ hL=>sx 15 (zb (o_t 4 rfl) rfl rfl) hL fun a s e_ hL=>sx 16 (t_idx (o_t 14 rfl) (o_t 15 rfl) h15 Tryz.underlying22 ty68 rfl rfl) hL fun a s e_ hL=>sx 17 (t_fa (off:=0) (o_t 16 rfl) Tryz.underlying68 rfl (zo (zj _ _)) rfl ty3 rfl rfl) hL fun a s e_ hL=>sx 18 (zp ty3 (o_t 17 rfl) rfl rfl) hL fun a s e_ hL=>sx 5 (zd (o_t 18 rfl) rfl rfl) hL fun a s e_ hL=>en' (hK13 _ _ ?_)
  refine wp_seq_k fun K16 hK16=>?_
  obtain ⟨e17,h18,r19,h20,h⟩:=h
  refine rda zbq 17 [(Pd.rep (En.int .i64) e14.1),(Pd.rep En.bool (e14.1==6)),(Pd.rep En.bool (e14.1==6)),(Pd.when (((e14.1==6))=false) (Pd.rep (En.int .i64) e14.1)),(Pd.when (((e14.1==6))=false) (Pd.rep En.bool (e14.1==7))),(Pd.rep En.bool ((e14.1==6)||(e14.1==7))),(Pd.rep En.bool ((e14.1==6)||(e14.1==7))),(Pd.when ((((e14.1==6)||(e14.1==7)))=true) (Pd.rep En.SDesc d_)),(Pd.when ((((e14.1==6)||(e14.1==7)))=true) (Pd.ptr (En.slice En.SNode) d_)),(Pd.when ((((e14.1==6)||(e14.1==7)))=true) (Pd.rep (En.slice En.SNode) d_)),(Pd.when ((((e14.1==6)||(e14.1==7)))=true) (Pd.rep (En.int .i64) i6)),(Pd.when ((((e14.1==6)||(e14.1==7)))=true) (Pd.ptr En.SNode e17)),(Pd.when ((((e14.1==6)||(e14.1==7)))=true) (Pd.ptr (En.int .i64) e17.2.1)),(Pd.when ((((e14.1==6)||(e14.1==7)))=true) (Pd.rep (En.int .i64) e17.2.1)),(Pd.when ((((e14.1==6)||(e14.1==7)))=true) (Pd.rep (En.int .i64) r19)),(Pd.when ((((e14.1==6)||(e14.1==7)))=true) (Pd.rep En.bool (r19 != 0))),(Pd.rep En.bool (((e14.1==6)||(e14.1==7))&&(r19 != 0)))] hL (by kernel_rfl) rfl rfl ?_ ?_
  ·refine AllT.cons (zb (o_t 5 rfl) rfl rfl) ?_
   refine AllT.cons (t_eqi (o_t 19 rfl) (o_i (k:=.i64) (by decide)) rfl rfl) (AllT.cons (zb (o_t 20 rfl) rfl rfl) ?_)
   refine AllT.cons (t_g1 rfl rfl rfl (fun hc_=>zb (o_t 5 rfl) rfl rfl)) (AllT.cons (t_g1 rfl rfl rfl (fun hc_=>t_eqi (o_w hc_ 22 rfl) (o_i (k:=.i64) (by decide)) rfl rfl)) ?_)
   refine AllT.cons (t_or (o_t 21 rfl) (fun hc2_=>(o_w hc2_ 23 rfl)) rfl rfl) (AllT.cons (zb (o_t 24 rfl) rfl rfl) ?_)
   refine AllT.cons (t_g1 rfl rfl rfl (fun hc_=>zp ty24 (o_t 1 rfl) rfl rfl)) (AllT.cons (t_g1 rfl rfl rfl (fun hc_=>t_fa (off:=0) (o_t 1 rfl) Tryz.underlying24 rfl (zcm (zj _ _)) rfl ty22 rfl rfl)) ?_)
   refine AllT.cons (t_g1 rfl rfl rfl (fun hc_=>zp ty22 (o_w hc_ 27 rfl) rfl rfl)) (AllT.cons (t_g1 rfl rfl rfl (fun hc_=>zb (o_t 4 rfl) rfl rfl)) ?_)
   refine AllT.cons (t_g1 rfl rfl rfl (fun hc_=>t_idx (o_w hc_ 28 rfl) (o_w hc_ 29 rfl) (h18 hc_) Tryz.underlying22 ty68 rfl rfl)) (AllT.cons (t_g1 rfl rfl rfl (fun hc_=>t_fa (off:=1) (o_w hc_ 30 rfl) Tryz.underlying68 rfl (zg (zo (zj _ _)) rfl) rfl ty3 rfl rfl)) ?_)
   refine AllT.cons (t_g1 rfl rfl rfl (fun hc_=>zp ty3 (o_w hc_ 31 rfl) rfl rfl)) (AllT.cons (t_g1 rfl rfl rfl (fun hc_=>zw (ref08_Ways_ok (h20 hc_)) (xs:=[.tmp 26,.tmp 32]) (.cons (o_w hc_ 26 rfl) (.cons (o_w hc_ 32 rfl) .nil)) rfl rfl)) ?_)
   refine AllT.cons (t_g1 rfl rfl rfl (fun hc_=>t_nei (o_w hc_ 33 rfl) (o_i (k:=.i64) (by decide)) rfl rfl)) (AllT.cons (t_and (o_t 25 rfl) (fun hc2_=>(o_w hc2_ 34 rfl)) rfl rfl) ?_)
   exact AllT.nil
  intro a s e_ hL
  refine en' (hK16 _ _ ?_)
  refine cnd hL rfl (fun hb_=>?_) (fun hb_=>?_)
  ·replace h:=h.1 hb_
   refine wp_seq_k fun K21 hK21=>rg (sx 36 (zb (o_t 4 rfl) rfl rfl) hL fun a s e_ hL=>?_)
   refine sx 2 (zd (o_t 36 rfl) rfl rfl) hL fun a s e_ hL=>sx 3 (zd o_b rfl rfl) hL fun a s e_ hL=>en' (hK21 _ _ ?_)
   subst h
   exact wp_ret (ret2 rfl hL rfl rfl)
  ·replace h:=h.2 hb_
   refine wp_skip ?_
   show K12 a s.w
   refine hK12 _ _ ?_
   obtain ⟨h22,h⟩:=h
   refine rg (sx 11 (zb (o_t 4 rfl) rfl rfl) hL fun a s e_ hL=>?_)
   refine sx 12 (t_add (o_t 11 rfl) (o_i (k:=.i64) (by decide)) h22 rfl rfl) hL fun a s e_ hL=>sx 4 (zd (o_t 12 rfl) rfl rfl) hL fun a s e_ hL=>en' ?_
   exact hKL9 k8 a s (Nat.lt_succ_self _) ⟨(i6+1),hL.keep (.cons (t:=1) rfl nE (.cons (t:=4) rfl nE .nil)),h⟩
 ·replace h:=h.2 hb_
  refine wp_exit ?_
  exact J4 a s (hL.keep .nil) h
theorem ref08_Right_ok {d_:SDesc} {r_:Bool} (h:ref08_Right d_ r_):Fn Tryz.prog 14 [(Pd.rep En.SDesc d_)] (Rq (Pd.rep En.bool r_)):=by
 unfold ref08_Right at h
 refine fn_of Tryz.func14 rfl Tryz.ntmps14 (by rfl) (by simp) fun s0 a hL=>?_
 refine wp_seq_k fun K1 hK1=>rg (sx 1 (t_box (o_t 0 rfl) rfl rfl) hL fun a s e_ hL=>?_)
 refine sx 2 (zd o_b rfl rfl) hL fun a s e_ hL=>en' (hK1 _ _ ?_)
 refine wp_seq_k fun K2 hK2=>wp_seq_k fun K3 hK3=>?_
 obtain ⟨r4,h5,h⟩:=h
 refine rg (sx 5 (zp ty24 (o_t 1 rfl) rfl rfl) hL fun a s e_ hL=>?_)
 refine sx 6 (zw (ref04_Form_ok h5) (xs:=[.tmp 5]) (.cons (o_t 5 rfl) .nil) rfl rfl) hL fun a s e_ hL=>sx 7 (t_not (o_t 6 rfl) rfl rfl) hL fun a s e_ hL=>en' (hK3 _ _ ?_)
 refine cnd hL rfl (fun hb_=>?_) (fun hb_=>?_)
 ·replace h:=h.1 hb_
  refine wp_seq_k fun K6 hK6=>rg (sx 2 (zd o_b rfl rfl) hL fun a s e_ hL=>?_)
  refine en' (hK6 _ _ ?_)
  subst h
  exact wp_ret (retq rfl hL rfl)
 ·replace h:=h.2 hb_
  refine wp_skip ?_
  show K2 a s.w
  refine hK2 _ _ (wp_seq_k fun K7 hK7=>?_)
  obtain ⟨r8,h9,h⟩:=h
  refine rg (sx 9 (zp ty24 (o_t 1 rfl) rfl rfl) hL fun a s e_ hL=>?_)
  refine sx 10 (zw ((ref08_First_ok h9).tup) (xs:=[.tmp 9]) (.cons (o_t 9 rfl) .nil) rfl rfl) hL fun a s e_ hL=>sx 8 (zb (o_t 10 rfl) rfl rfl) hL fun a s e_ hL=>sx 11 (t_ext0 (o_t 8 rfl) rfl rfl) hL fun a s e_ hL=>sx 12 (t_ext1 (o_t 8 rfl) rfl rfl) hL fun a s e_ hL=>sx 3 (zd (o_t 11 rfl) rfl rfl) hL fun a s e_ hL=>sx 4 (zd (o_t 12 rfl) rfl rfl) hL fun a s e_ hL=>en' (hK7 _ _ ?_)
  refine wp_seq_k fun K10 hK10=>rg (sx 13 (zb (o_t 4 rfl) rfl rfl) hL fun a s e_ hL=>?_)
  refine sx 14 (t_not (o_t 13 rfl) rfl rfl) hL fun a s e_ hL=>sx 2 (zd (o_t 14 rfl) rfl rfl) hL fun a s e_ hL=>en' (hK10 _ _ ?_)
  subst h
  exact wp_ret (retq rfl hL rfl)
end Go.Proofs.YtahgmdbioafmbaaGreatDoor.V
namespace Go.Proofs.YtahgmdbioafmbaaGreatDoor.V
open Go
set_option linter.unusedVariables false
def zc5 (x_:SItem) (y_:SItem) (r_:Int):Prop:=∃r3:Int,zcp x_.1 y_.1 r3∧∃r5:Int,zcp x_.2.1 y_.2.1 r5∧∃r7:Int,zcp x_.2.2.1 y_.2.2.1 r7∧∃r9:Int,zcp x_.2.2.2 y_.2.2.2 r9∧∃r11:Int,zcj [r3,r5,r7,r9] r11∧r_=r11
def item_Compare (a_:(List SItem)) (b_:(List SItem)) (r_:Int):Prop:=∃r4:Int,zcp (a_.length:Int) (b_.length:Int) r4∧(((r4 != 0))=true→r_=r4)∧(((r4 != 0))=false→∃r9:Int,zh a_ b_ (fun q_=>zc5 q_.1 q_.2.1 q_.2.2) r9∧r_=r9)
def zcc.j1 (r_:((List SItem) × Bool)) (out8:(List SItem)):Prop:=r_=(out8,true)
def zcc.l1 (r3:(List SItem)) (r_:((List SItem) × Bool)) (X1:(List SItem)→Prop):Nat→(List SItem)→Int→Prop
 | 0,_,_=>False
 | k_0+1,out12,v14=>((decide (v14<(r3.length:Int)))=true→∃e22:SItem,at? out12 v14=some e22∧(((e22.1 != 5))=true→(InR .i64 (v14+1))∧zcc.l1 r3 r_ X1 k_0 out12 (v14+1))∧(((e22.1 != 5))=false→((decide (e22.2.2.1≤0))=true→r_=(([]:(List SItem)),false))∧((decide (e22.2.2.1≤0))=false→∃e32:SItem,at? out12 v14=some e32∧(InR .i64 (e32.2.2.1-1))∧∃e35:SItem,at? out12 v14=some e35∧(InR .i64 (v14+1))∧zcc.l1 r3 r_ X1 k_0 (out12.set (v14:Int).toNat (e35.1,e35.2.1,e32.2.2.1-1,e35.2.2.2)) (v14+1))))∧((decide (v14<(r3.length:Int)))=false→X1 out12)
def zcc (s_:(List SItem)) (r_:((List SItem) × Bool)):Prop:=∃r3:(List SItem),zbu s_ r3∧∃k15,zcc.l1 r3 r_ (zcc.j1 r_) k15 r3 0
def item_Start (d_:SDesc) (r_:(List SItem)):Prop:=(InR .i64 ((d_.length:Int)-1))∧r_=[(1,(d_.length:Int)-1,0,0)]
def zbk.j1 (r_:(List Int)) (out6:(List Int)):Prop:=r_=out6
def zbk.l1 (s_:(List SItem)) (X1:(List Int)→Prop):Nat→(List Int)→Int→Prop
 | 0,_,_=>False
 | k_0+1,out10,i12=>((decide (i12<(s_.length:Int)))=true→∃e19:SItem,at? s_ i12=some e19∧∃e21:SItem,at? s_ i12=some e21∧∃e23:SItem,at? s_ i12=some e23∧∃e25:SItem,at? s_ i12=some e25∧(out10.length+[e19.1,e21.2.1,e23.2.2.1,e25.2.2.2].length≤2147483648)∧(InR .i64 (i12+1))∧zbk.l1 s_ X1 k_0 (out10++[e19.1,e21.2.1,e23.2.2.1,e25.2.2.2]) (i12+1))∧((decide (i12<(s_.length:Int)))=false→X1 out10)
def zbk (s_:(List SItem)) (r_:(List Int)):Prop:=∃k13,zbk.l1 s_ (zbk.j1 r_) k13 [(s_.length:Int)] 0
def zbd.j1 (r_:Int):Prop:=r_=0
def zbd.l1 (r3:(List Int)) (r6:(List Int)) (r_:Int) (X1:Prop):Nat→Int→Prop
 | 0,_=>False
 | k_0+1,i12=>∃b18:Bool,b18=((decide (i12<(r3.length:Int)))&&(decide (i12<(r6.length:Int))))∧((b18)=true→∃e23:Int,at? r3 i12=some e23∧∃e25:Int,at? r6 i12=some e25∧((decide (e23<e25))=true→r_=(-1))∧((decide (e23<e25))=false→∃e29:Int,at? r3 i12=some e29∧∃e31:Int,at? r6 i12=some e31∧((decide (e31<e29))=true→r_=1)∧((decide (e31<e29))=false→(InR .i64 (i12+1))∧zbd.l1 r3 r6 r_ X1 k_0 (i12+1))))∧((b18)=false→X1)
def zbd (a_:(List SItem)) (b_:(List SItem)) (r_:Int):Prop:=∃r3:(List Int),zbk a_ r3∧∃r6:(List Int),zbk b_ r6∧∃k13,zbd.l1 r3 r6 r_ (zbd.j1 r_) k13 0
def ref13_Same (a_:(List SItem)) (b_:(List SItem)) (r_:Bool):Prop:=∃r3:Int,zbd a_ b_ r3∧r_=(r3==0)
def ref13_form (d_:SDesc) (x_:SItem) (r_:Bool):Prop:=(((x_.1==5))=true→∃b5:Bool,b5=(((x_.2.1==0)&&(x_.2.2.2==0))&&(decide (0≤x_.2.2.1)))∧r_=(b5&&(decide (x_.2.2.1≤65535))))∧(((x_.1==5))=false→∃b9:Bool,b9=((decide (x_.2.1<0))||(decide ((d_.length:Int)≤x_.2.1)))∧((b9)=true→r_=false)∧((b9)=false→∃e13:SNode,at? d_ x_.2.1=some e13∧(((x_.1==1))=true→r_=((x_.2.2.1==0)&&(x_.2.2.2==0)))∧(((x_.1==1))=false→(((x_.1==2))=true→∃b22:Bool,b22=(((e13.1==7)&&(decide (0≤x_.2.2.1)))&&(decide (x_.2.2.1≤x_.2.2.2)))∧r_=(b22&&(decide (x_.2.2.2≤e13.2.2.2.2.1))))∧(((x_.1==2))=false→(((x_.1==3))=true→∃b26:Bool,b26=(((e13.1==3)&&(x_.2.2.2==0))&&(decide (0≤x_.2.2.1)))∧∃b28:Bool,b28=(b26&&(decide (x_.2.2.1<(e13.2.2.2.2.2.2.length:Int))))∧r_=b28)∧(((x_.1==3))=false→(((x_.1==4))=true→∃b32:Bool,b32=(((e13.1==9)&&(x_.2.2.2==0))&&(decide (0≤x_.2.2.1)))∧r_=(b32&&(decide (x_.2.2.1≤255))))∧(((x_.1==4))=false→r_=false))))))
def zci.j1 (r_:Bool):Prop:=r_=true
def zci.l1 (d_:SDesc) (s_:(List SItem)) (r_:Bool) (X1:Prop):Nat→Int→Prop
 | 0,_=>False
 | k_0+1,i6=>((decide (i6<(s_.length:Int)))=true→∃e14:SItem,at? s_ i6=some e14∧∃r16:Bool,ref13_form d_ e14 r16∧(((!r16))=true→r_=false)∧(((!r16))=false→(InR .i64 (i6+1))∧zci.l1 d_ s_ r_ X1 k_0 (i6+1)))∧((decide (i6<(s_.length:Int)))=false→X1)
def zci (d_:SDesc) (s_:(List SItem)) (r_:Bool):Prop:=∃k7,zci.l1 d_ s_ r_ (zci.j1 r_) k7 0
def zbs.j1 (r_:((List SItem) × Bool)) (out5:(List SItem)):Prop:=r_=(out5,true)
def zbs.j2 (L1_:(List SItem)→Int→Prop) (out9:(List SItem)) (i11:Int) (x25:SItem):Prop:=(out9.length+[x25].length≤2147483648)∧(InR .i64 (i11+1))∧L1_ (out9++[x25]) (i11+1)
def zbs.l1 (s_:(List SItem)) (r_:((List SItem) × Bool)) (X1:(List SItem)→Prop):Nat→(List SItem)→Int→Prop
 | 0,_,_=>False
 | k_0+1,out9,i11=>((decide (i11<(s_.length:Int)))=true→∃e19:SItem,at? s_ i11=some e19∧(((e19.1==5))=true→((decide (e19.2.2.1≤0))=true→r_=(([]:(List SItem)),false))∧((decide (e19.2.2.1≤0))=false→(InR .i64 (e19.2.2.1-1))∧(zbs.j2 (zbs.l1 s_ r_ X1 k_0) out9 i11) (e19.1,e19.2.1,e19.2.2.1-1,e19.2.2.2)))∧(((e19.1==5))=false→(zbs.j2 (zbs.l1 s_ r_ X1 k_0) out9 i11) e19))∧((decide (i11<(s_.length:Int)))=false→X1 out9)
def zbs (s_:(List SItem)) (r_:((List SItem) × Bool)):Prop:=∃k12,zbs.l1 s_ r_ (zbs.j1 r_) k12 ([]:(List SItem)) 0
end Go.Proofs.YtahgmdbioafmbaaGreatDoor.V
namespace Go.Proofs.YtahgmdbioafmbaaGreatDoor.V
open Go
set_option linter.unusedVariables false
set_option maxRecDepth 100000
theorem item_Lower_ok {s_:(List SItem)} {r_:((List SItem) × Bool)} (h:zcc s_ r_):Fn Tryz.prog 118 [(Pd.rep (En.slice En.SItem) s_)] (Ro2 En.SItem 77 r_.1 (Pd.rep En.bool r_.2)):=by
 unfold zcc at h
 refine fn_of Tryz.func118 rfl Tryz.ntmps118 (by rfl) (by simp) fun s0 a hL=>?_
 refine wp_seq_k fun K1 hK1=>rg (sx 2 (zd (o_nil (E:=En.SItem) (N:=s0.w.heap.size) (te:=77)) rfl rfl) hL fun a s e_ hL=>?_)
 refine sx 3 (zd o_b rfl rfl) hL fun a s e_ hL=>en' (hK1 _ _ ?_)
 refine wp_seq_k fun K2 hK2=>?_
 obtain ⟨r3,h4,h⟩:=h
 refine rg (sx 7 (zb (o_t 0 rfl) rfl rfl) hL fun a s e_ hL=>?_)
 refine st_callo 8 hL (zc0 h4) (xs:=[.tmp 7]) (.cons (o_t 7 rfl) .nil) rfl rfl rfl rfl fun a s og5 hg_ hL=>?_
 refine sx 4 (zd (o_t 8 rfl) rfl rfl) hL fun a s e_ hL=>en' (hK2 _ _ ?_)
 refine wp_seq_k fun K6 hK6=>wp_seq_k fun K7 hK7=>rg (sx 9 (zb (o_t 4 rfl) rfl rfl) hL fun a s e_ hL=>?_)
 refine sx 10 (t_leno (o_t 9 rfl) Tryz.underlying47 rfl rfl) hL fun a s e_ hL=>sx 11 (zb (o_i (k:=.i64) (by decide)) rfl rfl) hL fun a s e_ hL=>en' (hK7 _ _ ?_)
 refine wp_block ?_
 have J10:∀(out8:(List SItem)) (og9:Option Nat) (a:Act) (s:St),Has N0 32 s0 a s [(4,(Pd.row En.SItem s0.w.heap.size 77 og9 out8))]→((zcc.j1 r_) out8)→K6 a s.w:=by
  intro out8 og9 a s hL h
  unfold zcc.j1 at h
  show K6 a s.w
  refine hK6 _ _ (wp_seq_k fun K11 hK11=>?_)
  refine rg (sx 31 (zb (o_t 4 rfl) rfl rfl) hL fun a s e_ hL=>?_)
  refine sx 2 (zd (o_t 31 rfl) rfl rfl) hL fun a s e_ hL=>sx 3 (zd o_b rfl rfl) hL fun a s e_ hL=>en' (hK11 _ _ ?_)
  subst h
  exact wp_ret (reto2 rfl hL rfl rfl)
 obtain ⟨k15,h⟩:=h
 refine lpg (fun k16 a s=>∃(out12:(List SItem)) (v14:Int) (og13:Option Nat),Has N0 32 s0 a s [(4,(Pd.row En.SItem s0.w.heap.size 77 og13 out12)),(9,(Pd.row En.SItem s0.w.heap.size 77 og13 out12)),(10,(Pd.rep (En.int .i64) (r3.length:Int))),(11,(Pd.rep (En.int .i64) v14))]∧zcc.l1 r3 r_ (zcc.j1 r_) k16 out12 v14) k15 ⟨r3,0,og5,hL.keep (.cons (t:=4) rfl (fun _ _ h_=>h_) (.cons (t:=9) rfl (fun _ _ h_=>h_) (.cons (t:=10) rfl nE (.cons (t:=11) rfl nE .nil)))),h⟩ ?_
 rintro k16 a s ⟨out12,v14,og13,hL,h⟩ KL17 hKL17
 cases k16 with
 | zero=>exact h.elim
 | succ k16=>
 unfold zcc.l1 at h
 refine wp_seq_k fun K18 hK18=>rg (sx 12 (t_lss (o_t 11 rfl) (o_t 10 rfl) rfl rfl) hL fun a s e_ hL=>?_)
 refine en' (hK18 _ _ ?_)
 refine wp_seq_k fun K19 hK19=>cnd hL rfl (fun hb_=>?_) (fun hb_=>?_)
 ·replace h:=h.1 hb_
  refine wp_skip ?_
  show K19 a s.w
  refine hK19 _ _ (wp_seq_k fun K20 hK20=>?_)
  refine wp_block (wp_seq_k fun K21 hK21=>?_)
  obtain ⟨e22,h23,h⟩:=h
  refine rg (sx 13 (zb (o_t 11 rfl) rfl rfl) hL fun a s e_ hL=>?_)
  refine sx 14 (zcg (o_t 9 rfl) (o_t 11 rfl) h23 Tryz.underlying47 ty77 rfl rfl) hL fun a s e_ hL=>sx 15 (zu ty77 (o_t 14 rfl) rfl rfl) hL fun a s e_ hL=>?_
  have lt_d25:=hL.rlt 4 rfl
  refine zbc En.SItem (z:=(0,0,0,0)) 6 hL tyz77 rfl rfl rfl rfl fun a s g24 hg_ hL=>?_
  have d25:Dis (some g24) og13:=Dis.newg hg_ lt_d25
  refine sx 5 (zd (o_t 13 rfl) rfl rfl) hL fun a s e_ hL=>zb6 (L':=[(4,(Pd.row En.SItem s0.w.heap.size 77 og13 out12)),(5,(Pd.rep (En.int .i64) v14)),(9,(Pd.row En.SItem s0.w.heap.size 77 og13 out12)),(10,(Pd.rep (En.int .i64) (r3.length:Int))),(11,(Pd.rep (En.int .i64) v14))]) 6 hL rfl (o_t 15 rfl) ty77 rfl rfl rfl (.cons (t:=4) rfl (Dis.ow (Dis.symm d25)) (.cons (t:=5) rfl nE (.cons (t:=9) rfl (Dis.ow (Dis.symm d25)) (.cons (t:=10) rfl nE (.cons (t:=11) rfl nE .nil))))) fun s hL=>?_
  refine en' (hK21 _ _ ?_)
  refine wp_seq_k fun K26 hK26=>wp_seq_k fun K27 hK27=>rg (sx 16 (t_fab (off:=0) (o_t 6 rfl) Tryz.underlying77 rfl (zo (zj _ _)) rfl ty3 rfl rfl) hL fun a s e_ hL=>?_)
  refine sx 17 (zu ty3 (o_t 16 rfl) rfl rfl) hL fun a s e_ hL=>sx 18 (t_nei (o_t 17 rfl) (o_i (k:=.i64) (by decide)) rfl rfl) hL fun a s e_ hL=>en' (hK27 _ _ ?_)
  refine cnd hL rfl (fun hb_=>?_) (fun hb_=>?_)
  ·replace h:=h.1 hb_
   refine wp_exit ?_
   show K20 a s.w
   refine hK20 _ _ ?_
   obtain ⟨h28,h⟩:=h
   refine rg (sx 30 (t_add (o_t 11 rfl) (o_i (k:=.i64) (by decide)) h28 rfl rfl) hL fun a s e_ hL=>?_)
   refine sx 11 (zb (o_t 30 rfl) rfl rfl) hL fun a s e_ hL=>en' ?_
   exact hKL17 k16 a s (Nat.lt_succ_self _) ⟨out12,(v14+1),og13,hL.keep (.cons (t:=4) rfl (fun _ _ h_=>h_) (.cons (t:=9) rfl (fun _ _ h_=>h_) (.cons (t:=10) rfl nE (.cons (t:=11) rfl nE .nil)))),h⟩
  ·replace h:=h.2 hb_
   refine wp_skip ?_
   show K26 a s.w
   refine hK26 _ _ (wp_seq_k fun K29 hK29=>?_)
   refine wp_seq_k fun K30 hK30=>rg (sx 19 (t_fab (off:=2) (o_t 6 rfl) Tryz.underlying77 rfl (zg (zg (zo (zj _ _)) rfl) rfl) rfl ty3 rfl rfl) hL fun a s e_ hL=>?_)
   refine sx 20 (zu ty3 (o_t 19 rfl) rfl rfl) hL fun a s e_ hL=>sx 21 (t_leq (o_t 20 rfl) (o_i (k:=.i64) (by decide)) rfl rfl) hL fun a s e_ hL=>en' (hK30 _ _ ?_)
   refine cnd hL rfl (fun hb_=>?_) (fun hb_=>?_)
   ·replace h:=h.1 hb_
    refine wp_seq_k fun K31 hK31=>rg (sx 2 (zd (o_nil (E:=En.SItem) (N:=s0.w.heap.size) (te:=77)) rfl rfl) hL fun a s e_ hL=>?_)
    refine sx 3 (zd o_b rfl rfl) hL fun a s e_ hL=>en' (hK31 _ _ ?_)
    subst h
    exact wp_ret (reto2 rfl hL rfl rfl)
   ·replace h:=h.2 hb_
    refine wp_skip ?_
    show K29 a s.w
    refine hK29 _ _ ?_
    obtain ⟨e32,h33,h34,e35,h36,h⟩:=h
    refine rg (sx 22 (zb (o_t 4 rfl) rfl rfl) hL fun a s e_ hL=>?_)
    refine sx 23 (zb (o_t 5 rfl) rfl rfl) hL fun a s e_ hL=>sx 24 (zcg (o_t 22 rfl) (o_t 23 rfl) h33 Tryz.underlying47 ty77 rfl rfl) hL fun a s e_ hL=>sx 25 (t_fao (off:=2) (o_t 24 rfl) Tryz.underlying77 rfl (zg (zg (zo (zj _ _)) rfl) rfl) rfl ty3 rfl rfl) hL fun a s e_ hL=>sx 26 (zu ty3 (o_t 25 rfl) rfl rfl) hL fun a s e_ hL=>sx 27 (t_sub (o_t 26 rfl) (o_i (k:=.i64) (by decide)) h34 rfl rfl) hL fun a s e_ hL=>sx 28 (zcg (o_t 22 rfl) (o_t 23 rfl) h36 Tryz.underlying47 ty77 rfl rfl) hL fun a s e_ hL=>sx 29 (t_fao (off:=2) (o_t 28 rfl) Tryz.underlying77 rfl (zg (zg (zo (zj _ _)) rfl) rfl) rfl ty3 rfl rfl) hL fun a s e_ hL=>st_stor (L':=[(4,(Pd.row En.SItem s0.w.heap.size 77 og13 (out12.set (v14:Int).toNat (e35.1,e35.2.1,e32.2.2.1-1,e35.2.2.2)))),(9,(Pd.row En.SItem s0.w.heap.size 77 og13 (out12.set (v14:Int).toNat (e35.1,e35.2.1,e32.2.2.1-1,e35.2.2.2)))),(10,(Pd.rep (En.int .i64) (r3.length:Int))),(11,(Pd.rep (En.int .i64) v14))]) (off:=2) 4 hL rfl h36 (o_t 29 rfl) (o_t 27 rfl) (z6 (z6 (zbj (z8 _ _ _)) rfl) rfl) ty3 rfl rfl rfl (.turn (t:=4) rfl (.turn (t:=9) rfl (.cons (t:=10) rfl nE (.cons (t:=11) rfl nE .nil)))) fun s hL=>?_
    refine en' (hK20 _ _ ?_)
    obtain ⟨h37,h⟩:=h
    refine rg (sx 30 (t_add (o_t 11 rfl) (o_i (k:=.i64) (by decide)) h37 rfl rfl) hL fun a s e_ hL=>?_)
    refine sx 11 (zb (o_t 30 rfl) rfl rfl) hL fun a s e_ hL=>en' ?_
    exact hKL17 k16 a s (Nat.lt_succ_self _) ⟨(out12.set (v14:Int).toNat (e35.1,e35.2.1,e32.2.2.1-1,e35.2.2.2)),(v14+1),og13,hL.keep (.cons (t:=4) rfl (fun _ _ h_=>h_) (.cons (t:=9) rfl (fun _ _ h_=>h_) (.cons (t:=10) rfl nE (.cons (t:=11) rfl nE .nil)))),h⟩
 ·replace h:=h.2 hb_
  refine wp_exit ?_
  exact J10 out12 og13 a s (hL.keep (.cons (t:=4) rfl (fun _ _ h_=>h_) .nil)) h
theorem item_Start_ok {d_:SDesc} {r_:(List SItem)} (h:item_Start d_ r_):Fn Tryz.prog 54 [(Pd.rep En.SDesc d_)] (Ro En.SItem 77 r_):=by
 unfold item_Start at h
 refine fn_of Tryz.func54 rfl Tryz.ntmps54 (by rfl) (by simp) fun s0 a hL=>?_
 refine wp_seq_k fun K1 hK1=>rg (sx 1 (t_box (o_t 0 rfl) rfl rfl) hL fun a s e_ hL=>?_)
 refine sx 2 (zd (o_nil (E:=En.SItem) (N:=s0.w.heap.size) (te:=77)) rfl rfl) hL fun a s e_ hL=>en' (hK1 _ _ ?_)
 refine wp_seq_k fun K2 hK2=>?_
 obtain ⟨h3,h⟩:=h
 refine rg (sx 3 (t_fa (off:=0) (o_t 1 rfl) Tryz.underlying24 rfl (zcm (zj _ _)) rfl ty22 rfl rfl) hL fun a s e_ hL=>?_)
 refine sx 4 (zp ty22 (o_t 3 rfl) rfl rfl) hL fun a s e_ hL=>sx 5 (t_len (o_t 4 rfl) Tryz.underlying22 rfl rfl) hL fun a s e_ hL=>sx 6 (t_sub (o_t 5 rfl) (o_i (k:=.i64) (by decide)) h3 rfl rfl) hL fun a s e_ hL=>sx 7 (zdi (x:=(1,(d_.length:Int)-1,0,0)) (ps:=[(0,.const (.int .i64 1)),(1,.tmp 6)]) tyz77 rfl stt77 (.cons (i:=0) (o_i (k:=.i64) (by decide)) rfl (zbj (z8 _ _ _)) (.cons (i:=1) (o_t 6 rfl) rfl (z6 (zbj (z8 _ _ _)) rfl) .nil)) rfl rfl) hL fun a s e_ hL=>st_lito (xs:=[.tmp 7]) 8 hL (.cons (o_t 7 rfl) .nil) Tryz.underlying47 ty77 rfl rfl (by decide) rfl rfl rfl rfl fun a s g4 hg_ hL=>?_
 refine sx 2 (zd (o_t 8 rfl) rfl rfl) hL fun a s e_ hL=>en' (hK2 _ _ ?_)
 subst h
 exact wp_ret (reto rfl hL rfl)
theorem ref13_numbers_ok {s_:(List SItem)} {r_:(List Int)} (h:zbk s_ r_):Fn Tryz.prog 88 [(Pd.rep (En.slice En.SItem) s_)] (Ro (En.int .i64) 3 r_):=by
 unfold zbk at h
 refine fn_of Tryz.func88 rfl Tryz.ntmps88 (by rfl) (by simp) fun s0 a hL=>?_
 refine wp_seq_k fun K1 hK1=>rg (sx 2 (zd (o_nil (E:=(En.int .i64)) (N:=s0.w.heap.size) (te:=3)) rfl rfl) hL fun a s e_ hL=>?_)
 refine en' (hK1 _ _ ?_)
 refine wp_seq_k fun K2 hK2=>rg (sx 5 (zb (o_t 0 rfl) rfl rfl) hL fun a s e_ hL=>?_)
 refine sx 6 (t_len (o_t 5 rfl) Tryz.underlying47 rfl rfl) hL fun a s e_ hL=>st_lito (xs:=[.tmp 6]) 7 hL (.cons (o_t 6 rfl) .nil) Tryz.underlying91 ty3 rfl rfl (by decide) rfl rfl rfl rfl fun a s g3 hg_ hL=>?_
 refine sx 3 (zd (o_t 7 rfl) rfl rfl) hL fun a s e_ hL=>en' (hK2 _ _ ?_)
 refine wp_seq_k fun K4 hK4=>wp_seq_k fun K5 hK5=>rg (sx 4 (zd (o_i (k:=.i64) (by decide)) rfl rfl) hL fun a s e_ hL=>?_)
 refine en' (hK5 _ _ ?_)
 refine wp_block ?_
 have J8:∀(out6:(List Int)) (og7:Option Nat) (a:Act) (s:St),Has N0 38 s0 a s [(3,(Pd.row (En.int .i64) s0.w.heap.size 3 og7 out6))]→((zbk.j1 r_) out6)→K4 a s.w:=by
  intro out6 og7 a s hL h
  unfold zbk.j1 at h
  show K4 a s.w
  refine hK4 _ _ (wp_seq_k fun K9 hK9=>?_)
  refine rg (sx 37 (zb (o_t 3 rfl) rfl rfl) hL fun a s e_ hL=>?_)
  refine sx 2 (zd (o_t 37 rfl) rfl rfl) hL fun a s e_ hL=>en' (hK9 _ _ ?_)
  subst h
  exact wp_ret (reto rfl hL rfl)
 obtain ⟨k13,h⟩:=h
 refine lpg (fun k14 a s=>∃(out10:(List Int)) (i12:Int) (og11:Option Nat),Has N0 38 s0 a s [(0,(Pd.rep (En.slice En.SItem) s_)),(3,(Pd.row (En.int .i64) s0.w.heap.size 3 og11 out10)),(4,(Pd.rep (En.int .i64) i12))]∧zbk.l1 s_ (zbk.j1 r_) k14 out10 i12) k13 ⟨[(s_.length:Int)],0,(some g3),hL.keep (.cons (t:=0) rfl nE (.cons (t:=3) rfl (fun _ _ h_=>h_) (.cons (t:=4) rfl nE .nil))),h⟩ ?_
 rintro k14 a s ⟨out10,i12,og11,hL,h⟩ KL15 hKL15
 cases k14 with
 | zero=>exact h.elim
 | succ k14=>
 unfold zbk.l1 at h
 refine wp_seq_k fun K16 hK16=>wp_seq_k fun K17 hK17=>rg (sx 8 (zb (o_t 4 rfl) rfl rfl) hL fun a s e_ hL=>?_)
 refine sx 9 (zb (o_t 0 rfl) rfl rfl) hL fun a s e_ hL=>sx 10 (t_len (o_t 9 rfl) Tryz.underlying47 rfl rfl) hL fun a s e_ hL=>sx 11 (t_lss (o_t 8 rfl) (o_t 10 rfl) rfl rfl) hL fun a s e_ hL=>en' (hK17 _ _ ?_)
 refine cnd hL rfl (fun hb_=>?_) (fun hb_=>?_)
 ·replace h:=h.1 hb_
  refine wp_skip ?_
  show K16 a s.w
  refine hK16 _ _ (wp_seq_k fun K18 hK18=>?_)
  refine wp_block ?_
  obtain ⟨e19,h20,e21,h22,e23,h24,e25,h26,h27,h⟩:=h
  refine rda zbq 22 [(Pd.row (En.int .i64) s0.w.heap.size 3 og11 out10),(Pd.rep (En.slice En.SItem) s_),(Pd.rep (En.int .i64) i12),(Pd.ptr En.SItem e19),(Pd.ptr (En.int .i64) e19.1),(Pd.rep (En.int .i64) e19.1),(Pd.rep (En.slice En.SItem) s_),(Pd.rep (En.int .i64) i12),(Pd.ptr En.SItem e21),(Pd.ptr (En.int .i64) e21.2.1),(Pd.rep (En.int .i64) e21.2.1),(Pd.rep (En.slice En.SItem) s_),(Pd.rep (En.int .i64) i12),(Pd.ptr En.SItem e23),(Pd.ptr (En.int .i64) e23.2.2.1),(Pd.rep (En.int .i64) e23.2.2.1),(Pd.rep (En.slice En.SItem) s_),(Pd.rep (En.int .i64) i12),(Pd.ptr En.SItem e25),(Pd.ptr (En.int .i64) e25.2.2.2),(Pd.rep (En.int .i64) e25.2.2.2),(Pd.rep (En.slice (En.int .i64)) [e19.1,e21.2.1,e23.2.2.1,e25.2.2.2])] hL (by kernel_rfl) rfl rfl ?_ ?_
  ·refine AllT.cons (zb (o_t 3 rfl) rfl rfl) ?_
   refine AllT.cons (zb (o_t 0 rfl) rfl rfl) (AllT.cons (zb (o_t 4 rfl) rfl rfl) ?_)
   refine AllT.cons (t_idx (o_t 15 rfl) (o_t 16 rfl) h20 Tryz.underlying47 ty77 rfl rfl) (AllT.cons (t_fa (off:=0) (o_t 17 rfl) Tryz.underlying77 rfl (zo (zj _ _)) rfl ty3 rfl rfl) ?_)
   refine AllT.cons (zp ty3 (o_t 18 rfl) rfl rfl) (AllT.cons (zb (o_t 0 rfl) rfl rfl) ?_)
   refine AllT.cons (zb (o_t 4 rfl) rfl rfl) (AllT.cons (t_idx (o_t 20 rfl) (o_t 21 rfl) h22 Tryz.underlying47 ty77 rfl rfl) ?_)
   refine AllT.cons (t_fa (off:=1) (o_t 22 rfl) Tryz.underlying77 rfl (zg (zo (zj _ _)) rfl) rfl ty3 rfl rfl) (AllT.cons (zp ty3 (o_t 23 rfl) rfl rfl) ?_)
   refine AllT.cons (zb (o_t 0 rfl) rfl rfl) (AllT.cons (zb (o_t 4 rfl) rfl rfl) ?_)
   refine AllT.cons (t_idx (o_t 25 rfl) (o_t 26 rfl) h24 Tryz.underlying47 ty77 rfl rfl) (AllT.cons (t_fa (off:=2) (o_t 27 rfl) Tryz.underlying77 rfl (zg (zg (zo (zj _ _)) rfl) rfl) rfl ty3 rfl rfl) ?_)
   refine AllT.cons (zp ty3 (o_t 28 rfl) rfl rfl) (AllT.cons (zb (o_t 0 rfl) rfl rfl) ?_)
   refine AllT.cons (zb (o_t 4 rfl) rfl rfl) (AllT.cons (t_idx (o_t 30 rfl) (o_t 31 rfl) h26 Tryz.underlying47 ty77 rfl rfl) ?_)
   refine AllT.cons (t_fa (off:=3) (o_t 32 rfl) Tryz.underlying77 rfl (zg (zg (zg (zj _ _) rfl) rfl) rfl) rfl ty3 rfl rfl) (AllT.cons (zp ty3 (o_t 33 rfl) rfl rfl) ?_)
   refine AllT.cons (t_lit (xs:=[.tmp 19,.tmp 24,.tmp 29,.tmp 34]) (.cons (o_t 19 rfl) (.cons (o_t 24 rfl) (.cons (o_t 29 rfl) (.cons (o_t 34 rfl) .nil)))) Tryz.underlying91 ty3 rfl rfl (by decide) rfl rfl) ?_
   exact AllT.nil
  intro a s e_ hL
  refine st_app (L':=[(0,(Pd.rep (En.slice En.SItem) s_)),(4,(Pd.rep (En.int .i64) i12))]) 36 hL (o_t 14 rfl) (o_t 35 rfl) Tryz.underlying91 ty3 h27 rfl rfl rfl rfl (.cons (t:=0) rfl nE (.cons (t:=4) rfl nE .nil)) fun a s og28 hg_ hL=>?_
  refine sx 3 (zd (o_t 36 rfl) rfl rfl) hL fun a s e_ hL=>en' (hK18 _ _ ?_)
  obtain ⟨h29,h⟩:=h
  refine rg (sx 12 (zb (o_t 4 rfl) rfl rfl) hL fun a s e_ hL=>?_)
  refine sx 13 (t_add (o_t 12 rfl) (o_i (k:=.i64) (by decide)) h29 rfl rfl) hL fun a s e_ hL=>sx 4 (zd (o_t 13 rfl) rfl rfl) hL fun a s e_ hL=>en' ?_
  exact hKL15 k14 a s (Nat.lt_succ_self _) ⟨(out10++[e19.1,e21.2.1,e23.2.2.1,e25.2.2.2]),(i12+1),og28,hL.keep (.cons (t:=0) rfl nE (.cons (t:=3) rfl (fun _ _ h_=>h_) (.cons (t:=4) rfl nE .nil))),h⟩
 ·replace h:=h.2 hb_
  refine wp_exit ?_
  exact J8 out10 og11 a s (hL.keep (.cons (t:=3) rfl (fun _ _ h_=>h_) .nil)) h
theorem ref13_Compare_ok {a_:(List SItem)} {b_:(List SItem)} {r_:Int} (h:zbd a_ b_ r_):Fn Tryz.prog 52 [(Pd.rep (En.slice En.SItem) a_),(Pd.rep (En.slice En.SItem) b_)] (Rq (Pd.rep (En.int .i64) r_)):=by
 unfold zbd at h
 refine fn_of Tryz.func52 rfl Tryz.ntmps52 (by rfl) (by simp) fun s0 a hL=>?_
 refine wp_seq_k fun K1 hK1=>rg (sx 4 (zd (o_i (k:=.i64) (by decide)) rfl rfl) hL fun a s e_ hL=>?_)
 refine en' (hK1 _ _ ?_)
 refine wp_seq_k fun K2 hK2=>?_
 obtain ⟨r3,h4,h⟩:=h
 refine rg (sx 8 (zb (o_t 0 rfl) rfl rfl) hL fun a s e_ hL=>?_)
 refine sx 9 (zw ((ref13_numbers_ok h4).frz) (xs:=[.tmp 8]) (.cons (o_t 8 rfl) .nil) rfl rfl) hL fun a s e_ hL=>sx 5 (zd (o_t 9 rfl) rfl rfl) hL fun a s e_ hL=>en' (hK2 _ _ ?_)
 refine wp_seq_k fun K5 hK5=>?_
 obtain ⟨r6,h7,h⟩:=h
 refine rg (sx 10 (zb (o_t 1 rfl) rfl rfl) hL fun a s e_ hL=>?_)
 refine sx 11 (zw ((ref13_numbers_ok h7).frz) (xs:=[.tmp 10]) (.cons (o_t 10 rfl) .nil) rfl rfl) hL fun a s e_ hL=>sx 6 (zd (o_t 11 rfl) rfl rfl) hL fun a s e_ hL=>en' (hK5 _ _ ?_)
 refine wp_seq_k fun K8 hK8=>wp_seq_k fun K9 hK9=>rg (sx 7 (zd (o_i (k:=.i64) (by decide)) rfl rfl) hL fun a s e_ hL=>?_)
 refine en' (hK9 _ _ ?_)
 refine wp_block ?_
 have J10:∀(a:Act) (s:St),Has N0 42 s0 a s []→((zbd.j1 r_))→K8 a s.w:=by
  intro a s hL h
  unfold zbd.j1 at h
  show K8 a s.w
  refine hK8 _ _ (wp_seq_k fun K11 hK11=>?_)
  refine rg (sx 4 (zd (o_i (k:=.i64) (by decide)) rfl rfl) hL fun a s e_ hL=>?_)
  refine en' (hK11 _ _ ?_)
  subst h
  exact wp_ret (retq rfl hL rfl)
 obtain ⟨k13,h⟩:=h
 refine lpg (fun k14 a s=>∃(i12:Int),Has N0 42 s0 a s [(5,(Pd.rep (En.slice (En.int .i64)) r3)),(6,(Pd.rep (En.slice (En.int .i64)) r6)),(7,(Pd.rep (En.int .i64) i12))]∧zbd.l1 r3 r6 r_ (zbd.j1 r_) k14 i12) k13 ⟨0,hL.keep (.cons (t:=5) rfl nE (.cons (t:=6) rfl nE (.cons (t:=7) rfl nE .nil))),h⟩ ?_
 rintro k14 a s ⟨i12,hL,h⟩ KL15 hKL15
 cases k14 with
 | zero=>exact h.elim
 | succ k14=>
 unfold zbd.l1 at h
 refine wp_seq_k fun K16 hK16=>wp_seq_k fun K17 hK17=>?_
 obtain ⟨b18,h19,h⟩:=h
 refine rg (sx 12 (zb (o_t 7 rfl) rfl rfl) hL fun a s e_ hL=>?_)
 refine sx 13 (zb (o_t 5 rfl) rfl rfl) hL fun a s e_ hL=>sx 14 (t_len (o_t 13 rfl) Tryz.underlying91 rfl rfl) hL fun a s e_ hL=>sx 15 (t_lss (o_t 12 rfl) (o_t 14 rfl) rfl rfl) hL fun a s e_ hL=>sx 16 (zb (o_t 15 rfl) rfl rfl) hL fun a s e_ hL=>sx 17 (t_g1 rfl rfl rfl (fun hc_=>zb (o_t 7 rfl) rfl rfl)) hL fun a s e_ hL=>sx 18 (t_g1 rfl rfl rfl (fun hc_=>zb (o_t 6 rfl) rfl rfl)) hL fun a s e_ hL=>sx 19 (t_g1 rfl rfl rfl (fun hc_=>t_len (o_w hc_ 18 rfl) Tryz.underlying91 rfl rfl)) hL fun a s e_ hL=>sx 20 (t_g1 rfl rfl rfl (fun hc_=>t_lss (o_w hc_ 17 rfl) (o_w hc_ 19 rfl) rfl rfl)) hL fun a s e_ hL=>sx 21 (h19 ▸ (t_and (o_t 16 rfl) (fun hc2_=>(o_w hc2_ 20 rfl)) rfl rfl)) hL fun a s e_ hL=>?_
 refine en' (hK17 _ _ ?_)
 refine cnd hL rfl (fun hb_=>?_) (fun hb_=>?_)
 ·replace h:=h.1 hb_
  refine wp_skip ?_
  show K16 a s.w
  refine hK16 _ _ (wp_seq_k fun K20 hK20=>?_)
  refine wp_block (wp_seq_k fun K21 hK21=>?_)
  refine wp_seq_k fun K22 hK22=>?_
  obtain ⟨e23,h24,e25,h26,h⟩:=h
  refine rda zbq 9 [(Pd.rep (En.slice (En.int .i64)) r3),(Pd.rep (En.int .i64) i12),(Pd.ptr (En.int .i64) e23),(Pd.rep (En.int .i64) e23),(Pd.rep (En.slice (En.int .i64)) r6),(Pd.rep (En.int .i64) i12),(Pd.ptr (En.int .i64) e25),(Pd.rep (En.int .i64) e25),(Pd.rep En.bool (decide (e23<e25)))] hL (by kernel_rfl) rfl rfl ?_ ?_
  ·refine AllT.cons (zb (o_t 5 rfl) rfl rfl) ?_
   refine AllT.cons (zb (o_t 7 rfl) rfl rfl) (AllT.cons (t_idx (o_t 24 rfl) (o_t 25 rfl) h24 Tryz.underlying91 ty3 rfl rfl) ?_)
   refine AllT.cons (zp ty3 (o_t 26 rfl) rfl rfl) (AllT.cons (zb (o_t 6 rfl) rfl rfl) ?_)
   refine AllT.cons (zb (o_t 7 rfl) rfl rfl) (AllT.cons (t_idx (o_t 28 rfl) (o_t 29 rfl) h26 Tryz.underlying91 ty3 rfl rfl) ?_)
   refine AllT.cons (zp ty3 (o_t 30 rfl) rfl rfl) (AllT.cons (t_lss (o_t 27 rfl) (o_t 31 rfl) rfl rfl) ?_)
   exact AllT.nil
  intro a s e_ hL
  refine en' (hK22 _ _ ?_)
  refine cnd hL rfl (fun hb_=>?_) (fun hb_=>?_)
  ·replace h:=h.1 hb_
   refine wp_seq_k fun K27 hK27=>rg (sx 4 (zd (o_i (k:=.i64) (by decide)) rfl rfl) hL fun a s e_ hL=>?_)
   refine en' (hK27 _ _ ?_)
   subst h
   exact wp_ret (retq rfl hL rfl)
  ·replace h:=h.2 hb_
   refine wp_skip ?_
   show K21 a s.w
   refine hK21 _ _ (wp_seq_k fun K28 hK28=>?_)
   obtain ⟨e29,h30,e31,h32,h⟩:=h
   refine rda zbq 9 [(Pd.rep (En.slice (En.int .i64)) r3),(Pd.rep (En.int .i64) i12),(Pd.ptr (En.int .i64) e29),(Pd.rep (En.int .i64) e29),(Pd.rep (En.slice (En.int .i64)) r6),(Pd.rep (En.int .i64) i12),(Pd.ptr (En.int .i64) e31),(Pd.rep (En.int .i64) e31),(Pd.rep En.bool (decide (e31<e29)))] hL (by kernel_rfl) rfl rfl ?_ ?_
   ·refine AllT.cons (zb (o_t 5 rfl) rfl rfl) ?_
    refine AllT.cons (zb (o_t 7 rfl) rfl rfl) (AllT.cons (t_idx (o_t 33 rfl) (o_t 34 rfl) h30 Tryz.underlying91 ty3 rfl rfl) ?_)
    refine AllT.cons (zp ty3 (o_t 35 rfl) rfl rfl) (AllT.cons (zb (o_t 6 rfl) rfl rfl) ?_)
    refine AllT.cons (zb (o_t 7 rfl) rfl rfl) (AllT.cons (t_idx (o_t 37 rfl) (o_t 38 rfl) h32 Tryz.underlying91 ty3 rfl rfl) ?_)
    refine AllT.cons (zp ty3 (o_t 39 rfl) rfl rfl) (AllT.cons (t_gtr (o_t 36 rfl) (o_t 40 rfl) rfl rfl) ?_)
    exact AllT.nil
   intro a s e_ hL
   refine en' (hK28 _ _ ?_)
   refine cnd hL rfl (fun hb_=>?_) (fun hb_=>?_)
   ·replace h:=h.1 hb_
    refine wp_seq_k fun K33 hK33=>rg (sx 4 (zd (o_i (k:=.i64) (by decide)) rfl rfl) hL fun a s e_ hL=>?_)
    refine en' (hK33 _ _ ?_)
    subst h
    exact wp_ret (retq rfl hL rfl)
   ·replace h:=h.2 hb_
    refine wp_skip ?_
    show K20 a s.w
    refine hK20 _ _ ?_
    obtain ⟨h34,h⟩:=h
    refine rg (sx 22 (zb (o_t 7 rfl) rfl rfl) hL fun a s e_ hL=>?_)
    refine sx 23 (t_add (o_t 22 rfl) (o_i (k:=.i64) (by decide)) h34 rfl rfl) hL fun a s e_ hL=>sx 7 (zd (o_t 23 rfl) rfl rfl) hL fun a s e_ hL=>en' ?_
    exact hKL15 k14 a s (Nat.lt_succ_self _) ⟨(i12+1),hL.keep (.cons (t:=5) rfl nE (.cons (t:=6) rfl nE (.cons (t:=7) rfl nE .nil))),h⟩
 ·replace h:=h.2 hb_
  refine wp_exit ?_
  exact J10 a s (hL.keep .nil) h
theorem ref13_Same_ok {a_:(List SItem)} {b_:(List SItem)} {r_:Bool} (h:ref13_Same a_ b_ r_):Fn Tryz.prog 53 [(Pd.rep (En.slice En.SItem) a_),(Pd.rep (En.slice En.SItem) b_)] (Rq (Pd.rep En.bool r_)):=by
 unfold ref13_Same at h
 refine fn_of Tryz.func53 rfl Tryz.ntmps53 (by rfl) (by simp) fun s0 a hL=>?_
 refine wp_seq_k fun K1 hK1=>rg (sx 4 (zd o_b rfl rfl) hL fun a s e_ hL=>?_)
 refine en' (hK1 _ _ ?_)
 refine wp_seq_k fun K2 hK2=>?_
 obtain ⟨r3,h4,h⟩:=h
 refine rg (sx 5 (zb (o_t 0 rfl) rfl rfl) hL fun a s e_ hL=>?_)
 refine sx 6 (zb (o_t 1 rfl) rfl rfl) hL fun a s e_ hL=>sx 7 (zw (ref13_Compare_ok h4) (xs:=[.tmp 5,.tmp 6]) (.cons (o_t 5 rfl) (.cons (o_t 6 rfl) .nil)) rfl rfl) hL fun a s e_ hL=>sx 8 (t_eqi (o_t 7 rfl) (o_i (k:=.i64) (by decide)) rfl rfl) hL fun a s e_ hL=>sx 4 (zd (o_t 8 rfl) rfl rfl) hL fun a s e_ hL=>en' (hK2 _ _ ?_)
 subst h
 exact wp_ret (retq rfl hL rfl)
theorem ref13_form_ok {d_:SDesc} {x_:SItem} {r_:Bool} (h:ref13_form d_ x_ r_):Fn Tryz.prog 115 [(Pd.rep En.SDesc d_),(Pd.rep En.SItem x_)] (Rq (Pd.rep En.bool r_)):=by
 unfold ref13_form at h
 refine fn_of Tryz.func115 rfl Tryz.ntmps115 (by rfl) (by simp) fun s0 a hL=>?_
 refine wp_seq_k fun K1 hK1=>rg (sx 2 (t_box (o_t 0 rfl) rfl rfl) hL fun a s e_ hL=>?_)
 refine sx 3 (t_box (o_t 1 rfl) rfl rfl) hL fun a s e_ hL=>sx 4 (zd o_b rfl rfl) hL fun a s e_ hL=>en' (hK1 _ _ ?_)
 refine wp_seq_k fun K2 hK2=>wp_seq_k fun K3 hK3=>rg (sx 6 (t_fa (off:=0) (o_t 3 rfl) Tryz.underlying77 rfl (zo (zj _ _)) rfl ty3 rfl rfl) hL fun a s e_ hL=>?_)
 refine sx 7 (zp ty3 (o_t 6 rfl) rfl rfl) hL fun a s e_ hL=>sx 8 (t_eqi (o_t 7 rfl) (o_i (k:=.i64) (by decide)) rfl rfl) hL fun a s e_ hL=>en' (hK3 _ _ ?_)
 refine cnd hL rfl (fun hb_=>?_) (fun hb_=>?_)
 ·replace h:=h.1 hb_
  refine wp_seq_k fun K4 hK4=>?_
  obtain ⟨b5,h6,h⟩:=h
  refine rg (sx 9 (t_fa (off:=1) (o_t 3 rfl) Tryz.underlying77 rfl (zg (zo (zj _ _)) rfl) rfl ty3 rfl rfl) hL fun a s e_ hL=>?_)
  refine sx 10 (zp ty3 (o_t 9 rfl) rfl rfl) hL fun a s e_ hL=>sx 11 (t_eqi (o_t 10 rfl) (o_i (k:=.i64) (by decide)) rfl rfl) hL fun a s e_ hL=>sx 12 (zb (o_t 11 rfl) rfl rfl) hL fun a s e_ hL=>sx 13 (t_g1 rfl rfl rfl (fun hc_=>t_fa (off:=3) (o_t 3 rfl) Tryz.underlying77 rfl (zg (zg (zg (zj _ _) rfl) rfl) rfl) rfl ty3 rfl rfl)) hL fun a s e_ hL=>sx 14 (t_g1 rfl rfl rfl (fun hc_=>zp ty3 (o_w hc_ 13 rfl) rfl rfl)) hL fun a s e_ hL=>sx 15 (t_g1 rfl rfl rfl (fun hc_=>t_eqi (o_w hc_ 14 rfl) (o_i (k:=.i64) (by decide)) rfl rfl)) hL fun a s e_ hL=>sx 16 (t_and (o_t 12 rfl) (fun hc2_=>(o_w hc2_ 15 rfl)) rfl rfl) hL fun a s e_ hL=>sx 17 (zb (o_t 16 rfl) rfl rfl) hL fun a s e_ hL=>sx 18 (t_g1 rfl rfl rfl (fun hc_=>t_fa (off:=2) (o_t 3 rfl) Tryz.underlying77 rfl (zg (zg (zo (zj _ _)) rfl) rfl) rfl ty3 rfl rfl)) hL fun a s e_ hL=>?_
  refine sx 19 (t_g1 rfl rfl rfl (fun hc_=>zp ty3 (o_w hc_ 18 rfl) rfl rfl)) hL fun a s e_ hL=>sx 20 (t_g1 rfl rfl rfl (fun hc_=>t_geq (o_w hc_ 19 rfl) (o_i (k:=.i64) (by decide)) rfl rfl)) hL fun a s e_ hL=>sx 21 (h6 ▸ (t_and (o_t 17 rfl) (fun hc2_=>(o_w hc2_ 20 rfl)) rfl rfl)) hL fun a s e_ hL=>sx 22 (zb (o_t 21 rfl) rfl rfl) hL fun a s e_ hL=>sx 23 (t_g1 rfl rfl rfl (fun hc_=>t_fa (off:=2) (o_t 3 rfl) Tryz.underlying77 rfl (zg (zg (zo (zj _ _)) rfl) rfl) rfl ty3 rfl rfl)) hL fun a s e_ hL=>sx 24 (t_g1 rfl rfl rfl (fun hc_=>zp ty3 (o_w hc_ 23 rfl) rfl rfl)) hL fun a s e_ hL=>sx 25 (t_g1 rfl rfl rfl (fun hc_=>t_leq (o_w hc_ 24 rfl) (o_i (k:=.i64) (by decide)) rfl rfl)) hL fun a s e_ hL=>sx 26 (t_and (o_t 22 rfl) (fun hc2_=>(o_w hc2_ 25 rfl)) rfl rfl) hL fun a s e_ hL=>sx 4 (zd (o_t 26 rfl) rfl rfl) hL fun a s e_ hL=>?_
  refine en' (hK4 _ _ ?_)
  subst h
  exact wp_ret (retq rfl hL rfl)
 ·replace h:=h.2 hb_
  refine wp_skip ?_
  show K2 a s.w
  refine hK2 _ _ (wp_seq_k fun K7 hK7=>?_)
  refine wp_seq_k fun K8 hK8=>?_
  obtain ⟨b9,h10,h⟩:=h
  refine rg (sx 27 (t_fa (off:=1) (o_t 3 rfl) Tryz.underlying77 rfl (zg (zo (zj _ _)) rfl) rfl ty3 rfl rfl) hL fun a s e_ hL=>?_)
  refine sx 28 (zp ty3 (o_t 27 rfl) rfl rfl) hL fun a s e_ hL=>sx 29 (t_lss (o_t 28 rfl) (o_i (k:=.i64) (by decide)) rfl rfl) hL fun a s e_ hL=>sx 30 (zb (o_t 29 rfl) rfl rfl) hL fun a s e_ hL=>sx 31 (t_g1 rfl rfl rfl (fun hc_=>t_fa (off:=1) (o_t 3 rfl) Tryz.underlying77 rfl (zg (zo (zj _ _)) rfl) rfl ty3 rfl rfl)) hL fun a s e_ hL=>sx 32 (t_g1 rfl rfl rfl (fun hc_=>zp ty3 (o_w hc_ 31 rfl) rfl rfl)) hL fun a s e_ hL=>sx 33 (t_g1 rfl rfl rfl (fun hc_=>t_fa (off:=0) (o_t 2 rfl) Tryz.underlying24 rfl (zcm (zj _ _)) rfl ty22 rfl rfl)) hL fun a s e_ hL=>sx 34 (t_g1 rfl rfl rfl (fun hc_=>zp ty22 (o_w hc_ 33 rfl) rfl rfl)) hL fun a s e_ hL=>sx 35 (t_g1 rfl rfl rfl (fun hc_=>t_len (o_w hc_ 34 rfl) Tryz.underlying22 rfl rfl)) hL fun a s e_ hL=>sx 36 (t_g1 rfl rfl rfl (fun hc_=>t_geq (o_w hc_ 32 rfl) (o_w hc_ 35 rfl) rfl rfl)) hL fun a s e_ hL=>?_
  refine sx 37 (h10 ▸ (t_or (o_t 30 rfl) (fun hc2_=>(o_w hc2_ 36 rfl)) rfl rfl)) hL fun a s e_ hL=>en' (hK8 _ _ ?_)
  refine cnd hL rfl (fun hb_=>?_) (fun hb_=>?_)
  ·replace h:=h.1 hb_
   refine wp_seq_k fun K11 hK11=>rg (sx 4 (zd o_b rfl rfl) hL fun a s e_ hL=>?_)
   refine en' (hK11 _ _ ?_)
   subst h
   exact wp_ret (retq rfl hL rfl)
  ·replace h:=h.2 hb_
   refine wp_skip ?_
   show K7 a s.w
   refine hK7 _ _ (wp_seq_k fun K12 hK12=>?_)
   obtain ⟨e13,h14,h⟩:=h
   refine rg (sx 38 (t_fa (off:=0) (o_t 2 rfl) Tryz.underlying24 rfl (zcm (zj _ _)) rfl ty22 rfl rfl) hL fun a s e_ hL=>?_)
   refine sx 39 (zp ty22 (o_t 38 rfl) rfl rfl) hL fun a s e_ hL=>sx 40 (t_fa (off:=1) (o_t 3 rfl) Tryz.underlying77 rfl (zg (zo (zj _ _)) rfl) rfl ty3 rfl rfl) hL fun a s e_ hL=>sx 41 (zp ty3 (o_t 40 rfl) rfl rfl) hL fun a s e_ hL=>sx 42 (t_idx (o_t 39 rfl) (o_t 41 rfl) h14 Tryz.underlying22 ty68 rfl rfl) hL fun a s e_ hL=>sx 43 (zp ty68 (o_t 42 rfl) rfl rfl) hL fun a s e_ hL=>zbc En.SNode (z:=(0,0,0,0,0,(0#256),([]:Str))) 5 hL tyz68 rfl rfl rfl rfl fun a s g15 hg_ hL=>?_
   refine zb6 (L':=[(3,(Pd.ptr En.SItem x_))]) 5 hL rfl (o_t 43 rfl) ty68 rfl rfl rfl (.cons (t:=3) rfl nE .nil) fun s hL=>?_
   refine en' (hK12 _ _ ?_)
   refine wp_seq_k fun K16 hK16=>wp_seq_k fun K17 hK17=>rg (sx 44 (t_fa (off:=0) (o_t 3 rfl) Tryz.underlying77 rfl (zo (zj _ _)) rfl ty3 rfl rfl) hL fun a s e_ hL=>?_)
   refine sx 45 (zp ty3 (o_t 44 rfl) rfl rfl) hL fun a s e_ hL=>en' (hK17 _ _ ?_)
   refine wp_block (wp_seq_k fun K18 hK18=>?_)
   refine rg (sx 47 (t_eqi (o_t 45 rfl) (o_i (k:=.i64) (by decide)) rfl rfl) hL fun a s e_ hL=>?_)
   refine sx 46 (zd (o_t 47 rfl) rfl rfl) hL fun a s e_ hL=>en' (hK18 _ _ ?_)
   refine cnd hL rfl (fun hb_=>?_) (fun hb_=>?_)
   ·replace h:=h.1 hb_
    refine wp_seq_k fun K19 hK19=>rg (sx 48 (t_fa (off:=2) (o_t 3 rfl) Tryz.underlying77 rfl (zg (zg (zo (zj _ _)) rfl) rfl) rfl ty3 rfl rfl) hL fun a s e_ hL=>?_)
    refine sx 49 (zp ty3 (o_t 48 rfl) rfl rfl) hL fun a s e_ hL=>sx 50 (t_eqi (o_t 49 rfl) (o_i (k:=.i64) (by decide)) rfl rfl) hL fun a s e_ hL=>sx 51 (zb (o_t 50 rfl) rfl rfl) hL fun a s e_ hL=>sx 52 (t_g1 rfl rfl rfl (fun hc_=>t_fa (off:=3) (o_t 3 rfl) Tryz.underlying77 rfl (zg (zg (zg (zj _ _) rfl) rfl) rfl) rfl ty3 rfl rfl)) hL fun a s e_ hL=>sx 53 (t_g1 rfl rfl rfl (fun hc_=>zp ty3 (o_w hc_ 52 rfl) rfl rfl)) hL fun a s e_ hL=>sx 54 (t_g1 rfl rfl rfl (fun hc_=>t_eqi (o_w hc_ 53 rfl) (o_i (k:=.i64) (by decide)) rfl rfl)) hL fun a s e_ hL=>sx 55 (t_and (o_t 51 rfl) (fun hc2_=>(o_w hc2_ 54 rfl)) rfl rfl) hL fun a s e_ hL=>sx 4 (zd (o_t 55 rfl) rfl rfl) hL fun a s e_ hL=>en' (hK19 _ _ ?_)
    subst h
    exact wp_ret (retq rfl hL rfl)
   ·replace h:=h.2 hb_
    refine wp_seq_k fun K20 hK20=>rg (sx 57 (t_eqi (o_t 45 rfl) (o_i (k:=.i64) (by decide)) rfl rfl) hL fun a s e_ hL=>?_)
    refine sx 56 (zd (o_t 57 rfl) rfl rfl) hL fun a s e_ hL=>en' (hK20 _ _ ?_)
    refine cnd hL rfl (fun hb_=>?_) (fun hb_=>?_)
    ·replace h:=h.1 hb_
     refine wp_seq_k fun K21 hK21=>?_
     obtain ⟨b22,h23,h⟩:=h
     refine rg (sx 58 (t_fab (off:=0) (o_t 5 rfl) Tryz.underlying68 rfl (zo (zj _ _)) rfl ty3 rfl rfl) hL fun a s e_ hL=>?_)
     refine sx 59 (zu ty3 (o_t 58 rfl) rfl rfl) hL fun a s e_ hL=>sx 60 (t_eqi (o_t 59 rfl) (o_i (k:=.i64) (by decide)) rfl rfl) hL fun a s e_ hL=>sx 61 (zb (o_t 60 rfl) rfl rfl) hL fun a s e_ hL=>sx 62 (t_g1 rfl rfl rfl (fun hc_=>t_fa (off:=2) (o_t 3 rfl) Tryz.underlying77 rfl (zg (zg (zo (zj _ _)) rfl) rfl) rfl ty3 rfl rfl)) hL fun a s e_ hL=>sx 63 (t_g1 rfl rfl rfl (fun hc_=>zp ty3 (o_w hc_ 62 rfl) rfl rfl)) hL fun a s e_ hL=>sx 64 (t_g1 rfl rfl rfl (fun hc_=>t_geq (o_w hc_ 63 rfl) (o_i (k:=.i64) (by decide)) rfl rfl)) hL fun a s e_ hL=>sx 65 (t_and (o_t 61 rfl) (fun hc2_=>(o_w hc2_ 64 rfl)) rfl rfl) hL fun a s e_ hL=>sx 66 (zb (o_t 65 rfl) rfl rfl) hL fun a s e_ hL=>sx 67 (t_g1 rfl rfl rfl (fun hc_=>t_fa (off:=2) (o_t 3 rfl) Tryz.underlying77 rfl (zg (zg (zo (zj _ _)) rfl) rfl) rfl ty3 rfl rfl)) hL fun a s e_ hL=>?_
     refine sx 68 (t_g1 rfl rfl rfl (fun hc_=>zp ty3 (o_w hc_ 67 rfl) rfl rfl)) hL fun a s e_ hL=>sx 69 (t_g1 rfl rfl rfl (fun hc_=>t_fa (off:=3) (o_t 3 rfl) Tryz.underlying77 rfl (zg (zg (zg (zj _ _) rfl) rfl) rfl) rfl ty3 rfl rfl)) hL fun a s e_ hL=>sx 70 (t_g1 rfl rfl rfl (fun hc_=>zp ty3 (o_w hc_ 69 rfl) rfl rfl)) hL fun a s e_ hL=>sx 71 (t_g1 rfl rfl rfl (fun hc_=>t_leq (o_w hc_ 68 rfl) (o_w hc_ 70 rfl) rfl rfl)) hL fun a s e_ hL=>sx 72 (h23 ▸ (t_and (o_t 66 rfl) (fun hc2_=>(o_w hc2_ 71 rfl)) rfl rfl)) hL fun a s e_ hL=>sx 73 (zb (o_t 72 rfl) rfl rfl) hL fun a s e_ hL=>sx 74 (t_g1 rfl rfl rfl (fun hc_=>t_fa (off:=3) (o_t 3 rfl) Tryz.underlying77 rfl (zg (zg (zg (zj _ _) rfl) rfl) rfl) rfl ty3 rfl rfl)) hL fun a s e_ hL=>sx 75 (t_g1 rfl rfl rfl (fun hc_=>zp ty3 (o_w hc_ 74 rfl) rfl rfl)) hL fun a s e_ hL=>sx 76 (t_g1 rfl rfl rfl (fun hc_=>t_fab (off:=4) (o_t 5 rfl) Tryz.underlying68 rfl (zg (zg (zg (zg (zo (zj _ _)) rfl) rfl) rfl) rfl) rfl ty3 rfl rfl)) hL fun a s e_ hL=>?_
     refine sx 77 (t_g1 rfl rfl rfl (fun hc_=>zu ty3 (o_w hc_ 76 rfl) rfl rfl)) hL fun a s e_ hL=>sx 78 (t_g1 rfl rfl rfl (fun hc_=>t_leq (o_w hc_ 75 rfl) (o_w hc_ 77 rfl) rfl rfl)) hL fun a s e_ hL=>sx 79 (t_and (o_t 73 rfl) (fun hc2_=>(o_w hc2_ 78 rfl)) rfl rfl) hL fun a s e_ hL=>sx 4 (zd (o_t 79 rfl) rfl rfl) hL fun a s e_ hL=>en' (hK21 _ _ ?_)
     subst h
     exact wp_ret (retq rfl hL rfl)
    ·replace h:=h.2 hb_
     refine wp_seq_k fun K24 hK24=>rg (sx 81 (t_eqi (o_t 45 rfl) (o_i (k:=.i64) (by decide)) rfl rfl) hL fun a s e_ hL=>?_)
     refine sx 80 (zd (o_t 81 rfl) rfl rfl) hL fun a s e_ hL=>en' (hK24 _ _ ?_)
     refine cnd hL rfl (fun hb_=>?_) (fun hb_=>?_)
     ·replace h:=h.1 hb_
      refine wp_seq_k fun K25 hK25=>?_
      obtain ⟨b26,h27,b28,h29,h⟩:=h
      refine rg (sx 82 (t_fab (off:=0) (o_t 5 rfl) Tryz.underlying68 rfl (zo (zj _ _)) rfl ty3 rfl rfl) hL fun a s e_ hL=>?_)
      refine sx 83 (zu ty3 (o_t 82 rfl) rfl rfl) hL fun a s e_ hL=>sx 84 (t_eqi (o_t 83 rfl) (o_i (k:=.i64) (by decide)) rfl rfl) hL fun a s e_ hL=>sx 85 (zb (o_t 84 rfl) rfl rfl) hL fun a s e_ hL=>sx 86 (t_g1 rfl rfl rfl (fun hc_=>t_fa (off:=3) (o_t 3 rfl) Tryz.underlying77 rfl (zg (zg (zg (zj _ _) rfl) rfl) rfl) rfl ty3 rfl rfl)) hL fun a s e_ hL=>sx 87 (t_g1 rfl rfl rfl (fun hc_=>zp ty3 (o_w hc_ 86 rfl) rfl rfl)) hL fun a s e_ hL=>sx 88 (t_g1 rfl rfl rfl (fun hc_=>t_eqi (o_w hc_ 87 rfl) (o_i (k:=.i64) (by decide)) rfl rfl)) hL fun a s e_ hL=>sx 89 (t_and (o_t 85 rfl) (fun hc2_=>(o_w hc2_ 88 rfl)) rfl rfl) hL fun a s e_ hL=>sx 90 (zb (o_t 89 rfl) rfl rfl) hL fun a s e_ hL=>sx 91 (t_g1 rfl rfl rfl (fun hc_=>t_fa (off:=2) (o_t 3 rfl) Tryz.underlying77 rfl (zg (zg (zo (zj _ _)) rfl) rfl) rfl ty3 rfl rfl)) hL fun a s e_ hL=>?_
      refine sx 92 (t_g1 rfl rfl rfl (fun hc_=>zp ty3 (o_w hc_ 91 rfl) rfl rfl)) hL fun a s e_ hL=>sx 93 (t_g1 rfl rfl rfl (fun hc_=>t_geq (o_w hc_ 92 rfl) (o_i (k:=.i64) (by decide)) rfl rfl)) hL fun a s e_ hL=>sx 94 (h27 ▸ (t_and (o_t 90 rfl) (fun hc2_=>(o_w hc2_ 93 rfl)) rfl rfl)) hL fun a s e_ hL=>sx 95 (zb (o_t 94 rfl) rfl rfl) hL fun a s e_ hL=>sx 96 (t_g1 rfl rfl rfl (fun hc_=>t_fa (off:=2) (o_t 3 rfl) Tryz.underlying77 rfl (zg (zg (zo (zj _ _)) rfl) rfl) rfl ty3 rfl rfl)) hL fun a s e_ hL=>sx 97 (t_g1 rfl rfl rfl (fun hc_=>zp ty3 (o_w hc_ 96 rfl) rfl rfl)) hL fun a s e_ hL=>sx 98 (t_g1 rfl rfl rfl (fun hc_=>t_fab (off:=9) (o_t 5 rfl) Tryz.underlying68 rfl (zg (zg (zg (zg (zg (zg (zj _ _) rfl) rfl) rfl) rfl) rfl) rfl) rfl ty9 rfl rfl)) hL fun a s e_ hL=>sx 99 (t_g1 rfl rfl rfl (fun hc_=>zu ty9 (o_w hc_ 98 rfl) rfl rfl)) hL fun a s e_ hL=>sx 100 (t_g1 rfl rfl rfl (fun hc_=>t_slen (o_w hc_ 99 rfl) Tryz.underlying9 rfl rfl)) hL fun a s e_ hL=>?_
      refine sx 101 (t_g1 rfl rfl rfl (fun hc_=>t_lss (o_w hc_ 97 rfl) (o_w hc_ 100 rfl) rfl rfl)) hL fun a s e_ hL=>sx 102 (h29 ▸ (t_and (o_t 95 rfl) (fun hc2_=>(o_w hc2_ 101 rfl)) rfl rfl)) hL fun a s e_ hL=>sx 4 (zd (o_t 102 rfl) rfl rfl) hL fun a s e_ hL=>en' (hK25 _ _ ?_)
      subst h
      exact wp_ret (retq rfl hL rfl)
     ·replace h:=h.2 hb_
      refine wp_seq_k fun K30 hK30=>rg (sx 104 (t_eqi (o_t 45 rfl) (o_i (k:=.i64) (by decide)) rfl rfl) hL fun a s e_ hL=>?_)
      refine sx 103 (zd (o_t 104 rfl) rfl rfl) hL fun a s e_ hL=>en' (hK30 _ _ ?_)
      refine cnd hL rfl (fun hb_=>?_) (fun hb_=>?_)
      ·replace h:=h.1 hb_
       refine wp_seq_k fun K31 hK31=>?_
       obtain ⟨b32,h33,h⟩:=h
       refine rg (sx 105 (t_fab (off:=0) (o_t 5 rfl) Tryz.underlying68 rfl (zo (zj _ _)) rfl ty3 rfl rfl) hL fun a s e_ hL=>?_)
       refine sx 106 (zu ty3 (o_t 105 rfl) rfl rfl) hL fun a s e_ hL=>sx 107 (t_eqi (o_t 106 rfl) (o_i (k:=.i64) (by decide)) rfl rfl) hL fun a s e_ hL=>sx 108 (zb (o_t 107 rfl) rfl rfl) hL fun a s e_ hL=>sx 109 (t_g1 rfl rfl rfl (fun hc_=>t_fa (off:=3) (o_t 3 rfl) Tryz.underlying77 rfl (zg (zg (zg (zj _ _) rfl) rfl) rfl) rfl ty3 rfl rfl)) hL fun a s e_ hL=>sx 110 (t_g1 rfl rfl rfl (fun hc_=>zp ty3 (o_w hc_ 109 rfl) rfl rfl)) hL fun a s e_ hL=>sx 111 (t_g1 rfl rfl rfl (fun hc_=>t_eqi (o_w hc_ 110 rfl) (o_i (k:=.i64) (by decide)) rfl rfl)) hL fun a s e_ hL=>sx 112 (t_and (o_t 108 rfl) (fun hc2_=>(o_w hc2_ 111 rfl)) rfl rfl) hL fun a s e_ hL=>sx 113 (zb (o_t 112 rfl) rfl rfl) hL fun a s e_ hL=>sx 114 (t_g1 rfl rfl rfl (fun hc_=>t_fa (off:=2) (o_t 3 rfl) Tryz.underlying77 rfl (zg (zg (zo (zj _ _)) rfl) rfl) rfl ty3 rfl rfl)) hL fun a s e_ hL=>?_
       refine sx 115 (t_g1 rfl rfl rfl (fun hc_=>zp ty3 (o_w hc_ 114 rfl) rfl rfl)) hL fun a s e_ hL=>sx 116 (t_g1 rfl rfl rfl (fun hc_=>t_geq (o_w hc_ 115 rfl) (o_i (k:=.i64) (by decide)) rfl rfl)) hL fun a s e_ hL=>sx 117 (h33 ▸ (t_and (o_t 113 rfl) (fun hc2_=>(o_w hc2_ 116 rfl)) rfl rfl)) hL fun a s e_ hL=>sx 118 (zb (o_t 117 rfl) rfl rfl) hL fun a s e_ hL=>sx 119 (t_g1 rfl rfl rfl (fun hc_=>t_fa (off:=2) (o_t 3 rfl) Tryz.underlying77 rfl (zg (zg (zo (zj _ _)) rfl) rfl) rfl ty3 rfl rfl)) hL fun a s e_ hL=>sx 120 (t_g1 rfl rfl rfl (fun hc_=>zp ty3 (o_w hc_ 119 rfl) rfl rfl)) hL fun a s e_ hL=>sx 121 (t_g1 rfl rfl rfl (fun hc_=>t_leq (o_w hc_ 120 rfl) (o_i (k:=.i64) (by decide)) rfl rfl)) hL fun a s e_ hL=>sx 122 (t_and (o_t 118 rfl) (fun hc2_=>(o_w hc2_ 121 rfl)) rfl rfl) hL fun a s e_ hL=>sx 4 (zd (o_t 122 rfl) rfl rfl) hL fun a s e_ hL=>?_
       refine en' (hK31 _ _ ?_)
       subst h
       exact wp_ret (retq rfl hL rfl)
      ·replace h:=h.2 hb_
       refine wp_skip ?_
       show K16 a s.w
       refine hK16 _ _ (wp_seq_k fun K34 hK34=>?_)
       refine rg (sx 4 (zd o_b rfl rfl) hL fun a s e_ hL=>?_)
       refine en' (hK34 _ _ ?_)
       subst h
       exact wp_ret (retq rfl hL rfl)
theorem ref13_Form_ok {d_:SDesc} {s_:(List SItem)} {r_:Bool} (h:zci d_ s_ r_):Fn Tryz.prog 87 [(Pd.rep En.SDesc d_),(Pd.rep (En.slice En.SItem) s_)] (Rq (Pd.rep En.bool r_)):=by
 unfold zci at h
 refine fn_of Tryz.func87 rfl Tryz.ntmps87 (by rfl) (by simp) fun s0 a hL=>?_
 refine wp_seq_k fun K1 hK1=>rg (sx 2 (t_box (o_t 0 rfl) rfl rfl) hL fun a s e_ hL=>?_)
 refine sx 4 (zd o_b rfl rfl) hL fun a s e_ hL=>en' (hK1 _ _ ?_)
 refine wp_seq_k fun K2 hK2=>wp_seq_k fun K3 hK3=>rg (sx 5 (zd (o_i (k:=.i64) (by decide)) rfl rfl) hL fun a s e_ hL=>?_)
 refine en' (hK3 _ _ ?_)
 refine wp_block ?_
 have J4:∀(a:Act) (s:St),Has N0 19 s0 a s []→((zci.j1 r_))→K2 a s.w:=by
  intro a s hL h
  unfold zci.j1 at h
  show K2 a s.w
  refine hK2 _ _ (wp_seq_k fun K5 hK5=>?_)
  refine rg (sx 4 (zd o_b rfl rfl) hL fun a s e_ hL=>?_)
  refine en' (hK5 _ _ ?_)
  subst h
  exact wp_ret (retq rfl hL rfl)
 obtain ⟨k7,h⟩:=h
 refine lpg (fun k8 a s=>∃(i6:Int),Has N0 19 s0 a s [(1,(Pd.rep (En.slice En.SItem) s_)),(2,(Pd.ptr En.SDesc d_)),(5,(Pd.rep (En.int .i64) i6))]∧zci.l1 d_ s_ r_ (zci.j1 r_) k8 i6) k7 ⟨0,hL.keep (.cons (t:=1) rfl nE (.cons (t:=2) rfl nE (.cons (t:=5) rfl nE .nil))),h⟩ ?_
 rintro k8 a s ⟨i6,hL,h⟩ KL9 hKL9
 cases k8 with
 | zero=>exact h.elim
 | succ k8=>
 unfold zci.l1 at h
 refine wp_seq_k fun K10 hK10=>wp_seq_k fun K11 hK11=>rg (sx 6 (zb (o_t 5 rfl) rfl rfl) hL fun a s e_ hL=>?_)
 refine sx 7 (zb (o_t 1 rfl) rfl rfl) hL fun a s e_ hL=>sx 8 (t_len (o_t 7 rfl) Tryz.underlying47 rfl rfl) hL fun a s e_ hL=>sx 9 (t_lss (o_t 6 rfl) (o_t 8 rfl) rfl rfl) hL fun a s e_ hL=>en' (hK11 _ _ ?_)
 refine cnd hL rfl (fun hb_=>?_) (fun hb_=>?_)
 ·replace h:=h.1 hb_
  refine wp_skip ?_
  show K10 a s.w
  refine hK10 _ _ (wp_seq_k fun K12 hK12=>?_)
  refine wp_block (wp_seq_k fun K13 hK13=>?_)
  obtain ⟨e14,h15,r16,h17,h⟩:=h
  refine rda zbq 7 [(Pd.rep En.SDesc d_),(Pd.rep (En.slice En.SItem) s_),(Pd.rep (En.int .i64) i6),(Pd.ptr En.SItem e14),(Pd.rep En.SItem e14),(Pd.rep En.bool r16),(Pd.rep En.bool (!r16))] hL (by kernel_rfl) rfl rfl ?_ ?_
  ·refine AllT.cons (zp ty24 (o_t 2 rfl) rfl rfl) ?_
   refine AllT.cons (zb (o_t 1 rfl) rfl rfl) (AllT.cons (zb (o_t 5 rfl) rfl rfl) ?_)
   refine AllT.cons (t_idx (o_t 13 rfl) (o_t 14 rfl) h15 Tryz.underlying47 ty77 rfl rfl) (AllT.cons (zp ty77 (o_t 15 rfl) rfl rfl) ?_)
   refine AllT.cons (zw (ref13_form_ok h17) (xs:=[.tmp 12,.tmp 16]) (.cons (o_t 12 rfl) (.cons (o_t 16 rfl) .nil)) rfl rfl) (AllT.cons (t_not (o_t 17 rfl) rfl rfl) ?_)
   exact AllT.nil
  intro a s e_ hL
  refine en' (hK13 _ _ ?_)
  refine cnd hL rfl (fun hb_=>?_) (fun hb_=>?_)
  ·replace h:=h.1 hb_
   refine wp_seq_k fun K18 hK18=>rg (sx 4 (zd o_b rfl rfl) hL fun a s e_ hL=>?_)
   refine en' (hK18 _ _ ?_)
   subst h
   exact wp_ret (retq rfl hL rfl)
  ·replace h:=h.2 hb_
   refine wp_skip ?_
   show K12 a s.w
   refine hK12 _ _ ?_
   obtain ⟨h19,h⟩:=h
   refine rg (sx 10 (zb (o_t 5 rfl) rfl rfl) hL fun a s e_ hL=>?_)
   refine sx 11 (t_add (o_t 10 rfl) (o_i (k:=.i64) (by decide)) h19 rfl rfl) hL fun a s e_ hL=>sx 5 (zd (o_t 11 rfl) rfl rfl) hL fun a s e_ hL=>en' ?_
   exact hKL9 k8 a s (Nat.lt_succ_self _) ⟨(i6+1),hL.keep (.cons (t:=1) rfl nE (.cons (t:=2) rfl nE (.cons (t:=5) rfl nE .nil))),h⟩
 ·replace h:=h.2 hb_
  refine wp_exit ?_
  exact J4 a s (hL.keep .nil) h
end Go.Proofs.YtahgmdbioafmbaaGreatDoor.V
namespace Go.Proofs.YtahgmdbioafmbaaGreatDoor.V
open Go
set_option linter.unusedVariables false
def heads_Ready (d_:SDesc) (s_:(List SItem)) (r_:Bool):Prop:=((((s_.length:Int)==0))=true→r_=true)∧((((s_.length:Int)==0))=false→∃e7:SItem,at? s_ 0=some e7∧(((e7.1==1))=true→∃e13:SNode,at? d_ e7.2.1=some e13∧∃e16:Bool,(((decide (e13.1<10))=true)→at? gdat1 e13.1=some e16)∧r_=((decide (e13.1<10))&&e16))∧(((e7.1==1))=false→(((e7.1==3))=true→(((e7.1==3))=true→r_=true)∧(((e7.1==3))=false→r_=false))∧(((e7.1==3))=false→(((e7.1==4))=true→r_=true)∧(((e7.1==4))=false→r_=false))))
def zcd (rest_:(List SItem)) (list_:(List SItem)) (r_:(List SItem)):Prop:=∃r3:(List SItem),zi [list_,rest_] r3∧r_=r3
def zd2 (i_:Int) (r_:SItem):Prop:=r_=(1,i_,0,0)
def zcq.j1 (r_:(List (List SItem))) (out35:(List (List SItem))):Prop:=r_=out35
def zcq.j2 (s_:(List SItem)) (r_:(List (List SItem))) (e4:SItem) (e9:SNode) (out27:(List (List SItem))):Prop:=((decide (0<e4.2.2.2))=true→∃r39:SItem,zd2 e9.2.1 r39∧(InR .i64 (e4.2.2.1-1))∧(InR .i64 (e4.2.2.2-1))∧∃r43:(List SItem),zcd (s_.drop (1:Int).toNat) [r39,(e4.1,e4.2.1,(max (e4.2.2.1-1) 0),e4.2.2.2-1)] r43∧(out27.length+[r43].length≤2147483648)∧(zcq.j1 r_) (out27++[r43]))∧((decide (0<e4.2.2.2))=false→(zcq.j1 r_) out27)
def zcq (d_:SDesc) (s_:(List SItem)) (r_:(List (List SItem))):Prop:=∃e4:SItem,at? s_ 0=some e4∧((0:Int)≤1∧1≤(s_.length:Int))∧∃e9:SNode,at? d_ e4.2.1=some e9∧((((e4.1==5)&&(e4.2.2.1==0)))=true→∃r16:(List SItem),zcd (s_.drop (1:Int).toNat) ([]:(List SItem)) r16∧r_=[r16])∧((((e4.1==5)&&(e4.2.2.1==0)))=false→(((e4.1==5))=true→r_=([]:(List (List SItem))))∧(((e4.1==5))=false→(((e4.1==2))=true→(((e4.2.2.1==0))=true→∃r47:(List SItem),zcd (s_.drop (1:Int).toNat) ([]:(List SItem)) r47∧(([]:(List (List SItem))).length+[r47].length≤2147483648)∧(zcq.j2 s_ r_ e4 e9) (([]:(List (List SItem)))++[r47]))∧(((e4.2.2.1==0))=false→(zcq.j2 s_ r_ e4 e9) ([]:(List (List SItem)))))∧(((e4.1==2))=false→(((e9.1==1))=true→∃r57:(List SItem),zcd (s_.drop (1:Int).toNat) ([]:(List SItem)) r57∧r_=[r57])∧(((e9.1==1))=false→(((e9.1==3))=true→∃r64:(List SItem),zcd (s_.drop (1:Int).toNat) [(3,e4.2.1,0,0)] r64∧r_=[r64])∧(((e9.1==3))=false→(((e9.1==4))=true→∃r71:SItem,zd2 e9.2.1 r71∧∃r73:SItem,zd2 e9.2.2.1 r73∧∃r75:(List SItem),zcd (s_.drop (1:Int).toNat) [r71,r73] r75∧r_=[r75])∧(((e9.1==4))=false→(((e9.1==5))=true→∃r82:SItem,zd2 e9.2.1 r82∧∃r84:(List SItem),zcd (s_.drop (1:Int).toNat) [r82] r84∧∃r86:SItem,zd2 e9.2.2.1 r86∧∃r88:(List SItem),zcd (s_.drop (1:Int).toNat) [r86] r88∧r_=[r84,r88])∧(((e9.1==5))=false→(((e9.1==6))=true→∃r95:(List SItem),zcd (s_.drop (1:Int).toNat) ([]:(List SItem)) r95∧∃r97:SItem,zd2 e9.2.1 r97∧∃r99:(List SItem),zcd (s_.drop (1:Int).toNat) [r97,e4] r99∧r_=[r95,r99])∧(((e9.1==6))=false→∃r105:(List SItem),zcd (s_.drop (1:Int).toNat) [(2,e4.2.1,e9.2.2.2.1,e9.2.2.2.2.1)] r105∧r_=[r105]))))))))
def heads_Heads_1 (a_:SBranch) (b_:SBranch) (r_:Int):Prop:=∃r3:Int,item_Compare a_.1 b_.1 r3∧r_=r3
def ref14_Fits (d_:SDesc) (s_:(List SItem)) (r_:Bool):Prop:=∃b3:Bool,b3=((decide ((d_.length:Int)≤24))&&(decide ((s_.length:Int)≤8)))∧∃r5:Bool,(((b3)=true)→zci d_ s_ r5)∧r_=(b3&&r5)
def ref14_Ready (d_:SDesc) (s_:(List SItem)) (r_:Bool):Prop:=∃e4:SItem,(((((s_.length:Int)==0))=false)→at? s_ 0=some e4)∧∃e6:SItem,((((((s_.length:Int)==0)||(e4.1==3)))=false)→at? s_ 0=some e6)∧∃b8:Bool,b8=((((s_.length:Int)==0)||(e4.1==3))||(e6.1==4))∧((b8)=true→r_=true)∧((b8)=false→∃e12:SItem,at? s_ 0=some e12∧∃e14:SNode,at? d_ e12.2.1=some e14∧∃e17:SItem,at? s_ 0=some e17∧∃b19:Bool,b19=((e17.1==1)&&(((e14.1==2)||(e14.1==8))||(e14.1==9)))∧r_=b19)
def zb3 (l_:(List SItem)) (s_:(List SItem)) (r_:(List SItem)):Prop:=(([]:(List SItem)).length+l_.length≤2147483648)∧((([]:(List SItem))++l_).length+s_.length≤2147483648)∧r_=(([]:(List SItem))++l_)++s_
def zc2.j1 (s_:(List SItem)) (many_:Int) (r_:(List SBranch)) (out6:(List SBranch)) (done8:Bool):Prop:=(((!done8))=true→(out6.length+[(s_,many_)].length≤2147483648)∧r_=out6++[(s_,many_)])∧(((!done8))=false→r_=out6)
def zc2.j2 (L1_:(List SBranch)→Bool→Int→Prop) (l_:(List SBranch)) (i19:Int) (out43:(List SBranch)) (done45:Bool):Prop:=∃e47:SBranch,at? l_ i19=some e47∧(out43.length+[e47].length≤2147483648)∧(InR .i64 (i19+1))∧L1_ (out43++[e47]) done45 (i19+1)
def zc2.l1 (l_:(List SBranch)) (s_:(List SItem)) (many_:Int) (X1:(List SBranch)→Bool→Prop):Nat→(List SBranch)→Bool→Int→Prop
 | 0,_,_,_=>False
 | k_0+1,out16,done18,i19=>((decide (i19<(l_.length:Int)))=true→∃e27:SBranch,at? l_ i19=some e27∧∃r29:Int,zbd s_ e27.1 r29∧(((r29==0))=true→∃e34:SBranch,at? l_ i19=some e34∧(InR .i64 (e34.2+many_))∧(out16.length+[(s_,(min 2 (e34.2+many_)))].length≤2147483648)∧(InR .i64 (i19+1))∧zc2.l1 l_ s_ many_ X1 k_0 (out16++[(s_,(min 2 (e34.2+many_)))]) true (i19+1))∧(((r29==0))=false→((((decide (r29<0))&&(!done18)))=true→(out16.length+[(s_,many_)].length≤2147483648)∧(zc2.j2 (zc2.l1 l_ s_ many_ X1 k_0) l_ i19) (out16++[(s_,many_)]) true)∧((((decide (r29<0))&&(!done18)))=false→(zc2.j2 (zc2.l1 l_ s_ many_ X1 k_0) l_ i19) out16 done18)))∧((decide (i19<(l_.length:Int)))=false→X1 out16 done18)
def zc2 (l_:(List SBranch)) (s_:(List SItem)) (many_:Int) (r_:(List SBranch)):Prop:=∃k20,zc2.l1 l_ s_ many_ (zc2.j1 s_ many_ r_) k20 ([]:(List SBranch)) false 0
def zc1.j1 (r_:(List (List SItem))) (out27:(List (List SItem))):Prop:=r_=out27
def zc1.j2 (r_:(List (List SItem))) (out47:(List (List SItem))):Prop:=r_=out47
def zc1.j3 (s_:(List SItem)) (r_:(List (List SItem))) (e3:SItem) (e9:SNode) (out39:(List (List SItem))):Prop:=((decide (0<e3.2.2.2))=true→(InR .i64 (e3.2.2.1-1))∧(InR .i64 (e3.2.2.2-1))∧∃r53:(List SItem),zb3 [(1,e9.2.1,0,0),(2,e3.2.1,(max 0 (e3.2.2.1-1)),e3.2.2.2-1)] (s_.drop (1:Int).toNat) r53∧(out39.length+[r53].length≤2147483648)∧(zc1.j2 r_) (out39++[r53]))∧((decide (0<e3.2.2.2))=false→(zc1.j2 r_) out39)
def zc1 (d_:SDesc) (s_:(List SItem)) (r_:(List (List SItem))):Prop:=∃e3:SItem,at? s_ 0=some e3∧((0:Int)≤1∧1≤(s_.length:Int))∧∃e9:SNode,at? d_ e3.2.1=some e9∧(((e3.1==5))=true→(((e3.2.2.1==0))=true→∃r31:(List SItem),zb3 ([]:(List SItem)) (s_.drop (1:Int).toNat) r31∧(([]:(List (List SItem))).length+[r31].length≤2147483648)∧(zc1.j1 r_) (([]:(List (List SItem)))++[r31]))∧(((e3.2.2.1==0))=false→(zc1.j1 r_) ([]:(List (List SItem)))))∧(((e3.1==5))=false→(((e3.1==2))=true→(((e3.2.2.1==0))=true→∃r57:(List SItem),zb3 ([]:(List SItem)) (s_.drop (1:Int).toNat) r57∧(([]:(List (List SItem))).length+[r57].length≤2147483648)∧(zc1.j3 s_ r_ e3 e9) (([]:(List (List SItem)))++[r57]))∧(((e3.2.2.1==0))=false→(zc1.j3 s_ r_ e3 e9) ([]:(List (List SItem)))))∧(((e3.1==2))=false→(((e9.1==1))=true→∃r66:(List SItem),zb3 ([]:(List SItem)) (s_.drop (1:Int).toNat) r66∧(([]:(List (List SItem))).length+[r66].length≤2147483648)∧r_=([]:(List (List SItem)))++[r66])∧(((e9.1==1))=false→(((e9.1==3))=true→∃r72:(List SItem),zb3 [(3,e3.2.1,0,0)] (s_.drop (1:Int).toNat) r72∧(([]:(List (List SItem))).length+[r72].length≤2147483648)∧r_=([]:(List (List SItem)))++[r72])∧(((e9.1==3))=false→(((e9.1==4))=true→∃r78:(List SItem),zb3 [(1,e9.2.1,0,0),(1,e9.2.2.1,0,0)] (s_.drop (1:Int).toNat) r78∧(([]:(List (List SItem))).length+[r78].length≤2147483648)∧r_=([]:(List (List SItem)))++[r78])∧(((e9.1==4))=false→(((e9.1==5))=true→∃r84:(List SItem),zb3 [(1,e9.2.1,0,0)] (s_.drop (1:Int).toNat) r84∧∃r86:(List SItem),zb3 [(1,e9.2.2.1,0,0)] (s_.drop (1:Int).toNat) r86∧(([]:(List (List SItem))).length+[r84,r86].length≤2147483648)∧r_=([]:(List (List SItem)))++[r84,r86])∧(((e9.1==5))=false→(((e9.1==6))=true→∃r92:(List SItem),zb3 ([]:(List SItem)) (s_.drop (1:Int).toNat) r92∧∃r94:(List SItem),zb3 [(1,e9.2.1,0,0),e3] (s_.drop (1:Int).toNat) r94∧(([]:(List (List SItem))).length+[r92,r94].length≤2147483648)∧r_=([]:(List (List SItem)))++[r92,r94])∧(((e9.1==6))=false→(((e9.1==7))=true→∃r100:(List SItem),zb3 [(2,e3.2.1,e9.2.2.2.1,e9.2.2.2.2.1)] (s_.drop (1:Int).toNat) r100∧(([]:(List (List SItem))).length+[r100].length≤2147483648)∧r_=([]:(List (List SItem)))++[r100])∧(((e9.1==7))=false→r_=([]:(List (List SItem)))))))))))
def zcx.j1 (r_:(List SBranch)) (l16:(List SBranch)):Prop:=r_=l16
def zcx.l1 (n_:SDesc→(List SItem)→(List SBranch)→(List SBranch)→Prop) (d_:SDesc) (r12:(List (List SItem))) (X1:(List SBranch)→Prop):Nat→(List SBranch)→Int→Prop
 | 0,_,_=>False
 | k_0+1,l19,i20=>((decide (i20<(r12.length:Int)))=true→∃e27:(List SItem),at? r12 i20=some e27∧∃r29:(List SBranch),n_ d_ e27 l19 r29∧(InR .i64 (i20+1))∧zcx.l1 n_ d_ r12 X1 k_0 r29 (i20+1))∧((decide (i20<(r12.length:Int)))=false→X1 l19)
def zcx.n:Nat→SDesc→(List SItem)→(List SBranch)→(List SBranch)→Prop
 | 0,_,_,_,_=>False
 | k_+1,d_,s_,l_,r_=>∃r4:Bool,ref14_Ready d_ s_ r4∧((r4)=true→∃r7:(List SItem),zb3 ([]:(List SItem)) s_ r7∧∃r9:(List SBranch),zc2 l_ r7 1 r9∧r_=r9)∧((r4)=false→∃r12:(List (List SItem)),zc1 d_ s_ r12∧∃k21,zcx.l1 (zcx.n k_) d_ r12 (zcx.j1 r_) k21 l_ 0)
def zcx (d_:SDesc) (s_:(List SItem)) (l_:(List SBranch)) (r_:(List SBranch)):Prop:=∃k_,zcx.n k_ d_ s_ l_ r_
def ref14_Heads (d_:SDesc) (s_:(List SItem)) (r_:(List SBranch)):Prop:=∃r3:(List SBranch),zcx d_ s_ ([]:(List SBranch)) r3∧r_=r3
end Go.Proofs.YtahgmdbioafmbaaGreatDoor.V
namespace Go.Proofs.YtahgmdbioafmbaaGreatDoor.V
open Go
set_option linter.unusedVariables false
set_option maxRecDepth 100000
theorem heads_Ready_ok {d_:SDesc} {s_:(List SItem)} {r_:Bool} (h:heads_Ready d_ s_ r_):Fn Tryz.prog 142 [(Pd.rep En.SDesc d_),(Pd.rep (En.slice En.SItem) s_)] (Rq (Pd.rep En.bool r_)):=by
 unfold heads_Ready at h
 refine fn_of Tryz.func142 rfl Tryz.ntmps142 (by rfl) (by simp) fun s0 a hL=>?_
 refine wp_seq_k fun K1 hK1=>rg (sx 2 (t_box (o_t 0 rfl) rfl rfl) hL fun a s e_ hL=>?_)
 refine sx 4 (zd o_b rfl rfl) hL fun a s e_ hL=>en' (hK1 _ _ ?_)
 refine wp_seq_k fun K2 hK2=>wp_seq_k fun K3 hK3=>rg (sx 7 (zb (o_t 1 rfl) rfl rfl) hL fun a s e_ hL=>?_)
 refine sx 8 (t_len (o_t 7 rfl) Tryz.underlying47 rfl rfl) hL fun a s e_ hL=>sx 9 (t_eqi (o_t 8 rfl) (o_i (k:=.i64) (by decide)) rfl rfl) hL fun a s e_ hL=>en' (hK3 _ _ ?_)
 refine cnd hL rfl (fun hb_=>?_) (fun hb_=>?_)
 ·replace h:=h.1 hb_
  refine wp_seq_k fun K4 hK4=>rg (sx 4 (zd o_b rfl rfl) hL fun a s e_ hL=>?_)
  refine en' (hK4 _ _ ?_)
  subst h
  exact wp_ret (retq rfl hL rfl)
 ·replace h:=h.2 hb_
  refine wp_skip ?_
  show K2 a s.w
  refine hK2 _ _ (wp_seq_k fun K5 hK5=>?_)
  refine wp_seq_k fun K6 hK6=>?_
  obtain ⟨e7,h8,h⟩:=h
  refine rg (sx 10 (zb (o_t 1 rfl) rfl rfl) hL fun a s e_ hL=>?_)
  refine sx 11 (t_idx (o_t 10 rfl) (o_i (k:=.i64) (by decide)) h8 Tryz.underlying47 ty77 rfl rfl) hL fun a s e_ hL=>sx 12 (zp ty77 (o_t 11 rfl) rfl rfl) hL fun a s e_ hL=>zbc En.SItem (z:=(0,0,0,0)) 5 hL tyz77 rfl rfl rfl rfl fun a s g9 hg_ hL=>?_
  refine zb6 (L':=[(2,(Pd.ptr En.SDesc d_))]) 5 hL rfl (o_t 12 rfl) ty77 rfl rfl rfl (.cons (t:=2) rfl nE .nil) fun s hL=>?_
  refine en' (hK6 _ _ ?_)
  refine wp_seq_k fun K10 hK10=>rg (sx 13 (t_fab (off:=0) (o_t 5 rfl) Tryz.underlying77 rfl (zo (zj _ _)) rfl ty3 rfl rfl) hL fun a s e_ hL=>?_)
  refine sx 14 (zu ty3 (o_t 13 rfl) rfl rfl) hL fun a s e_ hL=>en' (hK10 _ _ ?_)
  refine wp_block (wp_seq_k fun K11 hK11=>?_)
  refine rg (sx 16 (t_eqi (o_t 14 rfl) (o_i (k:=.i64) (by decide)) rfl rfl) hL fun a s e_ hL=>?_)
  refine sx 15 (zd (o_t 16 rfl) rfl rfl) hL fun a s e_ hL=>en' (hK11 _ _ ?_)
  refine cnd hL rfl (fun hb_=>?_) (fun hb_=>?_)
  ·replace h:=h.1 hb_
   refine wp_seq_k fun K12 hK12=>?_
   obtain ⟨e13,h14,h⟩:=h
   refine rg (sx 17 (t_fa (off:=0) (o_t 2 rfl) Tryz.underlying24 rfl (zcm (zj _ _)) rfl ty22 rfl rfl) hL fun a s e_ hL=>?_)
   refine sx 18 (zp ty22 (o_t 17 rfl) rfl rfl) hL fun a s e_ hL=>sx 19 (t_fab (off:=1) (o_t 5 rfl) Tryz.underlying77 rfl (zg (zo (zj _ _)) rfl) rfl ty3 rfl rfl) hL fun a s e_ hL=>sx 20 (zu ty3 (o_t 19 rfl) rfl rfl) hL fun a s e_ hL=>sx 21 (t_idx (o_t 18 rfl) (o_t 20 rfl) h14 Tryz.underlying22 ty68 rfl rfl) hL fun a s e_ hL=>sx 22 (t_fa (off:=0) (o_t 21 rfl) Tryz.underlying68 rfl (zo (zj _ _)) rfl ty3 rfl rfl) hL fun a s e_ hL=>sx 23 (zp ty3 (o_t 22 rfl) rfl rfl) hL fun a s e_ hL=>sx 6 (zd (o_t 23 rfl) rfl rfl) hL fun a s e_ hL=>en' (hK12 _ _ ?_)
   refine wp_seq_k fun K15 hK15=>?_
   obtain ⟨e16,h17,h⟩:=h
   refine rg (sx 24 (zb (o_t 6 rfl) rfl rfl) hL fun a s e_ hL=>?_)
   refine sx 25 (t_lss (o_t 24 rfl) (o_i (k:=.i64) (by decide)) rfl rfl) hL fun a s e_ hL=>sx 26 (zb (o_t 25 rfl) rfl rfl) hL fun a s e_ hL=>sx 27 (t_g1 rfl rfl rfl (fun hc_=>zb (o_t 6 rfl) rfl rfl)) hL fun a s e_ hL=>sx 28 (t_g1 rfl rfl rfl (fun hc_=>t_gidxb (g:=1) (xs:=gdat1) (by simp [gtab]) rfl (o_w hc_ 27 rfl) (h17 hc_) Tryz.underlying213 (by rfl) rfl rfl)) hL fun a s e_ hL=>sx 29 (t_g1 rfl rfl rfl (fun hc_=>zp ty4 (o_w hc_ 28 rfl) rfl rfl)) hL fun a s e_ hL=>sx 30 (t_and (o_t 26 rfl) (fun hc2_=>(o_w hc2_ 29 rfl)) rfl rfl) hL fun a s e_ hL=>sx 4 (zd (o_t 30 rfl) rfl rfl) hL fun a s e_ hL=>en' (hK15 _ _ ?_)
   subst h
   exact wp_ret (retq rfl hL rfl)
  ·replace h:=h.2 hb_
   refine wp_seq_k fun K18 hK18=>wp_seq_k fun K19 hK19=>rg (sx 32 (t_eqi (o_t 14 rfl) (o_i (k:=.i64) (by decide)) rfl rfl) hL fun a s e_ hL=>?_)
   refine sx 31 (zd (o_t 32 rfl) rfl rfl) hL fun a s e_ hL=>en' (hK19 _ _ ?_)
   refine cnd hL rfl (fun hb_=>?_) (fun hb_=>?_)
   ·replace h:=h.1 hb_
    refine wp_skip ?_
    show K18 a s.w
    refine hK18 _ _ (cnd hL rfl (fun hb_=>?_) (fun hb_=>?_))
    ·replace h:=h.1 hb_
     refine wp_seq_k fun K20 hK20=>rg (sx 4 (zd o_b rfl rfl) hL fun a s e_ hL=>?_)
     refine en' (hK20 _ _ ?_)
     subst h
     exact wp_ret (retq rfl hL rfl)
    ·replace h:=h.2 hb_
     refine wp_skip ?_
     show K5 a s.w
     refine hK5 _ _ (wp_seq_k fun K21 hK21=>?_)
     refine rg (sx 4 (zd o_b rfl rfl) hL fun a s e_ hL=>?_)
     refine en' (hK21 _ _ ?_)
     subst h
     exact wp_ret (retq rfl hL rfl)
   ·replace h:=h.2 hb_
    refine rg (sx 33 (t_eqi (o_t 14 rfl) (o_i (k:=.i64) (by decide)) rfl rfl) hL fun a s e_ hL=>?_)
    refine sx 31 (zd (o_t 33 rfl) rfl rfl) hL fun a s e_ hL=>en' (hK18 _ _ ?_)
    refine cnd hL rfl (fun hb_=>?_) (fun hb_=>?_)
    ·replace h:=h.1 hb_
     refine wp_seq_k fun K22 hK22=>rg (sx 4 (zd o_b rfl rfl) hL fun a s e_ hL=>?_)
     refine en' (hK22 _ _ ?_)
     subst h
     exact wp_ret (retq rfl hL rfl)
    ·replace h:=h.2 hb_
     refine wp_skip ?_
     show K5 a s.w
     refine hK5 _ _ (wp_seq_k fun K23 hK23=>?_)
     refine rg (sx 4 (zd o_b rfl rfl) hL fun a s e_ hL=>?_)
     refine en' (hK23 _ _ ?_)
     subst h
     exact wp_ret (retq rfl hL rfl)
theorem zb7 {rest_:(List SItem)} {list_:(List SItem)} {r_:(List SItem)} (h:zcd rest_ list_ r_):Fn Tryz.prog 169 [(Pd.rep (En.slice En.SItem) rest_),(Pd.rep (En.slice En.SItem) list_)] (Ro En.SItem 77 r_):=by
 unfold zcd at h
 refine fn_of Tryz.func169 rfl Tryz.ntmps169 (by rfl) (by simp) fun s0 a hL=>?_
 refine wp_seq_k fun K1 hK1=>rg (sx 4 (zd (o_nil (E:=En.SItem) (N:=s0.w.heap.size) (te:=77)) rfl rfl) hL fun a s e_ hL=>?_)
 refine en' (hK1 _ _ ?_)
 refine wp_seq_k fun K2 hK2=>?_
 obtain ⟨r3,h4,h⟩:=h
 refine rg (sx 5 (zb (o_t 1 rfl) rfl rfl) hL fun a s e_ hL=>?_)
 refine sx 6 (zb (o_t 0 rfl) rfl rfl) hL fun a s e_ hL=>sx 7 (t_lit (xs:=[.tmp 5,.tmp 6]) (.cons (o_t 5 rfl) (.cons (o_t 6 rfl) .nil)) Tryz.underlying25 ty47 rfl rfl (by decide) rfl rfl) hL fun a s e_ hL=>st_callo 8 hL (zcz h4) (xs:=[.tmp 7]) (.cons (o_t 7 rfl) .nil) rfl rfl rfl rfl fun a s og5 hg_ hL=>?_
 refine sx 4 (zd (o_t 8 rfl) rfl rfl) hL fun a s e_ hL=>en' (hK2 _ _ ?_)
 subst h
 exact wp_ret (reto rfl hL rfl)
theorem zdq {i_:Int} {r_:SItem} (h:zd2 i_ r_):Fn Tryz.prog 170 [(Pd.rep (En.int .i64) i_)] (Rq (Pd.rep En.SItem r_)):=by
 unfold zd2 at h
 refine fn_of Tryz.func170 rfl Tryz.ntmps170 (by rfl) (by simp) fun s0 a hL=>?_
 refine wp_seq_k fun K1 hK1=>rg (zbc En.SItem (z:=(0,0,0,0)) 2 hL tyz77 rfl rfl rfl rfl fun a s g2 hg_ hL=>?_)
 refine en' (hK1 _ _ ?_)
 refine wp_seq_k fun K3 hK3=>rg (sx 3 (zb (o_t 0 rfl) rfl rfl) hL fun a s e_ hL=>?_)
 refine sx 4 (zdi (x:=(1,i_,0,0)) (ps:=[(0,.const (.int .i64 1)),(1,.tmp 3)]) tyz77 rfl stt77 (.cons (i:=0) (o_i (k:=.i64) (by decide)) rfl (zbj (z8 _ _ _)) (.cons (i:=1) (o_t 3 rfl) rfl (z6 (zbj (z8 _ _ _)) rfl) .nil)) rfl rfl) hL fun a s e_ hL=>zb6 (L':=[]) 2 hL rfl (o_t 4 rfl) ty77 rfl rfl rfl .nil fun s hL=>?_
 refine en' (hK3 _ _ ?_)
 subst h
 exact wp_ret (retb rfl ty77 hL rfl)
theorem heads_Open_ok {d_:SDesc} {s_:(List SItem)} {r_:(List (List SItem))} (h:zcq d_ s_ r_):Fn Tryz.prog 144 [(Pd.rep En.SDesc d_),(Pd.rep (En.slice En.SItem) s_)] (Ro (En.slice En.SItem) 47 r_):=by
 unfold zcq at h
 refine fn_of Tryz.func144 rfl Tryz.ntmps144 (by rfl) (by simp) fun s0 a hL=>?_
 refine wp_seq_k fun K1 hK1=>rg (sx 2 (t_box (o_t 0 rfl) rfl rfl) hL fun a s e_ hL=>?_)
 refine sx 4 (zd (o_nil (E:=(En.slice En.SItem)) (N:=s0.w.heap.size) (te:=47)) rfl rfl) hL fun a s e_ hL=>en' (hK1 _ _ ?_)
 refine wp_seq_k fun K2 hK2=>?_
 obtain ⟨e4,h5,h6,h⟩:=h
 replace hL:=hL.keep (L':=[(1,(Pd.rep (En.slice En.SItem) s_)),(2,(Pd.ptr En.SDesc d_))]) (.cons (t:=1) rfl nE (.cons (t:=2) rfl nE .nil))
 obtain ⟨K3,hK3,nK3,hL⟩:=hL.mark 999983
 refine rdf 8 zbq hL (by kernel_rfl) fun s e_ hL=>?_
 refine zdz 3 12 hL (by rfl) (by kernel_rfl) (by kernel_rfl) (by kernel_rfl) (fun _ _ _ _ h=>h) (q:=(Pd.rep (En.slice En.SItem) s_)) (y_move (o_t 1 rfl) rfl rfl) rfl rfl fun a hL=>?_
 refine zdz 4 13 hL (by rfl) (by kernel_rfl) (by kernel_rfl) (by kernel_rfl) (fun _ _ _ _ h=>h) (q:=(Pd.rep (En.slice En.SItem) (s_.drop (1:Int).toNat))) (y_from (o_t 12 rfl) (o_i (k:=.i64) (by decide)) h6 Tryz.underlying47 ty77 rfl rfl) rfl rfl fun a hL=>?_
 refine rc_go 6 [(Pd.rep (En.slice En.SItem) s_),(Pd.ptr En.SItem e4),(Pd.rep En.SItem e4),(Pd.rep (En.slice En.SItem) s_),(Pd.rep (En.slice En.SItem) (s_.drop (1:Int).toNat)),(Pd.ebox En.SItem s0.w.heap.size K3 (0,0,0,0))] [3,4] K3 [5] nK3 hL (.cons (t:=13) rfl nE (.cons (t:=12) rfl nE (.cons (t:=999983) rfl nE (.cons (t:=1) rfl nE (.cons (t:=2) rfl nE .nil))))) (by kernel_rfl) (by kernel_rfl) (by kernel_rfl) (by kernel_rfl) (.cons (i:=3) rfl rfl rfl rfl (.cons (i:=4) rfl rfl rfl rfl .nil)) rfl rfl ?_ ?_
 ·refine AllX.t (zb (o_t 1 rfl) rfl rfl) nE ?_
  refine AllX.t (t_idx (o_t 9 rfl) (o_i (k:=.i64) (by decide)) h5 Tryz.underlying47 ty77 rfl rfl) nE (AllX.t (zp ty77 (o_t 10 rfl) rfl rfl) nE ?_)
  refine AllX.skip rfl nE (AllX.skip rfl nE ?_)
  refine AllX.c (t_allocx En.SItem (z:=(0,0,0,0)) (K:=K3) (m:=999983) rfl nK3 tyz77 rfl rfl) rfl ?_
  exact AllX.nil
 intro a s e_ hL
 obtain ⟨g7,hg_,hL⟩:=hL.openb 5 rfl
 refine zb6 (L':=[(2,(Pd.ptr En.SDesc d_)),(13,(Pd.rep (En.slice En.SItem) (s_.drop (1:Int).toNat)))]) 5 hL rfl (o_t 11 rfl) ty77 rfl rfl rfl (.cons (t:=2) rfl nE (.cons (t:=13) rfl nE .nil)) fun s hL=>?_
 refine sx 6 (zd (o_t 13 rfl) rfl rfl) hL fun a s e_ hL=>en' (hK2 _ _ ?_)
 refine wp_seq_k fun K8 hK8=>?_
 obtain ⟨e9,h10,h⟩:=h
 refine rg (sx 14 (t_fa (off:=0) (o_t 2 rfl) Tryz.underlying24 rfl (zcm (zj _ _)) rfl ty22 rfl rfl) hL fun a s e_ hL=>?_)
 refine sx 15 (zp ty22 (o_t 14 rfl) rfl rfl) hL fun a s e_ hL=>sx 16 (t_fab (off:=1) (o_t 5 rfl) Tryz.underlying77 rfl (zg (zo (zj _ _)) rfl) rfl ty3 rfl rfl) hL fun a s e_ hL=>sx 17 (zu ty3 (o_t 16 rfl) rfl rfl) hL fun a s e_ hL=>sx 18 (t_idx (o_t 15 rfl) (o_t 17 rfl) h10 Tryz.underlying22 ty68 rfl rfl) hL fun a s e_ hL=>sx 19 (zp ty68 (o_t 18 rfl) rfl rfl) hL fun a s e_ hL=>?_
 have lt_d12:=hL.blt 5 rfl
 refine zbc En.SNode (z:=(0,0,0,0,0,(0#256),([]:Str))) 7 hL tyz68 rfl rfl rfl rfl fun a s g11 hg_ hL=>?_
 have d12:Dis (some g11) (some g7):=Dis.newg hg_ lt_d12
 refine zb6 (L':=[(5,(Pd.box En.SItem s0.w.heap.size g7 e4)),(6,(Pd.rep (En.slice En.SItem) (s_.drop (1:Int).toNat)))]) 7 hL rfl (o_t 19 rfl) ty68 rfl rfl rfl (.cons (t:=5) rfl (Dis.bx (Dis.symm d12)) (.cons (t:=6) rfl nE .nil)) fun s hL=>?_
 refine en' (hK8 _ _ ?_)
 refine wp_seq_k fun K13 hK13=>wp_block (wp_seq_k fun K14 hK14=>?_)
 refine rg (sx 21 (t_fab (off:=0) (o_t 5 rfl) Tryz.underlying77 rfl (zo (zj _ _)) rfl ty3 rfl rfl) hL fun a s e_ hL=>?_)
 refine sx 22 (zu ty3 (o_t 21 rfl) rfl rfl) hL fun a s e_ hL=>sx 23 (t_eqi (o_t 22 rfl) (o_i (k:=.i64) (by decide)) rfl rfl) hL fun a s e_ hL=>sx 24 (zb (o_t 23 rfl) rfl rfl) hL fun a s e_ hL=>sx 25 (t_g1 rfl rfl rfl (fun hc_=>t_fab (off:=2) (o_t 5 rfl) Tryz.underlying77 rfl (zg (zg (zo (zj _ _)) rfl) rfl) rfl ty3 rfl rfl)) hL fun a s e_ hL=>sx 26 (t_g1 rfl rfl rfl (fun hc_=>zu ty3 (o_w hc_ 25 rfl) rfl rfl)) hL fun a s e_ hL=>sx 27 (t_g1 rfl rfl rfl (fun hc_=>t_eqi (o_w hc_ 26 rfl) (o_i (k:=.i64) (by decide)) rfl rfl)) hL fun a s e_ hL=>sx 28 (t_and (o_t 24 rfl) (fun hc2_=>(o_w hc2_ 27 rfl)) rfl rfl) hL fun a s e_ hL=>sx 20 (zd (o_t 28 rfl) rfl rfl) hL fun a s e_ hL=>en' (hK14 _ _ ?_)
 refine cnd hL rfl (fun hb_=>?_) (fun hb_=>?_)
 ·replace h:=h.1 hb_
  refine wp_seq_k fun K15 hK15=>?_
  obtain ⟨r16,h17,h⟩:=h
  refine rg (sx 29 (zb (o_t 6 rfl) rfl rfl) hL fun a s e_ hL=>?_)
  refine sx 30 (zw ((zb7 h17).frz) (xs:=[.tmp 29,.const (.slice none 0 0)]) (.cons (o_t 29 rfl) (.cons o_nilr .nil)) rfl rfl) hL fun a s e_ hL=>?_
  have lt_d20:=hL.blt 7 rfl
  have lt_d19:=hL.blt 5 rfl
  refine st_lito (xs:=[.tmp 30]) 31 hL (.cons (o_t 30 rfl) .nil) Tryz.underlying25 ty47 rfl rfl (by decide) rfl rfl rfl rfl fun a s g18 hg_ hL=>?_
  have d19:Dis (some g18) (some g7):=Dis.newg hg_ lt_d19
  have d20:Dis (some g18) (some g11):=Dis.newg hg_ lt_d20
  refine sx 4 (zd (o_t 31 rfl) rfl rfl) hL fun a s e_ hL=>en' (hK15 _ _ ?_)
  subst h
  exact wp_ret (reto rfl hL rfl)
 ·replace h:=h.2 hb_
  refine wp_seq_k fun K21 hK21=>rg (sx 33 (t_fab (off:=0) (o_t 5 rfl) Tryz.underlying77 rfl (zo (zj _ _)) rfl ty3 rfl rfl) hL fun a s e_ hL=>?_)
  refine sx 34 (zu ty3 (o_t 33 rfl) rfl rfl) hL fun a s e_ hL=>sx 35 (t_eqi (o_t 34 rfl) (o_i (k:=.i64) (by decide)) rfl rfl) hL fun a s e_ hL=>sx 32 (zd (o_t 35 rfl) rfl rfl) hL fun a s e_ hL=>en' (hK21 _ _ ?_)
  refine cnd hL rfl (fun hb_=>?_) (fun hb_=>?_)
  ·replace h:=h.1 hb_
   refine wp_seq_k fun K22 hK22=>rg (sx 4 (zd (o_nil (E:=(En.slice En.SItem)) (N:=s0.w.heap.size) (te:=47)) rfl rfl) hL fun a s e_ hL=>?_)
   refine en' (hK22 _ _ ?_)
   subst h
   exact wp_ret (reto rfl hL rfl)
  ·replace h:=h.2 hb_
   refine wp_seq_k fun K23 hK23=>rg (sx 37 (t_fab (off:=0) (o_t 5 rfl) Tryz.underlying77 rfl (zo (zj _ _)) rfl ty3 rfl rfl) hL fun a s e_ hL=>?_)
   refine sx 38 (zu ty3 (o_t 37 rfl) rfl rfl) hL fun a s e_ hL=>sx 39 (t_eqi (o_t 38 rfl) (o_i (k:=.i64) (by decide)) rfl rfl) hL fun a s e_ hL=>sx 36 (zd (o_t 39 rfl) rfl rfl) hL fun a s e_ hL=>en' (hK23 _ _ ?_)
   refine cnd hL rfl (fun hb_=>?_) (fun hb_=>?_)
   ·replace h:=h.1 hb_
    refine wp_seq_k fun K24 hK24=>rg (sx 8 (zd (o_nil (E:=(En.slice En.SItem)) (N:=s0.w.heap.size) (te:=47)) rfl rfl) hL fun a s e_ hL=>?_)
    refine en' (hK24 _ _ ?_)
    refine wp_seq_k fun K25 hK25=>wp_seq_k fun K26 hK26=>rg (sx 40 (t_fab (off:=2) (o_t 5 rfl) Tryz.underlying77 rfl (zg (zg (zo (zj _ _)) rfl) rfl) rfl ty3 rfl rfl) hL fun a s e_ hL=>?_)
    refine sx 41 (zu ty3 (o_t 40 rfl) rfl rfl) hL fun a s e_ hL=>sx 42 (t_eqi (o_t 41 rfl) (o_i (k:=.i64) (by decide)) rfl rfl) hL fun a s e_ hL=>en' (hK26 _ _ ?_)
    have J29:∀(out27:(List (List SItem))) (og28:Option Nat) (a:Act) (s:St),Has N0 139 s0 a s [(5,(Pd.box En.SItem s0.w.heap.size g7 e4)),(6,(Pd.rep (En.slice En.SItem) (s_.drop (1:Int).toNat))),(7,(Pd.box En.SNode s0.w.heap.size g11 e9)),(8,(Pd.row (En.slice En.SItem) s0.w.heap.size 47 og28 out27))]→Dis (some g7) (some g11)→Dis (some g7) og28→Dis (some g11) og28→((zcq.j2 s_ r_ e4 e9) out27)→K25 a s.w:=by
     intro out27 og28 a s hL d30 d31 d32 h
     unfold zcq.j2 at h
     show K25 a s.w
     refine hK25 _ _ (wp_seq_k fun K33 hK33=>?_)
     refine wp_seq_k fun K34 hK34=>rg (sx 48 (t_fab (off:=3) (o_t 5 rfl) Tryz.underlying77 rfl (zg (zg (zg (zj _ _) rfl) rfl) rfl) rfl ty3 rfl rfl) hL fun a s e_ hL=>?_)
     refine sx 49 (zu ty3 (o_t 48 rfl) rfl rfl) hL fun a s e_ hL=>sx 50 (t_gtr (o_t 49 rfl) (o_i (k:=.i64) (by decide)) rfl rfl) hL fun a s e_ hL=>en' (hK34 _ _ ?_)
     have J37:∀(out35:(List (List SItem))) (og36:Option Nat) (a:Act) (s:St),Has N0 139 s0 a s [(8,(Pd.row (En.slice En.SItem) s0.w.heap.size 47 og36 out35))]→((zcq.j1 r_) out35)→K33 a s.w:=by
      intro out35 og36 a s hL h
      unfold zcq.j1 at h
      show K33 a s.w
      refine hK33 _ _ (wp_seq_k fun K38 hK38=>?_)
      refine rg (sx 72 (zb (o_t 8 rfl) rfl rfl) hL fun a s e_ hL=>?_)
      refine sx 4 (zd (o_t 72 rfl) rfl rfl) hL fun a s e_ hL=>en' (hK38 _ _ ?_)
      subst h
      exact wp_ret (reto rfl hL rfl)
     refine cnd hL rfl (fun hb_=>?_) (fun hb_=>?_)
     ·replace h:=h.1 hb_
      obtain ⟨r39,h40,h41,h42,r43,h44,h45,h⟩:=h
      refine rda zbq 20 [(Pd.row (En.slice En.SItem) s0.w.heap.size 47 og28 out27),(Pd.rep (En.slice En.SItem) (s_.drop (1:Int).toNat)),(Pd.optr (En.int .i64) s0.w.heap.size (some g11) (1) e9.2.1),(Pd.rep (En.int .i64) e9.2.1),(Pd.rep En.SItem r39),(Pd.optr (En.int .i64) s0.w.heap.size (some g7) (0) e4.1),(Pd.rep (En.int .i64) e4.1),(Pd.optr (En.int .i64) s0.w.heap.size (some g7) (1) e4.2.1),(Pd.rep (En.int .i64) e4.2.1),(Pd.optr (En.int .i64) s0.w.heap.size (some g7) (2) e4.2.2.1),(Pd.rep (En.int .i64) e4.2.2.1),(Pd.rep (En.int .i64) (e4.2.2.1-1)),(Pd.rep (En.int .i64) (max (e4.2.2.1-1) 0)),(Pd.optr (En.int .i64) s0.w.heap.size (some g7) (3) e4.2.2.2),(Pd.rep (En.int .i64) e4.2.2.2),(Pd.rep (En.int .i64) (e4.2.2.2-1)),(Pd.rep En.SItem (e4.1,e4.2.1,(max (e4.2.2.1-1) 0),e4.2.2.2-1)),(Pd.rep (En.slice En.SItem) [r39,(e4.1,e4.2.1,(max (e4.2.2.1-1) 0),e4.2.2.2-1)]),(Pd.rep (En.slice En.SItem) r43),(Pd.rep (En.slice (En.slice En.SItem)) [r43])] hL (by kernel_rfl) rfl rfl ?_ ?_
      ·refine AllT.cons (zb (o_t 8 rfl) rfl rfl) ?_
       refine AllT.cons (zb (o_t 6 rfl) rfl rfl) (AllT.cons (t_fab (off:=1) (o_t 7 rfl) Tryz.underlying68 rfl (zg (zo (zj _ _)) rfl) rfl ty3 rfl rfl) ?_)
       refine AllT.cons (zu ty3 (o_t 53 rfl) rfl rfl) (AllT.cons (zw (zdq h40) (xs:=[.tmp 54]) (.cons (o_t 54 rfl) .nil) rfl rfl) ?_)
       refine AllT.cons (t_fab (off:=0) (o_t 5 rfl) Tryz.underlying77 rfl (zo (zj _ _)) rfl ty3 rfl rfl) (AllT.cons (zu ty3 (o_t 56 rfl) rfl rfl) ?_)
       refine AllT.cons (t_fab (off:=1) (o_t 5 rfl) Tryz.underlying77 rfl (zg (zo (zj _ _)) rfl) rfl ty3 rfl rfl) (AllT.cons (zu ty3 (o_t 58 rfl) rfl rfl) ?_)
       refine AllT.cons (t_fab (off:=2) (o_t 5 rfl) Tryz.underlying77 rfl (zg (zg (zo (zj _ _)) rfl) rfl) rfl ty3 rfl rfl) (AllT.cons (zu ty3 (o_t 60 rfl) rfl rfl) ?_)
       refine AllT.cons (t_sub (o_t 61 rfl) (o_i (k:=.i64) (by decide)) h41 rfl rfl) (AllT.cons (t_max (o_t 62 rfl) (o_i (k:=.i64) (by decide)) rfl rfl) ?_)
       refine AllT.cons (t_fab (off:=3) (o_t 5 rfl) Tryz.underlying77 rfl (zg (zg (zg (zj _ _) rfl) rfl) rfl) rfl ty3 rfl rfl) (AllT.cons (zu ty3 (o_t 64 rfl) rfl rfl) ?_)
       refine AllT.cons (t_sub (o_t 65 rfl) (o_i (k:=.i64) (by decide)) h42 rfl rfl) (AllT.cons (zdi (x:=(e4.1,e4.2.1,(max (e4.2.2.1-1) 0),e4.2.2.2-1)) (ps:=[(0,.tmp 57),(1,.tmp 59),(2,.tmp 63),(3,.tmp 66)]) tyz77 rfl stt77 (.cons (i:=0) (o_t 57 rfl) rfl (zbj (z8 _ _ _)) (.cons (i:=1) (o_t 59 rfl) rfl (z6 (zbj (z8 _ _ _)) rfl) (.cons (i:=2) (o_t 63 rfl) rfl (z6 (z6 (zbj (z8 _ _ _)) rfl) rfl) (.cons (i:=3) (o_t 66 rfl) rfl (z6 (z6 (z6 (z8 _ _ _) rfl) rfl) rfl) .nil)))) rfl rfl) ?_)
       refine AllT.cons (t_lit (xs:=[.tmp 55,.tmp 67]) (.cons (o_t 55 rfl) (.cons (o_t 67 rfl) .nil)) Tryz.underlying46 ty77 rfl rfl (by decide) rfl rfl) (AllT.cons (zw ((zb7 h44).frz) (xs:=[.tmp 52,.tmp 68]) (.cons (o_t 52 rfl) (.cons (o_t 68 rfl) .nil)) rfl rfl) ?_)
       refine AllT.cons (t_lit (xs:=[.tmp 69]) (.cons (o_t 69 rfl) .nil) Tryz.underlying25 ty47 rfl rfl (by decide) rfl rfl) ?_
       exact AllT.nil
      intro a s e_ hL
      refine st_app (L':=[]) 71 hL (o_t 51 rfl) (o_t 70 rfl) Tryz.underlying25 ty47 h45 rfl rfl rfl rfl .nil fun a s og46 hg_ hL=>?_
      refine sx 8 (zd (o_t 71 rfl) rfl rfl) hL fun a s e_ hL=>en' ?_
      exact J37 (out27++[r43]) og46 a s (hL.keep (.cons (t:=8) rfl (fun _ _ h_=>h_) .nil)) h
     ·replace h:=h.2 hb_
      refine wp_skip ?_
      exact J37 out27 og28 a s (hL.keep (.cons (t:=8) rfl (fun _ _ h_=>h_) .nil)) h
    refine cnd hL rfl (fun hb_=>?_) (fun hb_=>?_)
    ·replace h:=h.1 hb_
     obtain ⟨r47,h48,h49,h⟩:=h
     refine rg (sx 43 (zb (o_t 8 rfl) rfl rfl) hL fun a s e_ hL=>?_)
     refine sx 44 (zb (o_t 6 rfl) rfl rfl) hL fun a s e_ hL=>sx 45 (zw ((zb7 h48).frz) (xs:=[.tmp 44,.const (.slice none 0 0)]) (.cons (o_t 44 rfl) (.cons o_nilr .nil)) rfl rfl) hL fun a s e_ hL=>sx 46 (t_lit (xs:=[.tmp 45]) (.cons (o_t 45 rfl) .nil) Tryz.underlying25 ty47 rfl rfl (by decide) rfl rfl) hL fun a s e_ hL=>?_
     have lt_og50_0:=hL.blt 5 rfl
     have lt_og50_1:=hL.blt 7 rfl
     refine st_app (L':=[(5,(Pd.box En.SItem s0.w.heap.size g7 e4)),(6,(Pd.rep (En.slice En.SItem) (s_.drop (1:Int).toNat))),(7,(Pd.box En.SNode s0.w.heap.size g11 e9)),(8,(Pd.row (En.slice En.SItem) s0.w.heap.size 47 none ([]:(List (List SItem)))))]) 47 hL (o_t 43 rfl) (o_t 46 rfl) Tryz.underlying25 ty47 h49 rfl rfl rfl rfl (.cons (t:=5) rfl (Dis.bx (Dis.symm Dis.none)) (.cons (t:=6) rfl nE (.cons (t:=7) rfl (Dis.bx (Dis.symm Dis.none)) (.cons (t:=8) rfl no_own .nil)))) fun a s og50 hg_ hL=>?_
     have d51:Dis og50 (some g7):=Dis.app hg_ Dis.none lt_og50_0
     have d52:Dis og50 (some g11):=Dis.app hg_ Dis.none lt_og50_1
     refine sx 8 (zd (o_t 47 rfl) rfl rfl) hL fun a s e_ hL=>en' ?_
     exact J29 (([]:(List (List SItem)))++[r47]) og50 a s (hL.keep (.cons (t:=5) rfl (fun _ _ h_=>h_) (.cons (t:=6) rfl nE (.cons (t:=7) rfl (fun _ _ h_=>h_) (.cons (t:=8) rfl (fun _ _ h_=>h_) .nil))))) (Dis.symm d12) (Dis.symm d51) (Dis.symm d52) h
    ·replace h:=h.2 hb_
     refine wp_skip ?_
     exact J29 ([]:(List (List SItem))) none a s (hL.keep (.cons (t:=5) rfl (fun _ _ h_=>h_) (.cons (t:=6) rfl nE (.cons (t:=7) rfl (fun _ _ h_=>h_) (.cons (t:=8) rfl (fun _ _ h_=>h_) .nil))))) (Dis.symm d12) (Dis.symm Dis.none) (Dis.symm Dis.none) h
   ·replace h:=h.2 hb_
    refine wp_skip ?_
    show K13 a s.w
    refine hK13 _ _ (wp_seq_k fun K53 hK53=>?_)
    refine wp_seq_k fun K54 hK54=>rg (sx 73 (t_fab (off:=0) (o_t 7 rfl) Tryz.underlying68 rfl (zo (zj _ _)) rfl ty3 rfl rfl) hL fun a s e_ hL=>?_)
    refine sx 74 (zu ty3 (o_t 73 rfl) rfl rfl) hL fun a s e_ hL=>en' (hK54 _ _ ?_)
    refine wp_block (wp_seq_k fun K55 hK55=>?_)
    refine rg (sx 76 (t_eqi (o_t 74 rfl) (o_i (k:=.i64) (by decide)) rfl rfl) hL fun a s e_ hL=>?_)
    refine sx 75 (zd (o_t 76 rfl) rfl rfl) hL fun a s e_ hL=>en' (hK55 _ _ ?_)
    refine cnd hL rfl (fun hb_=>?_) (fun hb_=>?_)
    ·replace h:=h.1 hb_
     refine wp_seq_k fun K56 hK56=>?_
     obtain ⟨r57,h58,h⟩:=h
     refine rg (sx 77 (zb (o_t 6 rfl) rfl rfl) hL fun a s e_ hL=>?_)
     refine sx 78 (zw ((zb7 h58).frz) (xs:=[.tmp 77,.const (.slice none 0 0)]) (.cons (o_t 77 rfl) (.cons o_nilr .nil)) rfl rfl) hL fun a s e_ hL=>?_
     have lt_d61:=hL.blt 7 rfl
     have lt_d60:=hL.blt 5 rfl
     refine st_lito (xs:=[.tmp 78]) 79 hL (.cons (o_t 78 rfl) .nil) Tryz.underlying25 ty47 rfl rfl (by decide) rfl rfl rfl rfl fun a s g59 hg_ hL=>?_
     have d60:Dis (some g59) (some g7):=Dis.newg hg_ lt_d60
     have d61:Dis (some g59) (some g11):=Dis.newg hg_ lt_d61
     refine sx 4 (zd (o_t 79 rfl) rfl rfl) hL fun a s e_ hL=>en' (hK56 _ _ ?_)
     subst h
     exact wp_ret (reto rfl hL rfl)
    ·replace h:=h.2 hb_
     refine wp_seq_k fun K62 hK62=>rg (sx 81 (t_eqi (o_t 74 rfl) (o_i (k:=.i64) (by decide)) rfl rfl) hL fun a s e_ hL=>?_)
     refine sx 80 (zd (o_t 81 rfl) rfl rfl) hL fun a s e_ hL=>en' (hK62 _ _ ?_)
     refine cnd hL rfl (fun hb_=>?_) (fun hb_=>?_)
     ·replace h:=h.1 hb_
      refine wp_seq_k fun K63 hK63=>?_
      obtain ⟨r64,h65,h⟩:=h
      refine rg (sx 82 (zb (o_t 6 rfl) rfl rfl) hL fun a s e_ hL=>?_)
      refine sx 83 (t_fab (off:=1) (o_t 5 rfl) Tryz.underlying77 rfl (zg (zo (zj _ _)) rfl) rfl ty3 rfl rfl) hL fun a s e_ hL=>sx 84 (zu ty3 (o_t 83 rfl) rfl rfl) hL fun a s e_ hL=>sx 85 (zdi (x:=(3,e4.2.1,0,0)) (ps:=[(0,.const (.int .i64 3)),(1,.tmp 84)]) tyz77 rfl stt77 (.cons (i:=0) (o_i (k:=.i64) (by decide)) rfl (zbj (z8 _ _ _)) (.cons (i:=1) (o_t 84 rfl) rfl (z6 (zbj (z8 _ _ _)) rfl) .nil)) rfl rfl) hL fun a s e_ hL=>sx 86 (t_lit (xs:=[.tmp 85]) (.cons (o_t 85 rfl) .nil) Tryz.underlying46 ty77 rfl rfl (by decide) rfl rfl) hL fun a s e_ hL=>sx 87 (zw ((zb7 h65).frz) (xs:=[.tmp 82,.tmp 86]) (.cons (o_t 82 rfl) (.cons (o_t 86 rfl) .nil)) rfl rfl) hL fun a s e_ hL=>?_
      have lt_d68:=hL.blt 7 rfl
      have lt_d67:=hL.blt 5 rfl
      refine st_lito (xs:=[.tmp 87]) 88 hL (.cons (o_t 87 rfl) .nil) Tryz.underlying25 ty47 rfl rfl (by decide) rfl rfl rfl rfl fun a s g66 hg_ hL=>?_
      have d67:Dis (some g66) (some g7):=Dis.newg hg_ lt_d67
      have d68:Dis (some g66) (some g11):=Dis.newg hg_ lt_d68
      refine sx 4 (zd (o_t 88 rfl) rfl rfl) hL fun a s e_ hL=>en' (hK63 _ _ ?_)
      subst h
      exact wp_ret (reto rfl hL rfl)
     ·replace h:=h.2 hb_
      refine wp_seq_k fun K69 hK69=>rg (sx 90 (t_eqi (o_t 74 rfl) (o_i (k:=.i64) (by decide)) rfl rfl) hL fun a s e_ hL=>?_)
      refine sx 89 (zd (o_t 90 rfl) rfl rfl) hL fun a s e_ hL=>en' (hK69 _ _ ?_)
      refine cnd hL rfl (fun hb_=>?_) (fun hb_=>?_)
      ·replace h:=h.1 hb_
       refine wp_seq_k fun K70 hK70=>?_
       obtain ⟨r71,h72,r73,h74,r75,h76,h⟩:=h
       refine rda zbq 9 [(Pd.rep (En.slice En.SItem) (s_.drop (1:Int).toNat)),(Pd.optr (En.int .i64) s0.w.heap.size (some g11) (1) e9.2.1),(Pd.rep (En.int .i64) e9.2.1),(Pd.rep En.SItem r71),(Pd.optr (En.int .i64) s0.w.heap.size (some g11) (2) e9.2.2.1),(Pd.rep (En.int .i64) e9.2.2.1),(Pd.rep En.SItem r73),(Pd.rep (En.slice En.SItem) [r71,r73]),(Pd.rep (En.slice En.SItem) r75)] hL (by kernel_rfl) rfl rfl ?_ ?_
       ·refine AllT.cons (zb (o_t 6 rfl) rfl rfl) ?_
        refine AllT.cons (t_fab (off:=1) (o_t 7 rfl) Tryz.underlying68 rfl (zg (zo (zj _ _)) rfl) rfl ty3 rfl rfl) (AllT.cons (zu ty3 (o_t 92 rfl) rfl rfl) ?_)
        refine AllT.cons (zw (zdq h72) (xs:=[.tmp 93]) (.cons (o_t 93 rfl) .nil) rfl rfl) (AllT.cons (t_fab (off:=2) (o_t 7 rfl) Tryz.underlying68 rfl (zg (zg (zo (zj _ _)) rfl) rfl) rfl ty3 rfl rfl) ?_)
        refine AllT.cons (zu ty3 (o_t 95 rfl) rfl rfl) (AllT.cons (zw (zdq h74) (xs:=[.tmp 96]) (.cons (o_t 96 rfl) .nil) rfl rfl) ?_)
        refine AllT.cons (t_lit (xs:=[.tmp 94,.tmp 97]) (.cons (o_t 94 rfl) (.cons (o_t 97 rfl) .nil)) Tryz.underlying46 ty77 rfl rfl (by decide) rfl rfl) (AllT.cons (zw ((zb7 h76).frz) (xs:=[.tmp 91,.tmp 98]) (.cons (o_t 91 rfl) (.cons (o_t 98 rfl) .nil)) rfl rfl) ?_)
        exact AllT.nil
       intro a s e_ hL
       have lt_d79:=hL.blt 7 rfl
       have lt_d78:=hL.blt 5 rfl
       refine st_lito (xs:=[.tmp 99]) 100 hL (.cons (o_t 99 rfl) .nil) Tryz.underlying25 ty47 rfl rfl (by decide) rfl rfl rfl rfl fun a s g77 hg_ hL=>?_
       have d78:Dis (some g77) (some g7):=Dis.newg hg_ lt_d78
       have d79:Dis (some g77) (some g11):=Dis.newg hg_ lt_d79
       refine sx 4 (zd (o_t 100 rfl) rfl rfl) hL fun a s e_ hL=>en' (hK70 _ _ ?_)
       subst h
       exact wp_ret (reto rfl hL rfl)
      ·replace h:=h.2 hb_
       refine wp_seq_k fun K80 hK80=>rg (sx 102 (t_eqi (o_t 74 rfl) (o_i (k:=.i64) (by decide)) rfl rfl) hL fun a s e_ hL=>?_)
       refine sx 101 (zd (o_t 102 rfl) rfl rfl) hL fun a s e_ hL=>en' (hK80 _ _ ?_)
       refine cnd hL rfl (fun hb_=>?_) (fun hb_=>?_)
       ·replace h:=h.1 hb_
        refine wp_seq_k fun K81 hK81=>?_
        obtain ⟨r82,h83,r84,h85,r86,h87,r88,h89,h⟩:=h
        refine rda zbq 12 [(Pd.rep (En.slice En.SItem) (s_.drop (1:Int).toNat)),(Pd.optr (En.int .i64) s0.w.heap.size (some g11) (1) e9.2.1),(Pd.rep (En.int .i64) e9.2.1),(Pd.rep En.SItem r82),(Pd.rep (En.slice En.SItem) [r82]),(Pd.rep (En.slice En.SItem) r84),(Pd.rep (En.slice En.SItem) (s_.drop (1:Int).toNat)),(Pd.optr (En.int .i64) s0.w.heap.size (some g11) (2) e9.2.2.1),(Pd.rep (En.int .i64) e9.2.2.1),(Pd.rep En.SItem r86),(Pd.rep (En.slice En.SItem) [r86]),(Pd.rep (En.slice En.SItem) r88)] hL (by kernel_rfl) rfl rfl ?_ ?_
        ·refine AllT.cons (zb (o_t 6 rfl) rfl rfl) ?_
         refine AllT.cons (t_fab (off:=1) (o_t 7 rfl) Tryz.underlying68 rfl (zg (zo (zj _ _)) rfl) rfl ty3 rfl rfl) (AllT.cons (zu ty3 (o_t 104 rfl) rfl rfl) ?_)
         refine AllT.cons (zw (zdq h83) (xs:=[.tmp 105]) (.cons (o_t 105 rfl) .nil) rfl rfl) (AllT.cons (t_lit (xs:=[.tmp 106]) (.cons (o_t 106 rfl) .nil) Tryz.underlying46 ty77 rfl rfl (by decide) rfl rfl) ?_)
         refine AllT.cons (zw ((zb7 h85).frz) (xs:=[.tmp 103,.tmp 107]) (.cons (o_t 103 rfl) (.cons (o_t 107 rfl) .nil)) rfl rfl) (AllT.cons (zb (o_t 6 rfl) rfl rfl) ?_)
         refine AllT.cons (t_fab (off:=2) (o_t 7 rfl) Tryz.underlying68 rfl (zg (zg (zo (zj _ _)) rfl) rfl) rfl ty3 rfl rfl) (AllT.cons (zu ty3 (o_t 110 rfl) rfl rfl) ?_)
         refine AllT.cons (zw (zdq h87) (xs:=[.tmp 111]) (.cons (o_t 111 rfl) .nil) rfl rfl) (AllT.cons (t_lit (xs:=[.tmp 112]) (.cons (o_t 112 rfl) .nil) Tryz.underlying46 ty77 rfl rfl (by decide) rfl rfl) ?_)
         refine AllT.cons (zw ((zb7 h89).frz) (xs:=[.tmp 109,.tmp 113]) (.cons (o_t 109 rfl) (.cons (o_t 113 rfl) .nil)) rfl rfl) ?_
         exact AllT.nil
        intro a s e_ hL
        have lt_d92:=hL.blt 7 rfl
        have lt_d91:=hL.blt 5 rfl
        refine st_lito (xs:=[.tmp 108,.tmp 114]) 115 hL (.cons (o_t 108 rfl) (.cons (o_t 114 rfl) .nil)) Tryz.underlying25 ty47 rfl rfl (by decide) rfl rfl rfl rfl fun a s g90 hg_ hL=>?_
        have d91:Dis (some g90) (some g7):=Dis.newg hg_ lt_d91
        have d92:Dis (some g90) (some g11):=Dis.newg hg_ lt_d92
        refine sx 4 (zd (o_t 115 rfl) rfl rfl) hL fun a s e_ hL=>en' (hK81 _ _ ?_)
        subst h
        exact wp_ret (reto rfl hL rfl)
       ·replace h:=h.2 hb_
        refine wp_seq_k fun K93 hK93=>rg (sx 117 (t_eqi (o_t 74 rfl) (o_i (k:=.i64) (by decide)) rfl rfl) hL fun a s e_ hL=>?_)
        refine sx 116 (zd (o_t 117 rfl) rfl rfl) hL fun a s e_ hL=>en' (hK93 _ _ ?_)
        refine cnd hL rfl (fun hb_=>?_) (fun hb_=>?_)
        ·replace h:=h.1 hb_
         refine wp_seq_k fun K94 hK94=>?_
         obtain ⟨r95,h96,r97,h98,r99,h100,h⟩:=h
         refine rda zbq 9 [(Pd.rep (En.slice En.SItem) (s_.drop (1:Int).toNat)),(Pd.rep (En.slice En.SItem) r95),(Pd.rep (En.slice En.SItem) (s_.drop (1:Int).toNat)),(Pd.optr (En.int .i64) s0.w.heap.size (some g11) (1) e9.2.1),(Pd.rep (En.int .i64) e9.2.1),(Pd.rep En.SItem r97),(Pd.rep En.SItem e4),(Pd.rep (En.slice En.SItem) [r97,e4]),(Pd.rep (En.slice En.SItem) r99)] hL (by kernel_rfl) rfl rfl ?_ ?_
         ·refine AllT.cons (zb (o_t 6 rfl) rfl rfl) ?_
          refine AllT.cons (zw ((zb7 h96).frz) (xs:=[.tmp 118,.const (.slice none 0 0)]) (.cons (o_t 118 rfl) (.cons o_nilr .nil)) rfl rfl) (AllT.cons (zb (o_t 6 rfl) rfl rfl) ?_)
          refine AllT.cons (t_fab (off:=1) (o_t 7 rfl) Tryz.underlying68 rfl (zg (zo (zj _ _)) rfl) rfl ty3 rfl rfl) (AllT.cons (zu ty3 (o_t 121 rfl) rfl rfl) ?_)
          refine AllT.cons (zw (zdq h98) (xs:=[.tmp 122]) (.cons (o_t 122 rfl) .nil) rfl rfl) (AllT.cons (zbg ty77 (o_t 5 rfl) rfl rfl) ?_)
          refine AllT.cons (t_lit (xs:=[.tmp 123,.tmp 124]) (.cons (o_t 123 rfl) (.cons (o_t 124 rfl) .nil)) Tryz.underlying46 ty77 rfl rfl (by decide) rfl rfl) (AllT.cons (zw ((zb7 h100).frz) (xs:=[.tmp 120,.tmp 125]) (.cons (o_t 120 rfl) (.cons (o_t 125 rfl) .nil)) rfl rfl) ?_)
          exact AllT.nil
         intro a s e_ hL
         have lt_d103:=hL.blt 7 rfl
         have lt_d102:=hL.blt 5 rfl
         refine st_lito (xs:=[.tmp 119,.tmp 126]) 127 hL (.cons (o_t 119 rfl) (.cons (o_t 126 rfl) .nil)) Tryz.underlying25 ty47 rfl rfl (by decide) rfl rfl rfl rfl fun a s g101 hg_ hL=>?_
         have d102:Dis (some g101) (some g7):=Dis.newg hg_ lt_d102
         have d103:Dis (some g101) (some g11):=Dis.newg hg_ lt_d103
         refine sx 4 (zd (o_t 127 rfl) rfl rfl) hL fun a s e_ hL=>en' (hK94 _ _ ?_)
         subst h
         exact wp_ret (reto rfl hL rfl)
        ·replace h:=h.2 hb_
         refine wp_skip ?_
         show K53 a s.w
         refine hK53 _ _ (wp_seq_k fun K104 hK104=>?_)
         obtain ⟨r105,h106,h⟩:=h
         refine rg (sx 128 (zb (o_t 6 rfl) rfl rfl) hL fun a s e_ hL=>?_)
         refine sx 129 (t_fab (off:=1) (o_t 5 rfl) Tryz.underlying77 rfl (zg (zo (zj _ _)) rfl) rfl ty3 rfl rfl) hL fun a s e_ hL=>sx 130 (zu ty3 (o_t 129 rfl) rfl rfl) hL fun a s e_ hL=>sx 131 (t_fab (off:=3) (o_t 7 rfl) Tryz.underlying68 rfl (zg (zg (zg (zo (zj _ _)) rfl) rfl) rfl) rfl ty3 rfl rfl) hL fun a s e_ hL=>sx 132 (zu ty3 (o_t 131 rfl) rfl rfl) hL fun a s e_ hL=>sx 133 (t_fab (off:=4) (o_t 7 rfl) Tryz.underlying68 rfl (zg (zg (zg (zg (zo (zj _ _)) rfl) rfl) rfl) rfl) rfl ty3 rfl rfl) hL fun a s e_ hL=>sx 134 (zu ty3 (o_t 133 rfl) rfl rfl) hL fun a s e_ hL=>sx 135 (zdi (x:=(2,e4.2.1,e9.2.2.2.1,e9.2.2.2.2.1)) (ps:=[(0,.const (.int .i64 2)),(1,.tmp 130),(2,.tmp 132),(3,.tmp 134)]) tyz77 rfl stt77 (.cons (i:=0) (o_i (k:=.i64) (by decide)) rfl (zbj (z8 _ _ _)) (.cons (i:=1) (o_t 130 rfl) rfl (z6 (zbj (z8 _ _ _)) rfl) (.cons (i:=2) (o_t 132 rfl) rfl (z6 (z6 (zbj (z8 _ _ _)) rfl) rfl) (.cons (i:=3) (o_t 134 rfl) rfl (z6 (z6 (z6 (z8 _ _ _) rfl) rfl) rfl) .nil)))) rfl rfl) hL fun a s e_ hL=>sx 136 (t_lit (xs:=[.tmp 135]) (.cons (o_t 135 rfl) .nil) Tryz.underlying46 ty77 rfl rfl (by decide) rfl rfl) hL fun a s e_ hL=>sx 137 (zw ((zb7 h106).frz) (xs:=[.tmp 128,.tmp 136]) (.cons (o_t 128 rfl) (.cons (o_t 136 rfl) .nil)) rfl rfl) hL fun a s e_ hL=>?_
         have lt_d109:=hL.blt 7 rfl
         have lt_d108:=hL.blt 5 rfl
         refine st_lito (xs:=[.tmp 137]) 138 hL (.cons (o_t 137 rfl) .nil) Tryz.underlying25 ty47 rfl rfl (by decide) rfl rfl rfl rfl fun a s g107 hg_ hL=>?_
         have d108:Dis (some g107) (some g7):=Dis.newg hg_ lt_d108
         have d109:Dis (some g107) (some g11):=Dis.newg hg_ lt_d109
         refine sx 4 (zd (o_t 138 rfl) rfl rfl) hL fun a s e_ hL=>en' (hK104 _ _ ?_)
         subst h
         exact wp_ret (reto rfl hL rfl)
end Go.Proofs.YtahgmdbioafmbaaGreatDoor.V
namespace Go.Proofs.YtahgmdbioafmbaaGreatDoor.VD
open Go
set_option linter.unusedVariables false
structure St where
 w:World
 X:Nat→Prop
 lt:∀b,X b→b<w.heap.size
def DR (w w':World):Prop:=w.drawn≤w'.drawn
theorem DR.eq {w w':World} (h:w'.drawn=w.drawn):DR w w':=Nat.le_of_eq h.symm
theorem DR.succ {w w':World} (h:w'.drawn=w.drawn+1):DR w w':=by unfold DR;omega
theorem DR.trans {a b c:World} (h:DR a b) (k:DR b c):DR a c:=Nat.le_trans h k
structure Mv (T:Nat→Prop) (s s':St):Prop where
 dr:DR s.w s'.w
 os:s'.w.os=s.w.os
 tape:s'.w.tape=s.w.tape
 output:s'.w.output=s.w.output
 size:s.w.heap.size≤s'.w.heap.size
 blk:∀b,b<s.w.heap.size→¬ T b→s'.w.heap[b]?=s.w.heap[b]?
 tx:∀b,T b→s.X b
 xx:∀b,s'.X b→s.X b∨s.w.heap.size≤b
structure Ex (s s':St):Prop where
 mv:Mv (fun _=>False) s s'
 keep:∀b,s.X b→s'.X b
theorem Mv.refl (T:Nat→Prop) (s:St) (h:∀b,T b→s.X b):Mv T s s:=⟨DR.eq rfl,rfl,rfl,rfl,Nat.le_refl _,fun _ _ _=>rfl,h,fun _ h=>.inl h⟩
theorem Ex.refl (s:St):Ex s s:=⟨Mv.refl _ s (fun _ h=>h.elim),fun _ h=>h⟩
theorem Ex.trans {a b c:St} (h:Ex a b) (k:Ex b c):Ex a c:=
 ⟨⟨h.mv.dr.trans k.mv.dr,k.mv.os.trans h.mv.os,k.mv.tape.trans h.mv.tape,k.mv.output.trans h.mv.output,Nat.le_trans h.mv.size k.mv.size,
  fun i hi hn=>(k.mv.blk i (Nat.lt_of_lt_of_le hi h.mv.size) hn).trans (h.mv.blk i hi hn),fun _ h=>h.elim,
  fun i hi=>(k.mv.xx i hi).elim (fun j=>h.mv.xx i j) (fun j=>.inr (Nat.le_trans h.mv.size j))⟩,fun i hi=>k.keep i (h.keep i hi)⟩
def Gl (s:St):Prop:=(∀p∈V.gtab,¬ s.X p.1∧∃t fr,s.w.heap[p.1]?=some (.cells p.2.toArray t fr)) ∧
 ∀p∈V.gmap,¬ s.X p.1∧∃m t fr es clock ys,s.w.heap[p.1]?=some (.cells #[.map (some m)] t fr)∧¬ s.X m∧s.w.heap[m]?=some (.map es clock)∧V.Fmst es clock ys∧ys.Perm p.2
theorem Gl.mv {T:Nat→Prop} {s s':St} (h:Gl s) (m:Mv T s s'):Gl s':=by
 have key:∀b o,¬ s.X b→s.w.heap[b]?=some o→¬ s'.X b∧s'.w.heap[b]?=some o:=fun b o h1 h2=>by
  have hlt:b<s.w.heap.size:=(Array.getElem?_eq_some_iff.1 h2).1
  refine ⟨fun hx=>(m.xx _ hx).elim h1 (fun hk=>by omega), ?_⟩
  rw [m.blk _ hlt (fun ht=>h1 (m.tx _ ht))];exact h2
 refine ⟨fun p hp=>?_,fun p hp=>?_⟩
 ·obtain ⟨h1,t,fr,h2⟩:=h.1 p hp
  obtain ⟨k1,k2⟩:=key _ _ h1 h2
  exact ⟨k1,t,fr,k2⟩
 ·obtain ⟨h1,b,t,fr,es,clock,ys,h2,h3,h4,h5,h6⟩:=h.2 p hp
  obtain ⟨k1,k2⟩:=key _ _ h1 h2
  obtain ⟨k3,k4⟩:=key _ _ h3 h4
  exact ⟨k1,b,t,fr,es,clock,ys,k2,k3,k4,h5,h6⟩
abbrev N0:Nat→Prop:=fun _=>False
structure Fr (M:Nat→Prop) (s s':St):Prop where
 mv:Mv M s s'
 keep:∀b,s.X b→s'.X b
theorem Fr.ex {s s':St} (h:Fr N0 s s'):Ex s s':=⟨h.mv,h.keep⟩
theorem Fr.refl {M:Nat→Prop} {s:St} (h:∀b,M b→s.X b):Fr M s s:=⟨Mv.refl M s h,fun _ h=>h⟩
theorem Fr.trans {M:Nat→Prop} {a b c:St} (h:Fr M a b) (k:Ex b c):Fr M a c:=
 ⟨⟨h.mv.dr.trans k.mv.dr,k.mv.os.trans h.mv.os,k.mv.tape.trans h.mv.tape,k.mv.output.trans h.mv.output,Nat.le_trans h.mv.size k.mv.size,
  fun i hi hn=>(k.mv.blk i (Nat.lt_of_lt_of_le hi h.mv.size) (fun h=>h)).trans (h.mv.blk i hi hn),h.mv.tx,
  fun i hi=>(k.mv.xx i hi).elim (fun j=>h.mv.xx i j) (fun j=>.inr (Nat.le_trans h.mv.size j))⟩,fun i hi=>k.keep i (h.keep i hi)⟩
structure Pd where
 p:St→Value→Prop
 own:Nat→Prop
 mv:∀{T s s' v},Mv T s s'→(∀b,own b→¬ T b∧(s.X b→s'.X b))→p s v→p s' v
theorem Pd.ex {q:Pd} {s s':St} {v:Value} (h:Ex s s') (hq:q.p s v):q.p s' v:=q.mv h.mv (fun b _=>⟨id,h.keep b⟩) hq
abbrev Lst:=List (Nat × Pd)
def lk:Lst→Nat→Option Pd
 | [],_=>none
 | (d,q)::r,t=>bif Nat.beq d t then some q else lk r t
structure Has (M:Nat→Prop) (n:Nat) (s0:St) (a:Act) (s:St) (L:Lst):Prop where
 size:a.tmps.size=n
 defers:a.defers=[]
 ent:Fr M s0 s
 gl:Gl s0
 at_:∀t q,lk L t=some q→q.p s (a.eval (.tmp t))
theorem Has.gls {M:Nat→Prop} {n:Nat} {s0:St} {a:Act} {s:St} {L:Lst} (h:Has M n s0 a s L):Gl s:=h.gl.mv h.ent.mv
theorem Has.get {M:Nat→Prop} {n:Nat} {s0:St} {a:Act} {s:St} {L:Lst} (h:Has M n s0 a s L) (t:Nat) {q:Pd} (e:lk L t=some q):q.p s (a.eval (.tmp t)):=h.at_ t q e
theorem zds {a:Act} {d n:Nat} {v:Value} (hn:a.tmps.size=n) (hd:Nat.blt d n=true):(a.put (some d) v).eval (.tmp d)=v:=by
 have:d<a.tmps.size:=by rw [hn];exact Nat.le_of_ble_eq_true hd
 simp [Act.eval,Act.put,Array.getD,this]
theorem eval_put_ne {a:Act} {d t:Nat} {v:Value} (h:d≠t):(a.put (some d) v).eval (.tmp t)=a.eval (.tmp t):=by
 simp [Act.eval,Act.put,Array.getElem?_setIfInBounds_ne h]
theorem beq_no {d t:Nat} (h:d≠t):Nat.beq d t=false:=by
 rw [← Bool.not_eq_true];exact fun e=>h (Nat.eq_of_beq_eq_true e)
theorem Has.put {M:Nat→Prop} {n:Nat} {s0:St} {a:Act} {s s':St} {L:Lst} (h:Has M n s0 a s L) (e:Ex s s') {d:Nat} (hd:Nat.blt d n=true) {v:Value} {q:Pd} (hq:q.p s' v):
  Has M n s0 (a.put (some d) v) s' ((d,q)::L) where
 size:=by simp [Act.put,h.size]
 defers:=h.defers
 ent:=h.ent.trans e
 gl:=h.gl
 at_:=by
  intro t q' hl
  unfold lk at hl
  by_cases ht:d=t
  ·subst ht
   simp at hl
   subst hl
   rw [zds h.size hd];exact hq
  ·have:Nat.beq d t=false:=beq_no ht
   rw [this] at hl
   rw [eval_put_ne ht]
   exact Pd.ex e (h.at_ t q' hl)
theorem Has.ex {M:Nat→Prop} {n:Nat} {s0:St} {a:Act} {s s':St} {L:Lst} (h:Has M n s0 a s L) (e:Ex s s'):Has M n s0 a s' L where
 size:=h.size
 defers:=h.defers
 ent:=h.ent.trans e
 gl:=h.gl
 at_:=fun t q hl=>Pd.ex e (h.at_ t q hl)
theorem Has.sub {M:Nat→Prop} {n:Nat} {s0:St} {a:Act} {s:St} {L L':Lst} (h:Has M n s0 a s L) (hs:∀t q,lk L' t=some q→q.p s (a.eval (.tmp t))):Has M n s0 a s L':=
 ⟨h.size,h.defers,h.ent,h.gl,hs⟩
theorem Has.cons {M:Nat→Prop} {n:Nat} {s0:St} {a:Act} {s:St} {L:Lst} (h:Has M n s0 a s L) (d:Nat) {q:Pd} (hq:q.p s (a.eval (.tmp d))):Has M n s0 a s ((d,q)::L):=by
 refine ⟨h.size,h.defers,h.ent,h.gl,fun t q' hl=>?_⟩
 unfold lk at hl
 by_cases ht:d=t
 ·subst ht;simp at hl;subst hl;exact hq
 ·have:Nat.beq d t=false:=beq_no ht
  rw [this] at hl;exact h.at_ t q' hl
def OpR (P:Program) (ops:Array Oper) (o:Oper) (a:Act) (s:St) (K:Value→St→Prop):Prop:=
 ∀(Q:Exit→Act→World→Prop) (k:Act→World→Prop),(∀v s',K v s'→k (a.put o.dst v) s'.w) →
  (if Region.wanted o (yielded ops a.tmps) then o.wp P a s.w k Q else k (a.put o.dst undef) s.w)
def T (P:Program) (ops:Array Oper) (o:Oper) (L:Lst) (q:Pd):Prop:=
 ∀M n s0 a s,Has M n s0 a s L→OpR P ops o a s (fun v s'=>Ex s s'∧q.p s' v)
theorem OpR.of_run {P:Program} {ops:Array Oper} {o:Oper} {a:Act} {s:St} {K:Value→St→Prop} (hg:o.guard=none) {v:Value} {s':St}
  (h:(execOp a.eval o).run P s.w = .ok (.value v) s'.w) (hK:K v s'):OpR P ops o a s K:=by
 intro Q k hk
 simp only [Region.wanted,hg,if_true]
 unfold Oper.wp
 rw [h]
 exact hk v s' hK
theorem st {P:Program} {ops:Array Oper} {Q:Exit→Act→World→Prop} {rest:List Oper} {o:Oper} {M:Nat→Prop} {n:Nat} {s0:St} {a:Act} {s:St} {L:Lst} {q:Pd} (d:Nat)
  (h:T P ops o L q) (hd:o.dst=some d) (hn:Nat.blt d n=true) (hL:Has M n s0 a s L)
  (k:∀a' s',Ex s s'→Has M n s0 a' s' ((d,q)::L)→wpList P ops Q rest a' s'.w):wpList P ops Q (o::rest) a s.w:=by
 refine wpList_step fun K hK=>?_
 refine h M n s0 a s hL Q K fun v s' ⟨e,hq⟩=>hK _ _ ?_
 rw [hd]
 exact k _ s' e (hL.put e hn hq)
theorem sx {P:Program} {ops:Array Oper} {Q:Exit→Act→World→Prop} {rest:List Oper} {o:Oper} {M:Nat→Prop} {n:Nat} {s0:St} {a:Act} {s:St} {L:Lst} {q:Pd} (d:Nat)
  (h:T P ops o L q) (hL:Has M n s0 a s L) (k:∀a' s',Ex s s'→Has M n s0 a' s' ((d,q)::L)→wpList P ops Q rest a' s'.w) (hd:o.dst=some d:=by rfl) (hn:Nat.blt d n=true:=by rfl):wpList P ops Q (o::rest) a s.w:=st d h hd hn hL k
theorem nE {p:Nat→Prop} (b:Nat) (h:False):p b:=h.elim
theorem en' {P:Program} {ops:Array Oper} {Q:Exit→Act→World→Prop} {a:Act} {w:World} (h:Q .normal a w):wpList P ops Q [] a w:=h
theorem rg {P:Program} {id:Nat} {l:List Oper} {Q:Exit→Act→World→Prop} {a:Act} {w:World} (h:wpList P l.toArray Q l a w):(Code.region id l.toArray false).wp P Q a w:=wp_region_lit h
def depL (ops:Array Oper) (qs:List Pd):List Edge→Lst→Lst
 | [],L=>L
 | e::r,L=>match Region.binds .any e,(ops[e.on]?).bind (·.dst),qs[e.on]? with
  | true,some d,some q=>(d,q)::depL ops qs r L
  | _,_,_=>depL ops qs r L
def reach (ops:Array Oper):Nat→Nat→Nat→Bool
 | 0,_,_=>false
 | f+1,i,k=>match ops[i]? with
  | none=>false
  | some o=>(o.after.toList.any fun e=>Region.binds .any e&&Nat.beq e.on k)||(o.after.toList.any fun e=>Region.binds .any e&&reach ops f e.on k)
theorem zdb {ops:Array Oper} {p:Nat→Prop} (hp:∀i o,p i→ops[i]?=some o→∀e∈o.after.toList,Region.binds .any e=true→p e.on):
  ∀(f i k:Nat),reach ops f i k=true→(∀o,ops[i]?=some o→∀e∈o.after.toList,Region.binds .any e=true→p e.on)→p k:=by
 intro f
 induction f with
 | zero=>intro i k h;cases h
 | succ f ih=>
  intro i k h hi
  unfold reach at h
  cases ho:ops[i]? with
  | none=>rw [ho] at h;cases h
  | some o=>
   simp only [ho,Bool.or_eq_true,List.any_eq_true,Bool.and_eq_true] at h
   rcases h with ⟨e,he,hb,hk⟩ | ⟨e,he,hb,hk⟩
   ·rw [← Nat.eq_of_beq_eq_true hk];exact hi o ho e he hb
   ·have:=hi o ho e he hb
    exact ih e.on k hk fun o' ho'=>hp e.on o' this ho'
def zdo (ops:Array Oper) (m n:Nat) (ks:List Nat) (F:List Nat):Bool:=
 (F.all fun k=>Nat.blt k m) &&
 (List.range ops.size).all fun i=>match ops[i]? with
  | none=>false
  | some o=>(o.after.toList.all fun e=>!Region.binds .any e||Nat.blt e.on i) &&
   (if i<m then F.contains i||(match o.dst with
    | none=>false
    | some d=>Nat.blt d n&&ks.all (fun t=>!Nat.beq t d)&&(List.range m).all fun j=>Nat.beq j i||!((ops[j]?).bind (·.dst)==some d))
   else (List.range i).all fun k=>F.contains k||reach ops ops.size i k)
theorem zcu {ops:Array Oper} {listed:Array Bool} {i:Nat}:i∈Region.ready .any ops listed ↔
  i<ops.size∧listed.getD i true=false∧∃o,ops[i]?=some o∧∀e∈o.after.toList,Region.binds .any e=true→listed.getD e.on false=true:=by
 unfold Region.ready
 simp only [List.mem_filter,List.mem_range,Bool.and_eq_true,Bool.not_eq_true']
 constructor
 ·rintro ⟨h1,h2,h3⟩
  refine ⟨h1,h2, ?_⟩
  cases ho:ops[i]? with
  | none=>simp [ho] at h3
  | some o=>
   refine ⟨o,rfl,fun e he hb=>?_⟩
   simp only [ho,Option.map_some,Option.getD_some] at h3
   rw [← Array.all_toList,List.all_eq_true] at h3
   have:=h3 e he
   simpa [hb] using this
 ·rintro ⟨h1,h2,o,ho,h3⟩
  refine ⟨h1,h2, ?_⟩
  simp only [ho,Option.map_some,Option.getD_some]
  rw [← Array.all_toList,List.all_eq_true]
  intro e he
  cases hb:Region.binds .any e
  ·simp
  ·simp [h3 e he hb]
theorem zcr {listed:Array Bool} {i k:Nat} {d:Bool} (h:i<listed.size):(listed.setIfInBounds i true).getD k d=if k=i then true else listed.getD k d:=by
 simp only [Array.getD_eq_getD_getElem?,Array.getElem?_setIfInBounds]
 by_cases hk:k=i
 ·subst hk;simp [h]
 ·simp [hk,Ne.symm hk]
theorem wpAny_tail {P:Program} {ops:Array Oper} {Q:Exit→Act→World→Prop} {m n:Nat} {ks F:List Nat} (hok:zdo ops m n ks F=true):
  ∀(f k:Nat) (listed:Array Bool) (a:Act) (w:World),k+f=ops.size→m≤k→listed.size=ops.size→(∀i,i<ops.size→listed.getD i true=decide (i<k)) →
   wpOps P ops Q (List.range' k f) a w→wpAny P .any ops Q f listed a w:=by
 unfold zdo at hok
 rw [Bool.and_eq_true] at hok
 obtain ⟨hF,hok⟩:=hok
 rw [List.all_eq_true] at hok hF
 intro f
 induction f with
 | zero=>
  intro k listed a w hk hm hs hl h
  refine ⟨?_,h⟩
  cases hr:Region.ready .any ops listed with
  | nil=>rfl
  | cons x xs=>
   have hx:x∈Region.ready .any ops listed:=by rw [hr];simp
   obtain ⟨h1,h2,_⟩:=zcu.1 hx
   rw [hl x h1] at h2
   simp at h2;omega
 | succ f ih=>
  intro k listed a w hk hm hs hl h
  rw [List.range'_succ,wpOps_cons] at h
  have hkr:k∈Region.ready .any ops listed:=by
   obtain ⟨o,ho⟩:∃o,ops[k]?=some o:=⟨ops[k]'(by omega),by simp⟩
   refine zcu.2 ⟨by omega,by rw [hl k (by omega)];simp,o,ho,fun e he hb=>?_⟩
   have:=hok k (by simp;omega)
   simp only [ho,Bool.and_eq_true] at this
   have h1:=List.all_eq_true.1 this.1 e he
   simp only [hb,Bool.not_true,Bool.false_or] at h1
   have h2:e.on<k:=Nat.le_of_ble_eq_true h1
   have h3:=hl e.on (by omega)
   have h4:listed.getD e.on false=listed.getD e.on true:=by simp [Array.getD,hs,show e.on<ops.size by omega]
   rw [h4,h3];simpa using h2
  refine ⟨fun he=>by rw [he] at hkr;simp at hkr,fun i hi=>?_⟩
  obtain ⟨h1,h2,o,ho,h3⟩:=zcu.1 hi
  have hik:¬ i<k:=by rw [hl i h1] at h2;simpa using h2
  have:i=k:=by
   rcases Nat.lt_or_ge k i with hlt | hge
   ·exfalso
    have h5:=hok i (by simpa using h1)
    simp only [ho,Bool.and_eq_true] at h5
    have h6:=h5.2
    rw [if_neg (by omega),List.all_eq_true] at h6
    have h7:=h6 k (by simpa using hlt)
    have hkF:F.contains k=false:=by
     cases hc:F.contains k
     ·rfl
     ·have:=hF k (by simpa using hc)
      have:k<m:=Nat.le_of_ble_eq_true this
      omega
    rw [hkF,Bool.false_or] at h7
    have h8:=zdb (ops:=ops) (p:=fun j=>listed.getD j false=true) (fun j o' hj ho' e he hb=>by
     have hjs:j<ops.size:=by
      rcases Nat.lt_or_ge j ops.size with h | h
      ·exact h
      ·simp [Array.getElem?_eq_none h] at ho'
     have hjk:j<k:=by
      have:listed.getD j false=listed.getD j true:=by simp [Array.getD,hs,hjs]
      rw [this,hl j hjs] at hj;simpa using hj
     have hok2:=hok j (by simpa using hjs)
     simp only [ho',Bool.and_eq_true] at hok2
     have h9:=List.all_eq_true.1 hok2.1 e he
     simp only [hb,Bool.not_true,Bool.false_or] at h9
     have h10:e.on<j:=Nat.le_of_ble_eq_true h9
     have:listed.getD e.on false=listed.getD e.on true:=by simp [Array.getD,hs,show e.on<ops.size by omega]
     rw [this,hl e.on (by omega)];simp;omega) _ i k h7 (fun o' ho'=>by rw [ho] at ho';cases ho';exact h3)
    have h10:listed.getD k false=listed.getD k true:=by simp [Array.getD,hs,show k<ops.size by omega]
    rw [h10,hl k (by omega)] at h8
    simp at h8
   ·omega
  subst this
  refine wpOp_mono (fun a w hw=>ih (i+1) _ a w (by omega) (by omega) (by simpa using hs) (fun j hj=>?_) hw) h
  rw [zcr (by omega),hl j hj]
  by_cases hj':j=i
  ·simp [hj']
  ·simp only [if_neg hj',decide_eq_decide];omega
theorem depL_has {ops:Array Oper} {qs:List Pd} {M:Nat→Prop} {n:Nat} {s0:St} {a:Act} {s:St} {L:Lst} (hL:Has M n s0 a s L):
  ∀(es:List Edge),(∀e∈es,Region.binds .any e=true→∀d q,(ops[e.on]?).bind (·.dst)=some d→qs[e.on]?=some q→q.p s (a.eval (.tmp d)))→Has M n s0 a s (depL ops qs es L)
 | [],_=>hL
 | e::r,h=>by
  have ih:=depL_has hL r (fun e' he'=>h e' (by simp [he']))
  unfold depL
  split
  ·rename_i d q hb hd hq
   exact ih.cons d (h e (by simp) hb d q hd hq)
  ·exact ih
theorem lk_none {L:Lst} {d:Nat} (h:(L.map (·.1)).all (fun t=>!Nat.beq t d)=true):lk L d=none:=by
 induction L with
 | nil=>rfl
 | cons x r ih=>
  simp only [List.map_cons,List.all_cons,Bool.and_eq_true,Bool.not_eq_true'] at h
  unfold lk
  rw [h.1];exact ih h.2
def newL (ops:Array Oper) (qs:List Pd):Nat→Lst→Lst
 | 0,L=>L
 | i+1,L=>match (ops[i]?).bind (·.dst),qs[i]? with
  | some d,some q=>(d,q)::newL ops qs i L
  | _,_=>newL ops qs i L
theorem newL_has {ops:Array Oper} {qs:List Pd} {M:Nat→Prop} {n:Nat} {s0:St} {a:Act} {s:St} {L:Lst} (hL:Has M n s0 a s L):
  ∀m,(∀i,i<m→∀d q,(ops[i]?).bind (·.dst)=some d→qs[i]?=some q→q.p s (a.eval (.tmp d)))→Has M n s0 a s (newL ops qs m L)
 | 0,_=>hL
 | m+1,h=>by
  have ih:=newL_has hL m (fun i hi=>h i (by omega))
  unfold newL
  split
  ·rename_i d q hd hq
   exact ih.cons d (h m (by omega) d q hd hq)
  ·exact ih
theorem rd_key {P:Program} {ops:Array Oper} {Q:Exit→Act→World→Prop} {M:Nat→Prop} {n:Nat} {s0:St} {s:St} {L:Lst} (m:Nat) (qs:List Pd) (F:List Nat)
  (hok:zdo ops m n (L.map (·.1)) F=true) (hq:qs.length=m) (hm:m≤ops.size)
  (hT:∀i o q,i<m→ops[i]?=some o→qs[i]?=some q→F.contains i=false→T P ops o (depL ops qs o.after.toList L) q)
  (hB:∀a' s',Ex s s'→Has M n s0 a' s' (newL ops qs m L)→wpOps P ops Q (List.range' m (ops.size-m)) a' s'.w):
  ∀(f:Nat) (listed:Array Bool) (a:Act) (s':St),listed.size=ops.size→((List.range ops.size).filter (fun i=>!listed.getD i true)).length=f→Ex s s'→Has M n s0 a s' L →
   (∀i o,listed.getD i false=true→ops[i]?=some o→∀e∈o.after.toList,Region.binds .any e=true→listed.getD e.on false=true)→(∀i,i<ops.size→m≤i→listed.getD i true=false) →
   (∀i,i<m→listed.getD i true=true→∀d q,(ops[i]?).bind (·.dst)=some d→qs[i]?=some q→q.p s' (a.eval (.tmp d)))→(∀i∈F,listed.getD i true=true)→wpAny P .any ops Q f listed a s'.w:=by
 have hok':=hok
 unfold zdo at hok'
 rw [Bool.and_eq_true] at hok'
 obtain ⟨hF,hok'⟩:=hok'
 rw [List.all_eq_true] at hok'
 intro f
 induction f with
 | zero=>
  intro listed a s' hs hc e hL' hcl hn hd hl0
  have hall:∀i,i<ops.size→listed.getD i true=true:=by
   intro i hi
   have:(List.range ops.size).filter (fun i=>!listed.getD i true)=[]:=List.length_eq_zero_iff.1 hc
   rw [List.filter_eq_nil_iff] at this
   have:=this i (by simpa using hi)
   simpa using this
  have hmm:m=ops.size:=by
   rcases Nat.lt_or_ge m ops.size with h | h
   ·have:=hn m h (Nat.le_refl _);rw [hall m h] at this;cases this
   ·omega
  refine wpAny_tail hok 0 ops.size listed a s'.w (by omega) (by omega) hs (fun i hi=>by rw [hall i hi];simp [hi]) ?_
  have:=hB a s' e (newL_has hL' m fun i hi=>hd i hi (hall i (by omega)))
  rw [hmm] at this;simpa using this
 | succ f ih=>
  intro listed a s' hs hc e hL' hcl hn hd hl0
  by_cases hdone:∀i,i<m→listed.getD i true=true
  ·-- the tail
   have hf:f+1=ops.size-m:=by
    rw [← hc]
    have h1:(List.range ops.size).filter (fun i=>!listed.getD i true)=List.range' m (ops.size-m):=by
     have e1:List.range ops.size=List.range' 0 m++List.range' m (ops.size-m):=by
      rw [List.range_eq_range',show ops.size=m+(ops.size-m) by omega,← List.range'_append_1]
      simp
     rw [e1,List.filter_append]
     have e2:(List.range' 0 m).filter (fun i=>!listed.getD i true)=[]:=by
      rw [List.filter_eq_nil_iff];intro i hi;simp at hi;simp [hdone i hi]
     have e3:(List.range' m (ops.size-m)).filter (fun i=>!listed.getD i true)=List.range' m (ops.size-m):=by
      rw [List.filter_eq_self];intro i hi;simp at hi;simp [hn i (by omega) (by omega)]
     rw [e2,e3,List.nil_append]
    rw [h1];simp
   refine wpAny_tail hok (f+1) m listed a s'.w (by omega) (Nat.le_refl _) hs (fun i hi=>?_) ?_
   ·by_cases h:i<m
    ·simp [h,hdone i h]
    ·simp [h,hn i hi (by omega)]
   ·rw [hf];exact hB a s' e (newL_has hL' m fun i hi=>hd i hi (hdone i hi))
  ·have hex:∃i,i<m∧listed.getD i true=false:=by
    have h1:=Classical.not_forall.1 hdone
    obtain ⟨i,hi⟩:=h1
    rw [Classical.not_imp] at hi
    exact ⟨i,hi.1,by simpa using hi.2⟩
   have hlow:∀i,i∈Region.ready .any ops listed→i<m:=by
    intro i hi
    obtain ⟨h1,h2,o,ho,h3⟩:=zcu.1 hi
    rcases Nat.lt_or_ge i m with h | h
    ·exact h
    ·exfalso
     obtain ⟨k,hk,hkl⟩:=hex
     have h5:=hok' i (by simpa using h1)
     simp only [ho,Bool.and_eq_true] at h5
     have h6:=h5.2
     rw [if_neg (by omega),List.all_eq_true] at h6
     have h7:=h6 k (by simp;omega)
     have hkF:F.contains k=false:=by
      cases hc':F.contains k
      ·rfl
      ·have:=hl0 k (by simpa using hc');rw [this] at hkl;cases hkl
     rw [hkF,Bool.false_or] at h7
     have h8:=zdb (ops:=ops) (p:=fun j=>listed.getD j false=true) hcl _ i k h7 (fun o' ho'=>by rw [ho] at ho';cases ho';exact h3)
     have h10:listed.getD k false=listed.getD k true:=by simp [Array.getD,hs,show k<ops.size by omega]
     rw [h10,hkl] at h8
     cases h8
   refine ⟨fun hnil=>?_,fun i hi=>?_⟩
   ·-- the least that isn't done is ready
    exfalso
    obtain ⟨k,hk,hmin⟩:=exists_least (p:=fun i=>i<m∧listed.getD i true=false) hex
    obtain ⟨o,ho⟩:∃o,ops[k]?=some o:=⟨ops[k]'(by omega),by simp⟩
    have:k∈Region.ready .any ops listed:=by
     refine zcu.2 ⟨by omega,hk.2,o,ho,fun e he hb=>?_⟩
     have h5:=hok' k (by simp;omega)
     simp only [ho,Bool.and_eq_true] at h5
     have h1:=List.all_eq_true.1 h5.1 e he
     simp only [hb,Bool.not_true,Bool.false_or] at h1
     have h2:e.on<k:=Nat.le_of_ble_eq_true h1
     have h4:listed.getD e.on false=listed.getD e.on true:=by simp [Array.getD,hs,show e.on<ops.size by omega]
     rw [h4]
     by_cases h6:listed.getD e.on true=true
     ·exact h6
     ·have:=hmin e.on ⟨by omega,by simpa using h6⟩;omega
    rw [hnil] at this;simp at this
   ·have him:=hlow i hi
    obtain ⟨h1,h2,o,ho,h3⟩:=zcu.1 hi
    obtain ⟨q,hqi⟩:∃q,qs[i]?=some q:=⟨qs[i]'(by omega),by simp⟩
    have h5:=hok' i (by simpa using h1)
    have hiF:F.contains i=false:=by
     cases hc':F.contains i
     ·rfl
     ·have:=hl0 i (by simpa using hc');rw [this] at h2;cases h2
    simp only [ho,Bool.and_eq_true,if_pos him,hiF,Bool.false_or] at h5
    obtain ⟨d,hdst⟩:∃d,o.dst=some d:=by
     cases hd':o.dst with
     | none=>rw [hd'] at h5;simp at h5
     | some d=>exact ⟨d,rfl⟩
    have h6:=h5.2
    rw [hdst] at h6
    simp only [Bool.and_eq_true] at h6
    have hdep:Has M n s0 a s' (depL ops qs o.after.toList L):=by
     refine depL_has hL' _ fun e' he' hb d' q' hd' hq'=>?_
     have h7:=h3 e' he' hb
     have h8:=List.all_eq_true.1 h5.1 e' he'
     simp only [hb,Bool.not_true,Bool.false_or] at h8
     have h9:e'.on<i:=Nat.le_of_ble_eq_true h8
     have h10:listed.getD e'.on false=listed.getD e'.on true:=by simp [Array.getD,hs,show e'.on<ops.size by omega]
     exact hd e'.on (by omega) (h10 ▸ h7) d' q' hd' hq'
    have hrun:=hT i o q him ho hqi hiF M n s0 a s' hdep Q (wpAny P .any ops Q f (listed.setIfInBounds i true)) ?_
    ·unfold wpOp
     simp only [ho]
     by_cases hw:Region.wanted o (yielded ops a.tmps)=true
     ·rw [if_pos hw] at hrun ⊢;exact .inl hrun
     ·rw [if_neg hw] at hrun ⊢;exact hrun
    ·rintro v s'' ⟨e',hq'⟩
     have hfresh:lk L d=none:=lk_none h6.1.2
     refine ih _ _ s'' (by simpa using hs) ?_ (e.trans e') ?_ ?_ ?_ ?_ ?_
     ·-- one fewer
      have hnd:((List.range ops.size).filter (fun j=>!listed.getD j true)).Nodup:=List.Nodup.sublist List.filter_sublist List.nodup_range
      have hmem:i∈(List.range ops.size).filter (fun j=>!listed.getD j true):=List.mem_filter.2 ⟨by simpa using h1,by rw [h2];rfl⟩
      have e1:(List.range ops.size).filter (fun j=>!(listed.setIfInBounds i true).getD j true)=((List.range ops.size).filter (fun j=>!listed.getD j true)).filter (fun j=>j != i):=by
       rw [List.filter_filter]
       refine List.filter_congr fun j hj=>?_
       rw [zcr (by omega)]
       by_cases hji:j=i <;> simp [hji]
      rw [e1,← List.Nodup.erase_eq_filter hnd,List.length_erase_of_mem hmem,hc];rfl
     ·have hp:=hL'.put e' (d:=d) h6.1.1 hq'
      rw [hdst]
      refine hp.sub fun t q'' hl=>hp.at_ t q'' ?_
      unfold lk
      have:d≠t:=fun he=>by rw [he] at hfresh;rw [hfresh] at hl;cases hl
      rw [beq_no this];exact hl
     ·intro j o' hj ho' e2 he2 hb2
      rw [zcr (by omega)] at hj ⊢
      split
      ·rfl
      ·by_cases hji:j=i
       ·subst hji;rw [ho] at ho';cases ho';exact h3 e2 he2 hb2
       ·rw [if_neg hji] at hj;exact hcl j o' hj ho' e2 he2 hb2
     ·intro j hj hmj
      rw [zcr (by omega),if_neg (by omega)];exact hn j hj hmj
     ·intro j hj hlj d' q'' hd' hq''
      rw [hdst]
      by_cases hji:j=i
      ·subst hji
       rw [ho,Option.bind_some,hdst] at hd'
       cases hd'
       rw [hqi] at hq'';cases hq''
       rw [zds hL'.size h6.1.1];exact hq'
      ·rw [zcr (by omega),if_neg hji] at hlj
       have h7:=List.all_eq_true.1 h6.2 j (by simpa using hj)
       have h8:Nat.beq j i=false:=beq_no hji
       rw [h8,Bool.false_or,hd'] at h7
       have:d≠d':=fun he=>by simp [he] at h7
       rw [eval_put_ne this]
       exact Pd.ex e' (hd j hj hlj d' q'' hd' hq'')
     ·intro j hj
      rw [zcr (by omega)]
      split
      ·rfl
      ·exact hl0 j hj
theorem rd {P:Program} {id:Nat} {ops:Array Oper} {Q:Exit→Act→World→Prop} {M:Nat→Prop} {n:Nat} {s0:St} {a:Act} {s:St} {L:Lst} (hf:P.follows .mixedOrders=true) (m:Nat) (qs:List Pd)
  (hL:Has M n s0 a s L) (hok:zdo ops m n (L.map (·.1)) []=true) (hq:qs.length=m) (hm:m≤ops.size)
  (hT:∀i o q,i<m→ops[i]?=some o→qs[i]?=some q→T P ops o (depL ops qs o.after.toList L) q)
  (hB:∀a' s',Ex s s'→Has M n s0 a' s' (newL ops qs m L)→wpOps P ops Q (List.range' m (ops.size-m)) a' s'.w):(Code.region id ops true).wp P Q a s.w:=by
 refine wp_region_any hf ?_
 have:=rd_key m qs [] hok hq hm (fun i o q h1 h2 h3 _=>hT i o q h1 h2 h3) hB ops.size (Array.replicate ops.size false) a ⟨{ s.w with drawn:=s.w.drawn+1 },s.X,s.lt⟩ (by simp) ?_ ⟨⟨DR.succ rfl,rfl,rfl,rfl,Nat.le_refl _,fun _ _ _=>rfl,fun _ h=>h.elim,fun _ h=>.inl h⟩,fun _ h=>h⟩ ?_ ?_ ?_ ?_ (fun i h=>by cases h)
 ·exact this
 ·rw [List.filter_eq_self.2]
  ·simp
  ·intro i hi;simp at hi;simp [hi]
 ·exact hL.ex ⟨⟨DR.succ rfl,rfl,rfl,rfl,Nat.le_refl _,fun _ _ _=>rfl,fun _ h=>h.elim,fun _ h=>.inl h⟩,fun _ h=>h⟩
 ·intro i o h;simp [Array.getD] at h
 ·intro i hi _;simp [hi]
 ·intro i hi h;simp [show i<ops.size by omega] at h
end Go.Proofs.YtahgmdbioafmbaaGreatDoor.VD
namespace Go.Proofs.YtahgmdbioafmbaaGreatDoor.VD
open Go
set_option linter.unusedVariables false
def foot (s:St):Nat→Prop:=fun b=>b<s.w.heap.size∧¬ s.X b
def Same (S:Nat→Prop) (w w':World):Prop:=∀b,S b→w'.heap[b]?=w.heap[b]?
structure En (α:Type) where
 sz:Nat
 agg:Bool
 R:World→(Nat→Prop)→List Value→α→Prop
 sc:agg=false→sz=1
 pos:0<sz
 len:∀{w S cs x},R w S cs x→cs.length=sz
 one:∀{w S cs x},R w S cs x→∀u∈cs,u.oneCell'=true
 mono:∀{w S S' cs x},(∀b,S b→S' b)→R w S cs x→R w S' cs x
 move:∀{w w' S cs x},Same S w w'→R w S cs x→R w' S cs x
def En.val {α:Type} (E:En α) (cs:List Value):Value:=bif E.agg then .agg cs.toArray else cs.headD undef
theorem En.val_cells {α:Type} {E:En α} {w S cs x} (h:E.R w S cs x):(E.val cs).cells=cs.toArray:=by
 unfold En.val
 cases ha:E.agg
 ·have hl:=E.len h
  rw [E.sc ha] at hl
  match cs,hl with
  | [u],_=>
   have h1:=E.one h u (by simp)
   simp only [cond_false,List.headD_cons]
   cases u <;> first | rfl | simp [Value.oneCell'] at h1
 ·rfl
theorem En.go {α:Type} (E:En α) {T:Nat→Prop} {s s':St} {cs:List Value} {x:α} (h:Mv T s s') (hR:E.R s.w (foot s) cs x):E.R s'.w (foot s') cs x:=
 E.mono (fun b hb=>⟨Nat.lt_of_lt_of_le hb.1 h.size,fun hx=>(h.xx b hx).elim hb.2 (fun hk=>by have:=hb.1;omega)⟩)
  (E.move (fun b hb=>h.blk b hb.1 (fun ht=>hb.2 (h.tx b ht))) hR)
def Pd.rep {α:Type} (E:En α) (x:α):Pd:=
 ⟨fun s v=>∃cs,v=E.val cs∧E.R s.w (foot s) cs x,fun _=>False,fun h _ ⟨cs,hv,hR⟩=>⟨cs,hv,E.go h hR⟩⟩
def zck (w:World) (b o:Nat) (cs:List Value):Prop:=∀j u,cs[j]?=some u→w.cell? ⟨b,o+j,none⟩=some u
theorem zck.same {w w':World} {b o:Nat} {cs:List Value} (h:zck w b o cs) (hb:w'.heap[b]?=w.heap[b]?):zck w' b o cs:=
 fun j u hu=>by rw [World.cell?_of_block (w:=w) hb];exact h j u hu
theorem zdv (b o j:Nat):(⟨b,o,none⟩:Addr).add j=⟨b,o+j,none⟩:=by unfold Addr.add;split <;> simp_all
def Pd.ptr {α:Type} (E:En α) (x:α):Pd:=
 ⟨fun s v=>∃b o cs,v = .pointer (some ⟨b,o,none⟩)∧foot s b∧zck s.w b o cs∧E.R s.w (foot s) cs x,fun _=>False,
  fun {T s s' v} h _ ⟨b,o,cs,hv,hb,hc,hR⟩=>⟨b,o,cs,hv,
   ⟨Nat.lt_of_lt_of_le hb.1 h.size,fun hx=>(h.xx b hx).elim hb.2 (fun hk=>by have:=hb.1;omega)⟩,
   hc.same (h.blk b hb.1 (fun ht=>hb.2 (h.tx b ht))),E.go h hR⟩⟩
def Pd.optr {α:Type} (E:En α) (N:Nat) (og:Option Nat) (o:Nat) (x:α):Pd:=
 ⟨fun s v=>∃g,og=some g∧v = .pointer (some ⟨g,o,none⟩)∧N≤g∧g<s.w.heap.size∧s.X g∧∃cs,zck s.w g o cs∧E.R s.w (foot s) cs x,fun b=>og=some b,
  fun {T s s' v} h hb ⟨g,ho,hv,hN,hg,hx,cs,hc,hR⟩=>⟨g,ho,hv,hN,Nat.lt_of_lt_of_le hg h.size,(hb g ho).2 hx,cs,hc.same (h.blk g hg (hb g ho).1),E.go h hR⟩⟩
def Pd.box {α:Type} (E:En α) (N g:Nat) (x:α):Pd:=
 ⟨fun s v=>v = .pointer (some ⟨g,0,none⟩)∧N≤g∧s.X g∧∃cs t,s.w.heap[g]?=some (.cells cs.toArray t (0,0))∧E.R s.w (foot s) cs x,fun b=>b=g,
  fun {T s s' v} h hb ⟨hv,hN,hx,cs,t,hc,hR⟩=>⟨hv,hN,(hb g rfl).2 hx,cs,t,by
   rw [h.blk g (Array.getElem?_eq_some_iff.1 hc).1 (hb g rfl).1];exact hc,E.go h hR⟩⟩
def InR (k:IntKind) (x:Int):Prop:=k.min≤x∧x≤k.max
instance (k : IntKind) (x : Int) : Decidable (InR k x):=by unfold InR; infer_instance
def En.int (k:IntKind):En Int where
 sz:=1
 agg:=false
 R:=fun _ _ cs x=>cs=[.int k x]∧InR k x
 sc:=fun _=>rfl
 pos:=Nat.one_pos
 len:=by rintro _ _ _ _ ⟨rfl,_⟩;rfl
 one:=by rintro _ _ _ _ ⟨rfl,_⟩ u hu;simp at hu;subst hu;rfl
 mono:=fun _ h=>h
 move:=fun _ h=>h
def En.bool:En Bool where
 sz:=1
 agg:=false
 R:=fun _ _ cs x=>cs=[.bool x]
 sc:=fun _=>rfl
 pos:=Nat.one_pos
 len:=by rintro _ _ _ _ rfl;rfl
 one:=by rintro _ _ _ _ rfl u hu;simp at hu;subst hu;rfl
 mono:=fun _ h=>h
 move:=fun _ h=>h
theorem zz {k:IntKind} {x:Int} {s:St} {v:Value}:(Pd.rep (En.int k) x).p s v↔v = .int k x∧InR k x:=
 ⟨fun ⟨_,hv,hc,hr⟩=>by subst hc;exact ⟨hv,hr⟩,fun ⟨hv,hr⟩=>⟨[.int k x],hv,rfl,hr⟩⟩
theorem zbv {x:Bool} {s:St} {v:Value}:(Pd.rep En.bool x).p s v↔v = .bool x:=
 ⟨fun ⟨_,hv,hc⟩=>by cases hc;exact hv,fun hv=>⟨[.bool x],hv,rfl⟩⟩
def Opn (L:Lst) (x:Operand) (q:Pd):Prop:=∀M n s0 a s,Has M n s0 a s L→q.p s (a.eval x)
theorem o_t {L:Lst} (t:Nat) {q:Pd} (h:lk L t=some q):Opn L (.tmp t) q:=fun _ _ _ _ _ hL=>hL.get t h
theorem o_c {L:Lst} {v:Value} {q:Pd} (h:∀s,q.p s v):Opn L (.const v) q:=fun _ _ _ _ s _=>h s
theorem o_i {L:Lst} {k:IntKind} {x:Int} (h:InR k x):Opn L (.const (.int k x)) (Pd.rep (En.int k) x):=o_c fun _=>zz.2 ⟨rfl,h⟩
theorem o_b {L:Lst} {x:Bool}:Opn L (.const (.bool x)) (Pd.rep En.bool x):=o_c fun _=>zbv.2 rfl
section
variable {P : Program} {ops : Array Oper} {o : Oper} {L : Lst}
theorem T.mk {q:Pd} (hg:o.guard=none) (h:∀M n s0 a s,Has M n s0 a s L→∃v s',(execOp a.eval o).run P s.w = .ok (.value v) s'.w∧Ex s s'∧q.p s' v):T P ops o L q:=
 fun M n s0 a s hL=>by
  obtain ⟨v,s',h1,h2,h3⟩:=h M n s0 a s hL
  exact OpR.of_run hg h1 ⟨h2,h3⟩
theorem T.pure {q:Pd} (hg:o.guard=none) (h:∀M n s0 a s,Has M n s0 a s L→∃v,(execOp a.eval o).run P s.w = .ok (.value v) s.w∧q.p s v):T P ops o L q:=
 T.mk hg fun M n s0 a s hL=>let ⟨v,h1,h2⟩:=h M n s0 a s hL;⟨v,s,h1,Ex.refl s,h2⟩
theorem zb {x:Operand} {q:Pd} (h:Opn L x q) (ho:o.op = .move x) (hg:o.guard=none):T P ops o L q:=
 T.pure hg fun M n s0 a s hL=>⟨a.eval x,by unfold execOp;rw [ho];rfl,h M n s0 a s hL⟩
theorem zd {x:Operand} {q:Pd} (h:Opn L x q) (ho:o.op = .assign x) (hg:o.guard=none):T P ops o L q:=
 T.pure hg fun M n s0 a s hL=>⟨a.eval x,by unfold execOp;rw [ho];rfl,h M n s0 a s hL⟩
theorem wrap_in {k:IntKind} {x:Int} (h:InR k x):k.wrap x=x:=by
 unfold InR at h
 cases k <;> simp [IntKind.min,IntKind.max,IntKind.signed,IntKind.bits] at h <;> simp [IntKind.wrap,IntKind.signed,IntKind.bits] <;> omega
theorem t_arith {k:IntKind} {x y:Operand} {a b:Int} (op:BinOp) (f:Int→Int→Int) (hf:∀a b,(Op.intArith op k a b:Sem Value)=Pure.pure (.int k (k.wrap (f a b)))) (hop:op = .add∨op = .sub∨op = .mul)
  (hx:Opn L x (Pd.rep (En.int k) a)) (hy:Opn L y (Pd.rep (En.int k) b)) (hr:InR k (f a b)) {t u:TypeId} (ho:o.op = .binOp op t x y u) (hg:o.guard=none):
  T P ops o L (Pd.rep (En.int k) (f a b)):=
 T.pure hg fun M n s0 ac s hL=>by
  have h1:=(zz.1 (hx M n s0 ac s hL)).1
  have h2:=(zz.1 (hy M n s0 ac s hL)).1
  refine ⟨.int k (f a b), ?_,zz.2 ⟨rfl,hr⟩⟩
  unfold execOp
  rw [ho]
  simp only [h1,h2]
  rcases hop with rfl | rfl | rfl <;> simp [eqGuard,binOp,hf,wrap_in hr]
theorem t_add {k:IntKind} {x y:Operand} {a b:Int} (hx:Opn L x (Pd.rep (En.int k) a)) (hy:Opn L y (Pd.rep (En.int k) b)) (hr:InR k (a+b)) {t u:TypeId} (ho:o.op = .binOp .add t x y u) (hg:o.guard=none):
  T P ops o L (Pd.rep (En.int k) (a+b)):=t_arith .add (· + ·) (fun _ _=>rfl) (.inl rfl) hx hy hr ho hg
theorem t_cmp {k:IntKind} {x y:Operand} {a b:Int} (op:BinOp) (f:Int→Int→Bool) (hf:(fun a b=>(Op.intCmp op a b:Sem Value))=fun a b=>Pure.pure (.bool (f a b)))
  (hop:op = .lss∨op = .leq∨op = .gtr∨op = .geq∨op = .eql∨op = .neq)
  (hx:Opn L x (Pd.rep (En.int k) a)) (hy:Opn L y (Pd.rep (En.int k) b)) {t u:TypeId} (ho:o.op = .binOp op t x y u) (hg:o.guard=none):
  T P ops o L (Pd.rep En.bool (f a b)):=
 T.pure hg fun M n s0 ac s hL=>by
  have h1:=(zz.1 (hx M n s0 ac s hL)).1
  have h2:=(zz.1 (hy M n s0 ac s hL)).1
  have hf':(Op.intCmp op a b:Sem Value)=Pure.pure (.bool (f a b)):=congrFun (congrFun hf a) b
  refine ⟨.bool (f a b), ?_,zbv.2 rfl⟩
  unfold execOp
  rw [ho]
  simp only [h1,h2]
  rcases hop with rfl | rfl | rfl | rfl | rfl | rfl <;> simp [eqGuard,binOp,hf']
theorem t_lss {k:IntKind} {x y:Operand} {a b:Int} (hx:Opn L x (Pd.rep (En.int k) a)) (hy:Opn L y (Pd.rep (En.int k) b)) {t u:TypeId} (ho:o.op = .binOp .lss t x y u) (hg:o.guard=none):
  T P ops o L (Pd.rep En.bool (decide (a<b))):=t_cmp .lss (fun a b=>decide (a<b)) rfl (.inl rfl) hx hy ho hg
theorem t_gtr {k:IntKind} {x y:Operand} {a b:Int} (hx:Opn L x (Pd.rep (En.int k) a)) (hy:Opn L y (Pd.rep (En.int k) b)) {t u:TypeId} (ho:o.op = .binOp .gtr t x y u) (hg:o.guard=none):
  T P ops o L (Pd.rep En.bool (decide (b<a))):=t_cmp .gtr (fun a b=>decide (b<a)) rfl (.inr (.inr (.inl rfl))) hx hy ho hg
theorem t_geq {k:IntKind} {x y:Operand} {a b:Int} (hx:Opn L x (Pd.rep (En.int k) a)) (hy:Opn L y (Pd.rep (En.int k) b)) {t u:TypeId} (ho:o.op = .binOp .geq t x y u) (hg:o.guard=none):
  T P ops o L (Pd.rep En.bool (decide (b≤a))):=t_cmp .geq (fun a b=>decide (b≤a)) rfl (.inr (.inr (.inr (.inl rfl)))) hx hy ho hg
theorem t_nei {k:IntKind} {x y:Operand} {a b:Int} (hx:Opn L x (Pd.rep (En.int k) a)) (hy:Opn L y (Pd.rep (En.int k) b)) {t u:TypeId} (ho:o.op = .binOp .neq t x y u) (hg:o.guard=none):
  T P ops o L (Pd.rep En.bool (a != b)):=t_cmp .neq (fun a b=>a != b) rfl (.inr (.inr (.inr (.inr (.inr rfl))))) hx hy ho hg
structure Ty {α:Type} (P:Program) (t:TypeId) (E:En α):Prop where
 info:∃i z,P.info? t=some i∧i.size=E.sz∧i.zero=some z∧z.cells.size=E.sz∧i.bytes≤65536
 agg:∃d,P.underlying t=some d∧(match d with | .struct _ | .array _ _=>true | _=>false)=E.agg
theorem run_isAgg {α:Type} {t:TypeId} {E:En α} (h:Ty P t E) (w:World):(isAgg t).run P w = .ok E.agg w:=by
 obtain ⟨d,hd,he⟩:=h.agg
 unfold isAgg
 simp only [Sem.run_bind,run_underlying hd,Result.andThen_ok]
 rw [← he]
 cases d <;> rfl
theorem zbi {α:Type} {t:TypeId} {E:En α} (h:Ty P t E) (w:World):(sizeOf t).run P w = .ok E.sz w:=by
 obtain ⟨i,z,hi,he,_⟩:=h.info
 simp [sizeOf,typeInfo,hi,he]
theorem zdn {α:Type} {t:TypeId} {E:En α} (h:Ty P t E) {w w':World} {S:Nat→Prop} {cs:List Value} {x:α} (hR:E.R w' S cs x) {b o:Nat} (hc:zck w b o cs):
  (loadVar t ⟨b,o,none⟩).run P w = .ok (E.val cs) w:=by
 unfold loadVar
 simp only [Sem.run_bind,run_isAgg h,Result.andThen_ok]
 have hl:=E.len hR
 cases ha:E.agg
 ·have h1:=E.sc ha
  rw [h1] at hl
  match cs,hl with
  | [u],_=>
   have:=hc 0 u rfl
   simp [En.val,ha,show w.cell? ⟨b,o,none⟩=some u from this]
 ·simp only [if_true,Sem.run_bind,zbi h,Result.andThen_ok]
  have:(loadCells ⟨b,o,none⟩ E.sz).run P w = .ok cs.toArray w:=by
   rw [← hl]
   exact run_loadCells_list w ⟨b,o,none⟩ cs (fun j v hv=>by rw [zdv];exact hc j v hv)
  simp [this,En.val,ha]
theorem zp {α:Type} {E:En α} {x:α} {y:Operand} {t:TypeId} (ht:Ty P t E) (hy:Opn L y (Pd.ptr E x)) (ho:o.op = .load t y) (hg:o.guard=none):T P ops o L (Pd.rep E x):=
 T.pure hg fun M n s0 ac s hL=>by
  obtain ⟨b,off,cs,hv,hb,hc,hR⟩:=hy M n s0 ac s hL
  refine ⟨E.val cs, ?_,cs,rfl,hR⟩
  unfold execOp;rw [ho];simp [hv,Instr.loadAt,Instr.sureAddr,zdn ht hR hc]
theorem zb8 {w:World} {g:Nat} {cs:List Value} {t:TypeId} {fr:Nat × Nat} (h:w.heap[g]?=some (.cells cs.toArray t fr)):zck w g 0 cs:=
 fun j u hu=>by rw [Nat.zero_add,cell_of_row w g j cs.toArray t fr h];simpa using hu
theorem zbg {α:Type} {E:En α} {x:α} {y:Operand} {t:TypeId} {N g:Nat} (ht:Ty P t E) (hy:Opn L y (Pd.box E N g x)) (ho:o.op = .load t y) (hg:o.guard=none):T P ops o L (Pd.rep E x):=
 T.pure hg fun M n s0 ac s hL=>by
  obtain ⟨hv,_,_,cs,t',hc,hR⟩:=hy M n s0 ac s hL
  refine ⟨E.val cs, ?_,cs,rfl,hR⟩
  unfold execOp;rw [ho];simp [hv,Instr.loadAt,Instr.sureAddr,zdn ht hR (zb8 hc)]
def St.push (s:St) (ob:Obj):St:=⟨s.w.alloc ob,s.X,fun b hb=>Nat.lt_of_lt_of_le (s.lt b hb) (by simp)⟩
theorem Ex.push (s:St) (ob:Obj):Ex s (s.push ob):=
 ⟨⟨DR.eq rfl,rfl,rfl,rfl,by simp [St.push],fun b hb _=>Go.RowKit.Below.heap_alloc s.w ob b hb,fun _ h=>h.elim,fun _ h=>.inl h⟩,fun _ h=>h⟩
end
end Go.Proofs.YtahgmdbioafmbaaGreatDoor.VD
namespace Go.Proofs.YtahgmdbioafmbaaGreatDoor.VD
open Go
set_option linter.unusedVariables false
def at? {α:Type} (xs:List α) (i:Int):Option α:=if 0≤i then xs[i.toNat]? else none
def Els {α:Type} (E:En α) (w:World) (S:Nat→Prop) (css:List (List Value)) (xs:List α):Prop:=
 css.length=xs.length∧∀(i:Nat) (cs:List Value) (x:α),css[i]?=some cs→xs[i]?=some x→E.R w S cs x
theorem Els.lens {α:Type} {E:En α} {w S css} {xs:List α} (h:Els E w S css xs):∀cs∈css,cs.length=E.sz:=by
 intro cs hcs
 obtain ⟨i,hi⟩:=List.getElem?_of_mem hcs
 have hlt:i<css.length:=(List.getElem?_eq_some_iff.1 hi).1
 have hx:xs[i]?=some (xs[i]'(h.1 ▸ hlt)):=by simp
 exact E.len (h.2 i cs _ hi hx)
theorem flat_get {css:List (List Value)} {n:Nat} (h:∀cs∈css,cs.length=n):∀{i:Nat} {cs:List Value} {j:Nat} {u:Value},css[i]?=some cs→cs[j]?=some u→css.flatten[i*n+j]?=some u:=by
 induction css with
 | nil=>intro i cs j u hi;simp at hi
 | cons c r ih=>
  intro i cs j u hi hj
  have hc:c.length=n:=h c (by simp)
  cases i with
  | zero=>
   simp at hi;subst hi
   rw [List.flatten_cons,Nat.zero_mul,Nat.zero_add,List.getElem?_append_left (List.getElem?_eq_some_iff.1 hj).1];exact hj
  | succ i=>
   simp at hi
   rw [List.flatten_cons,List.getElem?_append_right (by rw [hc,Nat.succ_mul];omega)]
   rw [show (i+1)*n+j-c.length=i*n+j by rw [hc,Nat.succ_mul];omega]
   exact ih (fun x hx=>h x (by simp [hx])) hi hj
def lim:Nat:=9223372036854775807
def SlV {α:Type} (E:En α) (w:World) (S:Nat→Prop) (v:Value) (xs:List α):Prop:=
 ∃ad cap,v = .slice ad xs.length cap∧xs.length≤cap∧(ad=none→cap=0)∧xs.length≤lim ∧
  (xs≠[]→∃b off css,ad=some ⟨b,off,none⟩∧S b∧Els E w S css xs∧zck w b off css.flatten)
def En.slice {α:Type} (E:En α):En (List α) where
 sz:=1
 agg:=false
 R:=fun w S cs xs=>∃v,cs=[v]∧SlV E w S v xs
 sc:=fun _=>rfl
 pos:=Nat.one_pos
 len:=by rintro _ _ _ _ ⟨v,rfl,_⟩;rfl
 one:=by rintro _ _ _ _ ⟨v,rfl,ad,cap,rfl,_⟩ u hu;simp at hu;subst hu;rfl
 mono:=by
  rintro w S S' cs xs h ⟨v,rfl,ad,cap,hv,h1,h2,h3,h4⟩
  refine ⟨v,rfl,ad,cap,hv,h1,h2,h3,fun hne=>?_⟩
  obtain ⟨b,off,css,e,hb,hE,hc⟩:=h4 hne
  exact ⟨b,off,css,e,h b hb,⟨hE.1,fun i cs x a b=>E.mono h (hE.2 i cs x a b)⟩,hc⟩
 move:=by
  rintro w w' S cs xs h ⟨v,rfl,ad,cap,hv,h1,h2,h3,h4⟩
  refine ⟨v,rfl,ad,cap,hv,h1,h2,h3,fun hne=>?_⟩
  obtain ⟨b,off,css,e,hb,hE,hc⟩:=h4 hne
  exact ⟨b,off,css,e,hb,⟨hE.1,fun i cs x a b=>E.move h (hE.2 i cs x a b)⟩,hc.same (h b hb)⟩
theorem zb4 {α:Type} {E:En α} {xs:List α} {s:St} {v:Value}:(Pd.rep (En.slice E) xs).p s v↔SlV E s.w (foot s) v xs:=
 ⟨fun ⟨_,hv,u,hc,h⟩=>by subst hc;subst hv;exact h,fun h=>⟨[v],rfl,v,rfl,h⟩⟩
section
variable {P : Program} {ops : Array Oper} {o : Oper} {L : Lst}
theorem t_len {α:Type} {E:En α} {xs:List α} {y:Operand} {t te:TypeId} (hy:Opn L y (Pd.rep (En.slice E) xs)) (ht:P.underlying t=some (.slice te)) (ho:o.op = .call { callee:=.builtin .len,args:=#[y],argTypes:=#[t] }) (hg:o.guard=none):
  T P ops o L (Pd.rep (En.int .i64) xs.length):=
 T.pure hg fun M n s0 ac s hL=>by
  obtain ⟨ad,cap,hv,h1,h2,h3,h4⟩:=zb4.1 (hy M n s0 ac s hL)
  refine ⟨.int .i64 xs.length, ?_,zz.2 ⟨rfl, ?_⟩⟩
  ·unfold execOp;rw [ho];simp [resolve,invoke,builtin,hv,Builtin.len_,run_underlying ht,goInt]
  ·simp only [lim] at h3;simp [InR,IntKind.min,IntKind.max,IntKind.signed,IntKind.bits];omega
theorem t_idx {α:Type} {E:En α} {xs:List α} {e:α} {k:IntKind} {i:Int} {x y:Operand} {t te:TypeId} (hx:Opn L x (Pd.rep (En.slice E) xs)) (hy:Opn L y (Pd.rep (En.int k) i)) (he:at? xs i=some e)
  (ht:P.underlying t=some (.slice te)) (hE:Ty P te E) (ho:o.op = .indexAddr t x y) (hg:o.guard=none):T P ops o L (Pd.ptr E e):=
 T.pure hg fun M n s0 ac s hL=>by
  obtain ⟨ad,cap,hv,h1,h2,h3,h4⟩:=zb4.1 (hx M n s0 ac s hL)
  have hi:=(zz.1 (hy M n s0 ac s hL)).1
  unfold at? at he
  split at he
  case isFalse=>cases he
  rename_i h0
  have hlt:i.toNat<xs.length:=(List.getElem?_eq_some_iff.1 he).1
  obtain ⟨b,off,css,e1,hb,hEl,hc⟩:=h4 (by intro h;simp [h] at hlt)
  obtain ⟨cs,hcs⟩:∃cs,css[i.toNat]?=some cs:=⟨css[i.toNat]'(by rw [hEl.1];exact hlt),by simp⟩
  refine ⟨.pointer (some ⟨b,off+i.toNat*E.sz,none⟩), ?_,b,off+i.toNat*E.sz,cs,rfl,hb, ?_,hEl.2 _ _ _ hcs he⟩
  ·unfold execOp;rw [ho]
   simp only [hv,hi,Instr.indexAt,asIntOf,Sem.run_bind,Sem.run_pure,Result.andThen_ok,run_underlying ht,e1]
   rw [if_pos (by omega)]
   simp [zbi hE,zdv]
  ·intro j u hu
   rw [Nat.add_assoc];exact hc _ u (flat_get hEl.lens hcs hu)
theorem En.psh {α:Type} (E:En α) {s:St} {ob:Obj} {cs:List Value} {x:α} (h:E.R s.w (foot s) cs x):E.R (s.push ob).w (foot (s.push ob)) cs x:=E.go (Ex.push s ob).mv h
theorem cellsAt_new (s:St) (cs:List Value) (t:TypeId):zck (s.push (.cells cs.toArray t)).w s.w.heap.size 0 cs:=
 zb8 (w:=(s.push (.cells cs.toArray t)).w) (t:=t) (fr:=(0,0)) (heap_alloc_new s.w _)
theorem t_box {α:Type} {E:En α} {x:α} {y:Operand} {t:TypeId} (hy:Opn L y (Pd.rep E x)) (ho:o.op = .box t y) (hg:o.guard=none):T P ops o L (Pd.ptr E x):=
 T.mk hg fun M n s0 ac s hL=>by
  obtain ⟨cs,hv,hR⟩:=hy M n s0 ac s hL
  refine ⟨.pointer (some ⟨s.w.heap.size,0,none⟩),s.push (.cells cs.toArray t), ?_,Ex.push s _,s.w.heap.size,0,cs,rfl,⟨by simp [St.push],fun h=>by have:=s.lt _ h;omega⟩,cellsAt_new s cs t,E.psh hR⟩
  unfold execOp;rw [ho]
  simp only [hv,Instr.box,newVar,newRow,En.val_cells hR,Sem.run_bind,run_newObj,Result.andThen_ok,Sem.run_pure]
  rfl
end
end Go.Proofs.YtahgmdbioafmbaaGreatDoor.VD
namespace Go.Proofs.YtahgmdbioafmbaaGreatDoor.VD
open Go
set_option linter.unusedVariables false
structure Ef (T:Nat→Prop) (s s':St):Prop where
 mv:Mv T s s'
 keep:∀b,s.X b→¬ T b→s'.X b
theorem Ef.ex {M T:Nat→Prop} {s0 s s':St} (h:Fr M s0 s) (e:Ef T s s') (hT:∀b,T b→s0.w.heap.size≤b):Fr M s0 s':=
 ⟨⟨h.mv.dr.trans e.mv.dr,e.mv.os.trans h.mv.os,e.mv.tape.trans h.mv.tape,e.mv.output.trans h.mv.output,Nat.le_trans h.mv.size e.mv.size,
  fun b hb hn=>(e.mv.blk b (Nat.lt_of_lt_of_le hb h.mv.size) (fun ht=>by have:=hT b ht;omega)).trans (h.mv.blk b hb hn),h.mv.tx,
  fun b hb=>(e.mv.xx b hb).elim (fun j=>h.mv.xx b j) (fun j=>.inr (Nat.le_trans h.mv.size j))⟩,
  fun b hb=>e.keep b (h.keep b hb) (fun ht=>by have:=hT b ht;have:=s0.lt b hb;omega)⟩
inductive Kp (T:Nat→Prop) (L:Lst):Lst→Prop
 | nil:Kp T L []
 | cons {t:Nat} {q:Pd} {r:Lst} (hl:lk L t=some q) (hq:∀b,q.own b→¬ T b) (hr:Kp T L r):Kp T L ((t,q)::r)
theorem Kp.get {T:Nat→Prop} {L L':Lst} (h:Kp T L L'):∀t q,lk L' t=some q→lk L t=some q∧∀b,q.own b→¬ T b:=by
 induction h with
 | nil=>intro t q h;cases h
 | cons hl hq _ ih=>
  rename_i d q' r _
  intro t q h
  unfold lk at h
  by_cases ht:d=t
  ·subst ht;simp at h;subst h;exact ⟨hl,hq⟩
  ·rw [beq_no ht] at h;exact ih t q h
theorem Has.ef {M:Nat→Prop} {n:Nat} {s0:St} {a:Act} {s s':St} {L L':Lst} {T:Nat→Prop} (h:Has M n s0 a s L) (e:Ef T s s') (hT:∀b,T b→s0.w.heap.size≤b) (hk:Kp T L L'):Has M n s0 a s' L' where
 size:=h.size
 defers:=h.defers
 ent:=e.ex h.ent hT
 gl:=h.gl
 at_:=fun t q hl=>let ⟨h1,h2⟩:=hk.get t q hl;q.mv e.mv (fun b hb=>⟨h2 b hb,fun hx=>e.keep b hx (h2 b hb)⟩) (h.at_ t q h1)
theorem Has.keep {M:Nat→Prop} {n:Nat} {s0:St} {a:Act} {s:St} {L L':Lst} (h:Has M n s0 a s L) (hk:Kp (fun _=>False) L L'):Has M n s0 a s L':=h.sub fun t q hl=>h.at_ t q (hk.get t q hl).1
section
variable {P : Program} {ops : Array Oper} {o : Oper} {L : Lst}
def spl (cells:List Value) (off:Nat) (cs:List Value):List Value:=cells.take off++cs++cells.drop (off+cs.length)
theorem spl_len {cells cs:List Value} {off:Nat} (h:off+cs.length≤cells.length):(spl cells off cs).length=cells.length:=by simp [spl];omega
theorem fill_step {place:Nat→Option (Nat × Nat)} {cells cs:List Value} {v:Value} {i off size:Nat} {rest:List (Nat × Value)} (hp:place i=some (off,size)) (hv:v.cells=cs.toArray) (hs:cs.length=size)
  (hl:off+size≤cells.length):Instr.fill place cells.toArray ((i,v)::rest)=Instr.fill place (spl cells off cs).toArray rest:=by
 conv=>lhs;unfold Instr.fill
 simp only [hp,hv]
 rw [if_neg (by simp [hs];omega)]
 congr 1
 apply Array.ext_getElem?
 intro j
 rw [← Array.foldl_toList,Array.toList_zipIdx]
 have key:∀(l:List Value) (k:Nat) (acc:Array Value),off+k+l.length≤acc.size→(List.foldl (fun cs (x:Value × Nat)=>match x with | (c,j)=>cs.setIfInBounds (off+j) c) acc (l.zipIdx k))[j]?=if off+k≤j∧j<off+k+l.length then l[j-(off+k)]? else acc[j]?:=by
  intro l
  induction l with
  | nil=>intro k acc _;simp;omega
  | cons u r ih=>
   intro k acc hk
   simp only [List.zipIdx_cons,List.foldl_cons]
   rw [ih (k+1) _ (by simp at hk ⊢;omega)]
   by_cases h1:off+(k+1)≤j∧j<off+(k+1)+r.length
   ·rw [if_pos h1,if_pos (by simp;omega),show j-(off+k)=(j-(off+(k+1)))+1 by omega];simp
   ·rw [if_neg h1]
    by_cases h2:j=off+k
    ·subst h2;rw [if_pos (by simp)];simp at hk;simp [show off+k<acc.size by omega]
    ·rw [if_neg (by simp;omega),Array.getElem?_setIfInBounds_ne (Ne.symm h2)]
 rw [key cs 0 cells.toArray (by simp;omega)]
 simp only [Nat.add_zero,spl,List.getElem?_toArray]
 by_cases h1:j<off
 ·rw [if_neg (by omega),List.append_assoc,List.getElem?_append_left (by simp;omega),List.getElem?_take,if_pos h1]
 ·by_cases h2:j<off+cs.length
  ·rw [if_pos (by omega),List.append_assoc,List.getElem?_append_right (by simp;omega),List.getElem?_append_left (by simp;omega)]
   congr 1;simp;omega
  ·rw [if_neg (by omega),List.getElem?_append_right (by simp;omega),List.getElem?_drop]
   congr 1;simp;omega
inductive OpL {α:Type} (E:En α) (L:Lst):List Operand→List α→Prop
 | nil:OpL E L [] []
 | cons {x:Operand} {e:α} {xs:List Operand} {es:List α}:Opn L x (Pd.rep E e)→OpL E L xs es→OpL E L (x::xs) (e::es)
theorem fill_row {α:Type} {E:En α} {M:Nat→Prop} {n:Nat} {s0:St} {ac:Act} {s:St} {L:Lst} (hL:Has M n s0 ac s L):∀{xs:List Operand} {es:List α},OpL E L xs es→∀(k:Nat) (pre:List Value) (cells:List Value),pre.length=k*E.sz→cells.length=(k+xs.length)*E.sz→cells.take (k*E.sz)=pre →
  ∃css,Els E s.w (foot s) css es∧Instr.fill (fun i=>some (i*E.sz,E.sz)) cells.toArray ((xs.zipIdx k).map fun (x,i)=>(i,ac.eval x))=some (pre++css.flatten).toArray:=by
 intro xs es h
 induction h with
 | nil=>
  intro k pre cells hp hc ht
  refine ⟨[],⟨rfl,by simp⟩, ?_⟩
  simp only [List.zipIdx_nil,List.map_nil,Instr.fill,List.flatten_nil,List.append_nil]
  rw [← ht,List.take_of_length_le (by simp at hc;omega)]
 | cons hx _ ih=>
  rename_i x e xs es _
  intro k pre cells hp hc ht
  obtain ⟨cs,hv,hR⟩:=hx M n s0 ac s hL
  have hlen:=E.len hR
  have hsz:k*E.sz+E.sz≤cells.length:=by rw [hc,← Nat.succ_mul];exact Nat.mul_le_mul_right _ (by simp)
  obtain ⟨css,hE,hf⟩:=ih (k+1) (pre++cs) (spl cells (k*E.sz) cs) (by simp [hp,hlen,Nat.succ_mul]) (by rw [spl_len (by omega),hc];congr 1;simp;omega) (by
   rw [spl,ht]
   rw [List.take_append_of_le_length (by simp [hp,hlen,Nat.succ_mul])]
   rw [List.take_of_length_le (by simp [hp,hlen,Nat.succ_mul])])
  refine ⟨cs::css,⟨by simp [hE.1], ?_⟩, ?_⟩
  ·intro i c y hi hy
   cases i with
   | zero=>simp at hi hy;subst hi;subst hy;exact hR
   | succ i=>simp at hi hy;exact hE.2 i c y hi hy
  ·simp only [List.zipIdx_cons,List.map_cons]
   rw [fill_step (cs:=cs) (off:=k*E.sz) (size:=E.sz) rfl (by rw [hv];exact En.val_cells hR) hlen hsz,hf]
   simp
theorem run_lit {α:Type} {E:En α} {t te:TypeId} {xs:List Operand} {es:List α} (hx:OpL E L xs es) (ht:P.underlying t=some (.slice te)) (hE:Ty P te E) {k:Nat} {parts:Array (Nat × Operand)} (hk:k=xs.length) (hp:parts=(xs.zipIdx.map fun (x,i)=>(i,x)).toArray)
  (hs:k*E.sz≤16777216) (ho:o.op = .buildSlice t k parts) {M:Nat→Prop} {n:Nat} {s0:St} {ac:Act} {s:St} (hL:Has M n s0 ac s L):es.length=xs.length∧∃css,Els E s.w (foot s) css es∧(execOp ac.eval o).run P s.w = .ok (.value (.slice (some ⟨s.w.heap.size,0,none⟩) es.length es.length)) (s.push (.cells css.flatten.toArray te)).w:=by
 obtain ⟨i,z,hi,he,hz,hzs,_⟩:=hE.info
 have hlen:es.length=xs.length:=by clear hp hk hs ho;induction hx with | nil=>rfl | cons _ _ ih=>simp [ih]
 have hall:∀zero:Array Value,∃css,Els E s.w (foot s) css es∧Instr.fill (fun i=>some (i*E.sz,E.sz)) ((Array.range (k*E.sz)).map (zero[· % zero.size]!)) (parts.map fun (i,x)=>(i,ac.eval x)).toList=some css.flatten.toArray:=by
  intro zero
  obtain ⟨css,hEl,hf⟩:=fill_row hL hx 0 [] ((Array.range (k*E.sz)).map (zero[· % zero.size]!)).toList (by simp) (by simp [hk]) (by simp)
  refine ⟨css,hEl, ?_⟩
  have e1:(parts.map fun (i,x)=>(i,ac.eval x)).toList=(xs.zipIdx 0).map fun (x,i)=>(i,ac.eval x):=by rw [hp];simp
  rw [e1]
  rw [Array.toArray_toList,List.nil_append] at hf;exact hf
 have hfin:∃css,Els E s.w (foot s) css es∧(execOp ac.eval o).run P s.w = .ok (.value (.slice (some ⟨s.w.heap.size,0,none⟩) es.length es.length)) (s.push (.cells css.flatten.toArray te)).w:=by
  by_cases h:k*E.sz=0
  ·obtain ⟨css,hEl,hf⟩:=hall #[]
   refine ⟨css,hEl, ?_⟩
   unfold execOp;rw [ho]
   simp only [Instr.buildSlice,Sem.run_bind,run_underlying ht,Result.andThen_ok,zbi hE]
   rw [if_neg (by omega),if_pos h]
   simp only [Sem.run_bind,Sem.run_pure,Result.andThen_ok]
   rw [hf]
   simp [newRow,St.push,hlen,hk]
  ·obtain ⟨css,hEl,hf⟩:=hall z.cells
   refine ⟨css,hEl, ?_⟩
   unfold execOp;rw [ho]
   simp only [Instr.buildSlice,Sem.run_bind,run_underlying ht,Result.andThen_ok,zbi hE]
   rw [if_neg (by omega),if_neg h]
   have hzr:(zeroValue te).run P s.w = .ok z s.w:=by simp [zeroValue,typeInfo,hi,hz]
   simp only [Sem.run_bind,hzr,Sem.run_pure,Result.andThen_ok]
   rw [hf]
   simp [newRow,St.push,hlen,hk]
 exact ⟨hlen,hfin⟩
theorem t_lit {α:Type} {E:En α} {t te:TypeId} {xs:List Operand} {es:List α} (hx:OpL E L xs es) (ht:P.underlying t=some (.slice te)) (hE:Ty P te E) {k:Nat} {parts:Array (Nat × Operand)} (hk:k=xs.length) (hp:parts=(xs.zipIdx.map fun (x,i)=>(i,x)).toArray)
  (hs:k*E.sz≤16777216) (ho:o.op = .buildSlice t k parts) (hg:o.guard=none):T P ops o L (Pd.rep (En.slice E) es):=
 T.mk hg fun M n s0 ac s hL=>by
  obtain ⟨hlen,css,hEl,hr⟩:=run_lit hx ht hE hk hp hs ho hL
  refine ⟨_,_,hr,Ex.push s _,zb4.2 ⟨some ⟨s.w.heap.size,0,none⟩,es.length,rfl,Nat.le_refl _,(fun h=>by cases h), ?_,fun _=>⟨s.w.heap.size,0,css,rfl,⟨by simp [St.push],fun h=>by have:=s.lt _ h;omega⟩,⟨hEl.1,fun i cs x a b=>E.psh (hEl.2 i cs x a b)⟩,cellsAt_new s _ te⟩⟩⟩
  rw [hlen,← hk]
  have:k≤k*E.sz:=Nat.le_mul_of_pos_right k E.pos
  simp only [lim];omega
end
end Go.Proofs.YtahgmdbioafmbaaGreatDoor.VD
namespace Go.Proofs.YtahgmdbioafmbaaGreatDoor.VD
open Go
set_option linter.unusedVariables false
def Vals (s:St):List Pd→List Value→Prop
 | [],[]=>True
 | q::qs,v::vs=>q.p s v∧Vals s qs vs
 | _,_=>False
structure Fn (P:Program) (f:FuncId) (qs:List Pd) (R:St→St→Value→Prop):Prop where
 call:∀(args:Array Value) (w:World),(callFunc f args).run P w = .ok (.enter f args) w
 run:∀s vs,Gl s→Vals s qs vs→Calls P f vs.toArray s.w fun e w'=>∃v s',e = .returned v∧s'.w=w'∧Ex s s'∧R s s' v
def Rq (q:Pd):St→St→Value→Prop:=fun _ s' v=>q.p s' v
inductive Opns (L:Lst):List Operand→List Pd→Prop
 | nil:Opns L [] []
 | cons {x:Operand} {q:Pd} {xs:List Operand} {qs:List Pd}:Opn L x q→Opns L xs qs→Opns L (x::xs) (q::qs)
theorem Opns.vals {L:Lst} {xs:List Operand} {qs:List Pd} (h:Opns L xs qs) {M:Nat→Prop} {n:Nat} {s0:St} {a:Act} {s:St} (hL:Has M n s0 a s L):Vals s qs (xs.map a.eval):=by
 induction h with
 | nil=>trivial
 | cons hx _ ih=>exact ⟨hx M n s0 a s hL,ih⟩
section
variable {P : Program} {ops : Array Oper} {o : Oper} {L : Lst}
theorem run_callop {f:FuncId} {xs:List Operand} {ats:Array TypeId} {qs R} (hf:Fn P f qs R) (a:Act) (w:World) (ho:o.op = .call { callee:=.value (.func f),args:=xs.toArray,argTypes:=ats }):
  (execOp a.eval o).run P w = .ok (.enter f (xs.map a.eval).toArray) w:=by
 have h:=hf.call (xs.map a.eval).toArray w
 have e:execOp a.eval o=callFunc f (#[]++(xs.toArray).map a.eval ++ #[]):=by unfold execOp;rw [ho];rfl
 rw [e]
 simpa using h
theorem zw {f:FuncId} {xs:List Operand} {qs:List Pd} {q:Pd} {ats:Array TypeId} (hf:Fn P f qs (Rq q)) (hx:Opns L xs qs) (ho:o.op = .call { callee:=.value (.func f),args:=xs.toArray,argTypes:=ats }) (hg:o.guard=none):
  T P ops o L q:=fun M n s0 a s hL Q k hk=>by
 simp only [Region.wanted,hg,if_true]
 unfold Oper.wp
 rw [run_callop hf a s.w ho,Oper.upon_enter]
 refine (hf.run s _ hL.gls (hx.vals hL)).mono fun e w' ⟨v,s',he,hw,hx,hq⟩=>?_
 subst he;subst hw
 exact hk v s' ⟨hx,hq⟩
end
def num:Nat→List Pd→Lst
 | _,[]=>[]
 | k,q::qs=>(k,q)::num (k+1) qs
def Pst (M:Nat→Prop) (R:St→St→Value→Prop) (s0:St):Ending→World→Prop:=fun e w'=>∃v s',e = .returned v∧s'.w=w'∧Fr M s0 s'∧R s0 s' v
theorem num_vals {s:St}:∀{qs:List Pd} {vs:List Value} (h:Vals s qs vs) (k t:Nat) (q:Pd),lk (num k qs) t=some q→∃v,k≤t∧vs[t-k]?=some v∧q.p s v
 | [],_,_,k,t,q,hl=>by cases hl
 | q'::qs,[],h,_,_,_,_=>h.elim
 | q'::qs,v::vs,h,k,t,q,hl=>by
  unfold num lk at hl
  by_cases ht:k=t
  ·subst ht;simp at hl;subst hl;exact ⟨v,Nat.le_refl _,by simp,h.1⟩
  ·rw [beq_no ht] at hl
   obtain ⟨u,h1,h2,h3⟩:=num_vals h.2 (k+1) t q hl
   refine ⟨u,by omega, ?_,h3⟩
   rw [show t-k=(t-(k+1))+1 by omega];simpa using h2
theorem vals_len {s:St}:∀{qs:List Pd} {vs:List Value},Vals s qs vs→vs.length=qs.length
 | [],[],_=>rfl
 | [],_::_,h=>h.elim
 | _::_,[],h=>h.elim
 | _::_,_::_,h=>by simp [vals_len h.2]
structure Fm (P:Program) (f:FuncId) (M:Nat→Prop) (qs:List Pd) (R:St→St→Value→Prop):Prop where
 call:∀(args:Array Value) (w:World),(callFunc f args).run P w = .ok (.enter f args) w
 run:∀s vs,Gl s→(∀b,M b→s.X b)→Vals s qs vs→Calls P f vs.toArray s.w fun e w'=>∃v s',e = .returned v∧s'.w=w'∧Fr M s s'∧R s s' v
theorem fm_of {P:Program} {f:FuncId} {fn:Func} {c:Code} {n:Nat} {M:Nat→Prop} {qs:List Pd} {R:St→St→Value→Prop} (hf:P.funcs[f]?=some fn) (hb:fn.body=some c) (hn:fn.ntmps=n) (hm:(fn.name == "runtime.NumGoroutine")=false) (hq:qs.length≤n)
  (h:∀s0 a,Has M n s0 a s0 (num 0 qs)→c.wp P (bodyPost P fn (Pst M R s0)) a s0.w):Fm P f M qs R where
 call:=fun args w=>by
  have hm':¬ fn.name = "runtime.NumGoroutine":=by simpa using hm
  simp [callFunc,hf,hm',hb]
 run:=fun s vs hg hM hv=>by
  refine calls_of_wp hf hb ?_
  have hl:=vals_len hv
  refine h s _ ⟨?_,rfl,Fr.refl hM,hg,fun t q ht=>?_⟩
  ·simp [hn,hl];omega
  ·obtain ⟨v,_,h2,h3⟩:=num_vals hv 0 t q ht
   have:(({ tmps:=vs.toArray++Array.replicate (fn.ntmps-vs.toArray.size) undef,defers:=[] }:Act).eval (.tmp t))=v:=by
    simp only [Nat.sub_zero] at h2
    have hlt:t<vs.length:=(List.getElem?_eq_some_iff.1 h2).1
    simp only [Act.eval]
    rw [Array.getD_eq_getD_getElem?,Array.getElem?_append_left (by simpa using hlt)]
    simp [h2]
   rw [this];exact h3
theorem Fm.fn {P:Program} {f:FuncId} {qs:List Pd} {R:St→St→Value→Prop} (h:Fm P f N0 qs R):Fn P f qs R:=
 ⟨h.call,fun s vs hg hv=>(h.run s vs hg (fun _ h=>h.elim) hv).mono fun e w' ⟨v,s',he,hw,hx,hr⟩=>⟨v,s',he,hw,hx.ex,hr⟩⟩
theorem fn_of {P:Program} {f:FuncId} {fn:Func} {c:Code} {n:Nat} {qs:List Pd} {R:St→St→Value→Prop} (hf:P.funcs[f]?=some fn) (hb:fn.body=some c) (hn:fn.ntmps=n) (hm:(fn.name == "runtime.NumGoroutine")=false) (hq:qs.length≤n)
  (h:∀s0 a,Has N0 n s0 a s0 (num 0 qs)→c.wp P (bodyPost P fn (Pst N0 R s0)) a s0.w):Fn P f qs R:=(fm_of hf hb hn hm hq h).fn
section
variable {P : Program} {fn : Func} {M : Nat → Prop} {n : Nat} {s0 : St} {a : Act} {s : St} {L : Lst} {R : St → St → Value → Prop}
theorem ret1 {t:Nat} (hr:fn.results = #[.tmp t]) (hL:Has M n s0 a s L) (hR:R s0 s (a.eval (.tmp t))):bodyPost P fn (Pst M R s0) .ret a s.w:=
 ⟨hL.defers,_,results_tmp hr a.tmps P s.w,_,s,rfl,rfl,hL.ent,hR⟩
theorem retq {t:Nat} {q:Pd} (hr:fn.results = #[.tmp t]) (hL:Has M n s0 a s L) (hl:lk L t=some q):bodyPost P fn (Pst M (Rq q) s0) .ret a s.w:=ret1 hr hL (hL.get t hl)
end
section
variable {P : Program} {Q : Exit → Act → World → Prop} {M : Nat → Prop} {n : Nat} {s0 : St} {a : Act} {s : St} {L : Lst}
theorem cnd {t:Nat} {b:Bool} {x y:Code} (hL:Has M n s0 a s L) (hl:lk L t=some (Pd.rep En.bool b)) (h1:b=true→x.wp P Q a s.w) (h2:b=false→y.wp P Q a s.w):(Code.cond (.tmp t) x y).wp P Q a s.w:=
 wp_cond_split (zbv.1 (hL.get t hl)) h1 h2
theorem lpg {c:Code} (I:Nat→Act→St→Prop) (k0:Nat) (h0:I k0 a s)
  (round:∀k a s,I k a s→∀K:Act→World→Prop,(∀k' a' s',k' < k→I k' a' s'→K a' s'.w)→c.wp P (Exit.then K Q) a s.w):(Code.loop c).wp P Q a s.w:=by
 refine wp_loop_ghost (fun k a w=>∃s,s.w=w∧I k a s) k0 ⟨s,rfl,h0⟩ ?_
 rintro k a w ⟨s,rfl,hI⟩
 exact round k a s hI _ fun k' a' s' hk hI'=>⟨k',hk,s',rfl,hI'⟩
end
end Go.Proofs.YtahgmdbioafmbaaGreatDoor.VD
namespace Go.Proofs.YtahgmdbioafmbaaGreatDoor.VD
open Go
set_option linter.unusedVariables false
structure TyZ {α:Type} (P:Program) (t:TypeId) (E:En α) (z:α):Prop where
 zero:∃i v cs,P.info? t=some i∧i.zero=some v∧v.cells=cs.toArray∧∀w S,E.R w S cs z
def Sub {α β:Type} (E:En α) (off:Nat) (E':En β) (x x':α) (y:β):Prop:=
 off+E'.sz≤E.sz∧∀w S cs cs',E.R w S cs x→E'.R w S cs' y→E.R w S (spl cs off cs') x'
theorem z8 {α:Type} (E:En α) (x y:α):Sub E 0 E x y y:=
 ⟨by simp,fun w S cs cs' h h'=>by
  have:spl cs 0 cs'=cs':=by
   have h1:=E.len h
   have h2:=E.len h'
   simp [spl,List.drop_of_length_le (show cs.length≤cs'.length by omega)]
  rw [this];exact h'⟩
def St.pushX (s:St) (ob:Obj):St:=⟨s.w.alloc ob,fun b=>s.X b∨b=s.w.heap.size,fun b hb=>hb.elim (fun h=>Nat.lt_of_lt_of_le (s.lt b h) (by simp)) (fun h=>by subst h;simp)⟩
theorem Ex.pushX (s:St) (ob:Obj):Ex s (s.pushX ob):=
 ⟨⟨DR.eq rfl,rfl,rfl,rfl,by simp [St.pushX],fun b hb _=>Go.RowKit.Below.heap_alloc s.w _ b hb,fun _ h=>h.elim,fun b hb=>hb.imp id (fun h=>Nat.le_of_eq h.symm)⟩,fun b hb=>.inl hb⟩
section
variable {P : Program} {ops : Array Oper} {o : Oper} {L L' : Lst} {Q : Exit → Act → World → Prop} {rest : List Oper} {M : Nat → Prop} {n : Nat} {s0 : St} {a : Act} {s : St}
theorem zbc {α:Type} (E:En α) {z:α} {t:TypeId} (d:Nat) (hL:Has M n s0 a s L) (hz:TyZ P t E z) (ho:o.op = .alloc t) (hg:o.guard=none) (hd:o.dst=some d) (hn:Nat.blt d n=true)
  (k:∀a' s' g,s.w.heap.size≤g→Has M n s0 a' s' ((d,Pd.box E s0.w.heap.size g z)::L)→wpList P ops Q rest a' s'.w):wpList P ops Q (o::rest) a s.w:=by
 obtain ⟨i,v,cs,h1,h2,h3,h4⟩:=hz.zero
 have hr:(execOp a.eval o).run P s.w = .ok (.value (.pointer (some ⟨s.w.heap.size,0,none⟩))) (s.pushX (.cells cs.toArray t)).w:=by
  unfold execOp;rw [ho]
  simp [Instr.alloc,zeroValue,typeInfo,h1,h2,newVar,newRow,h3,St.pushX]
 refine wpList_plain hg fun K hK=>?_
 unfold Oper.wp
 rw [hr]
 refine hK _ _ ?_
 simp only [hd]
 exact k _ _ s.w.heap.size (Nat.le_refl _) (hL.put (Ex.pushX s _) hn ⟨rfl,hL.ent.mv.size,.inr rfl,cs,t,heap_alloc_new s.w _,h4 _ _⟩)
theorem run_storeE {α:Type} {E:En α} {x:α} {t:TypeId} (ht:Ty P t E) {w w':World} {S:Nat→Prop} {cs:List Value} (hR:E.R w' S cs x) {g off:Nat} {cur:List Value} {te:TypeId} (hg:w.heap[g]?=some (.cells cur.toArray te (0,0))) (hl:off+E.sz≤cur.length):
  (Instr.storeAt t (.pointer (some ⟨g,off,none⟩)) (E.val cs)).run P w = .ok () (w.setRow g (spl cur off cs).toArray):=by
 have hlen:=E.len hR
 have:=run_storeCells_at P g off te cs 0 cur.toArray w hg (by simp;omega) (E.one hR)
 simp only [Instr.storeAt,Instr.sureAddr,Sem.run_bind,Sem.run_pure,Result.andThen_ok,storeVar,zbi ht,En.val_cells hR]
 rw [if_neg (by simp [hlen])]
 simpa [spl] using this
def St.set (s:St) (g:Nat) (cs:List Value):St:=⟨s.w.setRow g cs.toArray,s.X,fun b hb=>by simpa [World.setRow] using s.lt b hb⟩
theorem Ef.set (s:St) {g:Nat} (cs:List Value) {T:Nat→Prop} (hT:∀b,T b↔b=g) (hx:s.X g):Ef T s (s.set g cs):=
 ⟨⟨DR.eq rfl,rfl,rfl,rfl,by simp [St.set,World.setRow],fun b _ hn=>setRow_other s.w g b _ (fun e=>hn ((hT b).2 e)),fun b hb=>by rw [(hT b).1 hb];exact hx,fun b hb=>.inl hb⟩,fun b hb _=>hb⟩
theorem wp_store {t:TypeId} {x y:Operand} {w':World} (hr:(Instr.storeAt t (a.eval x) (a.eval y)).run P s.w = .ok () w') (ho:o.op = .store t x y) (hg:o.guard=none) (hd:o.dst=none) (k:wpList P ops Q rest a w'):wpList P ops Q (o::rest) a s.w:=by
 refine wpList_plain hg fun K hK=>?_
 unfold Oper.wp execOp
 simp only [ho,Sem.run_bind,hr,Result.andThen_ok,Sem.run_pure]
 refine hK _ _ ?_
 simp only [hd]
 exact k
theorem zdk {α β:Type} {E:En α} {E':En β} {x0 x1:α} {y0 y1:β} {g off:Nat} {x y:Operand} {t:TypeId} (c:Nat) (hL:Has M n s0 a s L) (hc:lk L c=some (Pd.box E s0.w.heap.size g x0)) (hx:Opn L x (Pd.optr E' s0.w.heap.size (some g) off y0)) (hy:Opn L y (Pd.rep E' y1))
  (hs:Sub E off E' x0 x1 y1) (ht:Ty P t E') (ho:o.op = .store t x y) (hg:o.guard=none) (hd:o.dst=none) (hk:Kp (fun b=>some g=some b) L L')
  (k:∀s',Has M n s0 a s' ((c,Pd.box E s0.w.heap.size g x1)::L')→wpList P ops Q rest a s'.w):wpList P ops Q (o::rest) a s.w:=by
 obtain ⟨hv,hN,hX,cur,te,hgb,hR⟩:=hL.get c hc
 obtain ⟨g',hgg,hxv,_⟩:=hx M n s0 a s hL
 cases hgg
 obtain ⟨cs,hyv,hR'⟩:=hy M n s0 a s hL
 have hlen:=E.len hR
 have hr:=run_storeE (P:=P) ht hR' (g:=g) (off:=off) hgb (by rw [hlen];exact hs.1)
 refine wp_store (s:=s) (by rw [hxv,hyv];exact hr) ho hg hd ?_
 have e:Ef (fun b=>some g=some b) s (s.set g (spl cur off cs)):=Ef.set s _ (fun b=>by simp [eq_comm]) hX
 refine k (s.set g (spl cur off cs)) ((hL.ef e (fun b hb=>by cases hb;exact hN) hk).cons c ⟨hv,hN,hX,_,te,setRow_heap s.w g _ _ te (0,0) hgb, ?_⟩)
 exact E.go e.mv (hs.2 _ _ _ _ hR hR')
theorem zb6 {α:Type} {E:En α} {x0 x1:α} {g:Nat} {y:Operand} {t:TypeId} (c:Nat) (hL:Has M n s0 a s L) (hc:lk L c=some (Pd.box E s0.w.heap.size g x0)) (hy:Opn L y (Pd.rep E x1))
  (ht:Ty P t E) (ho:o.op = .store t (.tmp c) y) (hg:o.guard=none) (hd:o.dst=none) (hk:Kp (fun b=>some g=some b) L L')
  (k:∀s',Has M n s0 a s' ((c,Pd.box E s0.w.heap.size g x1)::L')→wpList P ops Q rest a s'.w):wpList P ops Q (o::rest) a s.w:=by
 refine zdk (off:=0) (y0:=x0) (E':=E) c hL hc ?_ hy (z8 E x0 x1) ht ho hg hd hk k
 intro M' n' s0' a' s' hL'
 obtain ⟨hv,hN,hX,cur,te,hgb,hR⟩:=hL'.get c hc
 exact ⟨g,rfl,hv,hN,(Array.getElem?_eq_some_iff.1 hgb).1,hX,cur,zb8 hgb,hR⟩
end
def Dis (a b:Option Nat):Prop:=∀k,a=some k→b=some k→False
theorem Dis.symm {a b:Option Nat} (h:Dis a b):Dis b a:=fun k h1 h2=>h k h2 h1
theorem Dis.bx {g:Nat} {b:Option Nat} (h:Dis (some g) b):∀k,k=g→¬ b=some k:=fun k h1 h2=>h k (by rw [h1]) h2
theorem Dis.newg {g:Nat} {b:Option Nat} {N:Nat} (h:N≤g) (hb:∀k,b=some k→k<N):Dis (some g) b:=fun k h1 h2=>by cases h1;have:=hb g h2;omega
theorem Has.blt {α:Type} {E:En α} {N g:Nat} {x:α} {M:Nat→Prop} {n:Nat} {s0:St} {a:Act} {s:St} {L:Lst} (h:Has M n s0 a s L) (t:Nat) (hl:lk L t=some (Pd.box E N g x)):∀k,some g=some k→k<s.w.heap.size:=fun k hk=>by
 cases hk
 obtain ⟨_,_,_,_,_,hc,_⟩:=h.get t hl
 exact (Array.getElem?_eq_some_iff.1 hc).1
theorem rdl {P:Program} {id:Nat} {l:List Oper} {Q:Exit→Act→World→Prop} {M:Nat→Prop} {n:Nat} {s0:St} {a:Act} {s:St} {L:Lst} (hf:P.follows .mixedOrders=true) (m:Nat) (qs:List Pd)
  (hL:Has M n s0 a s L) (hok:zdo l.toArray m n (L.map (·.1)) []=true) (hq:qs.length=m) (hm:m≤l.length)
  (hT:∀i o q,i<m→l[i]?=some o→qs[i]?=some q→T P l.toArray o (depL l.toArray qs o.after.toList L) q)
  (hB:∀a' s',Ex s s'→Has M n s0 a' s' (newL l.toArray qs m L)→wpList P l.toArray Q (l.drop m) a' s'.w):(Code.region id l.toArray true).wp P Q a s.w:=by
 refine rd hf m qs hL hok hq (by simpa using hm) (fun i o q hi ho=>hT i o q hi (by simpa using ho)) fun a' s' e h=>?_
 have:=hB a' s' e h
 rw [← wpOps_eq_wpList (l.drop m) m (fun j=>by simp)] at this
 simpa using this
def AllT (P:Program) (ops:Array Oper) (qs0:List Pd) (L:Lst):List Oper→List Pd→Prop
 | _,[]=>True
 | [],_::_=>False
 | o::l,q::qs=>T P ops o (depL ops qs0 o.after.toList L) q∧AllT P ops qs0 L l qs
theorem AllT.at {P:Program} {ops:Array Oper} {qs0:List Pd} {L:Lst}:∀(l:List Oper) (qs:List Pd),AllT P ops qs0 L l qs→∀(i:Nat) (o:Oper) (q:Pd),l[i]?=some o→qs[i]?=some q→T P ops o (depL ops qs0 o.after.toList L) q
 | _,[],_,i,o,q,_,hq=>by simp at hq
 | [],_::_,h,_,_,_,_,_=>h.elim
 | o'::l,q'::qs,h,i,o,q,ho,hq=>by
  cases i with
  | zero=>simp only [List.getElem?_cons_zero,Option.some.injEq] at ho hq;subst ho;subst hq;exact h.1
  | succ i=>simp only [List.getElem?_cons_succ] at ho hq;exact AllT.at l qs h.2 i o q ho hq
theorem AllT.cons {P:Program} {ops:Array Oper} {qs0:List Pd} {L:Lst} {o:Oper} {l:List Oper} {q:Pd} {qs:List Pd} (h:T P ops o (depL ops qs0 o.after.toList L) q) (h2:AllT P ops qs0 L l qs):AllT P ops qs0 L (o::l) (q::qs):=⟨h,h2⟩
theorem AllT.nil {P:Program} {ops:Array Oper} {qs0:List Pd} {L:Lst} {l:List Oper}:AllT P ops qs0 L l []:=by cases l <;> trivial
theorem rda {P:Program} {id:Nat} {l:List Oper} {Q:Exit→Act→World→Prop} {M:Nat→Prop} {n:Nat} {s0:St} {a:Act} {s:St} {L:Lst} (hf:P.follows .mixedOrders=true) (m:Nat) (qs:List Pd)
  (hL:Has M n s0 a s L) (hok:zdo l.toArray m n (L.map (·.1)) []=true) (hq:Nat.beq qs.length m=true) (hm:Nat.ble m l.length=true)
  (hT:AllT P l.toArray qs L l qs)
  (hB:∀a' s',Ex s s'→Has M n s0 a' s' (newL l.toArray qs m L)→wpList P l.toArray Q (l.drop m) a' s'.w):(Code.region id l.toArray true).wp P Q a s.w:=
 rdl hf m qs hL hok (Nat.eq_of_beq_eq_true hq) (Nat.le_of_ble_eq_true hm) (fun i o q _ ho hq=>AllT.at l qs hT i o q ho hq) hB
section
variable {P : Program} {ops : Array Oper} {o : Oper} {L : Lst}
end
end Go.Proofs.YtahgmdbioafmbaaGreatDoor.VD
namespace Go.Proofs.YtahgmdbioafmbaaGreatDoor.VD
open Go
set_option linter.unusedVariables false
section
variable {P : Program} {ops : Array Oper} {o : Oper} {L L' : Lst} {Q : Exit → Act → World → Prop} {rest : List Oper} {M : Nat → Prop} {n : Nat} {s0 : St} {a : Act} {s : St}
end
def En.fun (P:Program) {β:Type} (qs:β→List Pd) (R:β→St→St→Value→Prop):En (β→Prop) where
 sz:=1
 agg:=false
 R:=fun w S cs F=>(cs=[.nilFunc]∧∀q,¬ F q)∨∃(f:FuncId) (first cap:Array Value),cs=[.func (.func f) first cap]∧(∀(args:Array Value) (w:World),(callFunc f args).run P w = .ok (.enter f args) w) ∧
  ∀s:St,Gl s→(∀b,S b→foot s b)→Same S w s.w→∀q,F q→∀vs,Vals s (qs q) vs→Calls P f (first++vs.toArray++cap) s.w fun e w'=>∃(v:Value) (s':St),e = .returned v∧s'.w=w'∧Ex s s'∧R q s s' v
 sc:=fun _=>rfl
 pos:=Nat.one_pos
 len:=by rintro _ _ _ _ (⟨rfl,_⟩ | ⟨_,_,_,rfl,_⟩) <;> rfl
 one:=by rintro _ _ _ _ (⟨rfl,_⟩ | ⟨_,_,_,rfl,_⟩) u hu <;> (simp at hu;subst hu;rfl)
 mono:=by
  rintro w S S' cs F h (h0 | ⟨f,first,cap,hc,h1,h2⟩)
  ·exact .inl h0
  ·exact .inr ⟨f,first,cap,hc,h1,fun s hg ha hb=>h2 s hg (fun b hS=>ha b (h b hS)) fun b hS=>hb b (h b hS)⟩
 move:=by
  rintro w w' S cs F h (h0 | ⟨f,first,cap,hc,h1,h2⟩)
  ·exact .inl h0
  ·exact .inr ⟨f,first,cap,hc,h1,fun s hg ha hb=>h2 s hg ha fun b hS=>(hb b hS).trans (h b hS)⟩
section
variable {P : Program} {ops : Array Oper} {o : Oper} {L : Lst} {β : Type} {qs : β → List Pd} {R : β → St → St → Value → Prop} {F : β → Prop}
theorem o_fun {f:FuncId} (hc:∀(args:Array Value) (w:World),(callFunc f args).run P w = .ok (.enter f args) w) (h:∀q,F q→Fn P f (qs q) (R q)):Opn L (.func f) (Pd.rep (En.fun P qs R) F):=
 fun M n s0 a s hL=>⟨[.func (.func f) #[] #[]],rfl,.inr ⟨f,#[],#[],rfl,hc,fun s1 hgl _ _ q hq vs hv=>by simpa using (h q hq).run s1 vs hgl hv⟩⟩
theorem t_callf {t:Nat} {xs:List Operand} {q:β} {q':Pd} {ats:Array TypeId} (hf:Opn L (.tmp t) (Pd.rep (En.fun P qs R) F)) (hq:F q) (hx:Opns L xs (qs q)) (hR:∀s s' v,R q s s' v→q'.p s' v)
  (ho:o.op = .call { callee:=.value (.tmp t),args:=xs.toArray,argTypes:=ats }) (hg:o.guard=none):T P ops o L q':=fun M n s0 a s hL Q k hk=>by
 simp only [Region.wanted,hg,if_true]
 obtain ⟨cs,hv,h⟩:=hf M n s0 a s hL
 rcases h with ⟨_,h0⟩ | ⟨f,first,cap,hcs,hc,hr⟩
 ·exact (h0 q hq).elim
 subst hcs
 have hv:a.eval (.tmp t) = .func (.func f) first cap:=hv
 have e:(execOp a.eval o).run P s.w = .ok (.enter f (first++(xs.map a.eval).toArray++cap)) s.w:=by
  have e1:execOp a.eval o=(do let d ← Deferred.ofValue (a.eval (.tmp t)) (xs.toArray.map a.eval);invoke d.target d.args):=by
   unfold execOp;rw [ho];rfl
  rw [e1,hv]
  have:=hc (first++(xs.map a.eval).toArray++cap) s.w
  simpa [Deferred.ofValue,invoke] using this
 unfold Oper.wp
 rw [e,Oper.upon_enter]
 refine (hr s hL.gls (fun _ h=>h) (fun _ _=>rfl) q hq _ (hx.vals hL)).mono fun e w' ⟨v,s',he,hw,hx,hq⟩=>?_
 subst he;subst hw
 exact hk v s' ⟨hx,hR _ _ _ hq⟩
end
theorem call_of {P:Program} {f:FuncId} {fn:Func} {c:Code} (hf:P.funcs[f]?=some fn) (hb:fn.body=some c) (hm:(fn.name == "runtime.NumGoroutine")=false):∀(args:Array Value) (w:World),(callFunc f args).run P w = .ok (.enter f args) w:=fun args w=>by
 have hm':¬ fn.name = "runtime.NumGoroutine":=by simpa using hm
 simp [callFunc,hf,hm',hb]
theorem o_q {L:Lst} {x:Operand} (q:Pd) (h:Opn L x q):Opn L x q:=h
end Go.Proofs.YtahgmdbioafmbaaGreatDoor.VD
namespace Go.Proofs.YtahgmdbioafmbaaGreatDoor.V
open Go Go.Shelf Go.Sort
set_option linter.unusedVariables false
theorem grow_of {w w':World} (hd:w.drawn≤w'.drawn) (ho:w'.os=w.os) (ht:w'.tape=w.tape) (hu:w'.output=w.output) (hs:w.heap.size≤w'.heap.size) (hb:∀b,b<w.heap.size→w'.heap[b]?=w.heap[b]?):∃q os,w'=Sort.grow (w.drewN q) os:=by
 refine ⟨w'.drawn-w.drawn,w'.heap.extract w.heap.size w'.heap.size, ?_⟩
 have hh:w'.heap=w.heap++w'.heap.extract w.heap.size w'.heap.size:=by
  apply Array.ext_getElem?
  intro i
  rw [Array.getElem?_append]
  split
  ·exact hb i ‹_›
  ·rw [Array.getElem?_extract]
   rename_i h
   by_cases hi:i<w'.heap.size
   ·rw [if_pos (by omega)];congr 1;omega
   ·rw [if_neg (by omega),Array.getElem?_eq_none (by omega)]
 have hd2:w'.drawn=w.drawn+(w'.drawn-w.drawn):=by omega
 obtain ⟨h1,t1,d1,o1,u1⟩:=w'
 obtain ⟨h0,t0,d0,o0,u0⟩:=w
 simp only at *
 subst ho ht hu
 unfold Sort.grow World.drewN
 simp only
 rw [← hh,← hd2]
theorem cmp_grow {P:Program} {g:FuncId} {α:Type} {E':VD.En α} {x y:α} {c:Int} (hc:VD.Fn P g [VD.Pd.rep E' x,VD.Pd.rep E' y] (VD.Rq (VD.Pd.rep (VD.En.int .i64) c))) (s:VD.St) (hg:VD.Gl s) {cx cy:List Value} (hx:E'.R s.w (VD.foot s) cx x) (hy:E'.R s.w (VD.foot s) cy y):
  Calls P g #[E'.val cx,E'.val cy] s.w fun e w'=>e = .returned (.int .i64 c)∧∃q os',w'=Sort.grow (s.w.drewN q) os':=
 (hc.run s [E'.val cx,E'.val cy] hg ⟨⟨cx,rfl,hx⟩,⟨cy,rfl,hy⟩,trivial⟩).mono fun e w' ⟨v,s',he,hw,hX,hq⟩=>by
  subst he;subst hw
  refine ⟨by rw [(VD.zz.1 hq).1],grow_of hX.mv.dr hX.mv.os hX.mv.tape hX.mv.output hX.mv.size fun b hb=>hX.mv.blk b hb id⟩
theorem swo_cmp {α:Type} {cf:α→α→Int} (h0:∀x,cf x x=0) (ha:∀x y,cf y x = -cf x y) (ht:∀x y z,cf x y≤0→cf y z≤0→cf x z≤0):SWO (Go.Proofs.ltOf cf) where
 irrefl x:=by unfold Go.Proofs.ltOf;rw [h0];rfl
 trans x y z h1 h2:=by
  unfold Go.Proofs.ltOf at *
  simp only [decide_eq_true_eq] at *
  have a1:=ha x y;have a2:=ha y z;have a3:=ha x z
  rcases Int.lt_or_le (cf x z) 0 with h | h
  ·exact h
  ·have:=ht z x y (by omega) (by omega)
   omega
 ntrans x y z h1 h2:=by
  unfold Go.Proofs.ltOf at *
  simp only [decide_eq_false_iff_not,Int.not_lt] at *
  have a1:=ha x y;have a2:=ha y z;have a3:=ha x z
  have:=ht z y x (by omega) (by omega)
  omega
theorem put_block {w:World} {b:Nat} {cur:Array Value} {te:TypeId} {F:Array Value} (m:Nat) (os:Array Obj) (hb:w.heap[b]?=some (.cells cur te (0,0))):
  (Sort.grow (putRow id (Sort.ahead w m) b 0 F) os).heap[b]?=some (.cells (putCells id 0 F cur) te (0,0)):=by
 have hlt:=(Array.getElem?_eq_some_iff.1 hb).1
 unfold Sort.grow putRow mapBlock
 simp only
 rw [Array.getElem?_append_left (by simpa [Sort.ahead] using hlt),Array.getElem?_modify,if_pos rfl]
 show Option.map _ (w.heap[b]?)=_
 rw [hb];rfl
theorem put_other {w:World} {b c:Nat} {F:Array Value} (m:Nat) (os:Array Obj) (hc:c<w.heap.size) (hne:c≠b):(Sort.grow (putRow id (Sort.ahead w m) b 0 F) os).heap[c]?=w.heap[c]?:=by
 unfold Sort.grow putRow mapBlock
 simp only
 rw [Array.getElem?_append_left (by simpa [Sort.ahead] using hc),Array.getElem?_modify,if_neg (Ne.symm hne)]
 rfl
theorem flat_idx {css:List (List Value)} {k:Nat} (hk:0<k) (h:∀cs∈css,cs.length=k) (j:Nat):css.flatten[j]?=(css[j / k]?).bind (fun cs=>cs[j % k]?):=by
 cases hi:css[j / k]? with
 | none=>
  rw [Option.bind_none,List.getElem?_eq_none]
  rw [flat_len h]
  have:=List.getElem?_eq_none_iff.1 hi
  have h2:=Nat.div_add_mod j k
  have h3:css.length*k≤(j / k)*k:=Nat.mul_le_mul_right _ this
  rw [Nat.mul_comm] at h2
  omega
 | some cs=>
  have hc:cs.length=k:=h cs (List.mem_of_getElem? hi)
  have hm:=Nat.mod_lt j hk
  have e:cs[j % k]?=some cs[j % k]:=List.getElem?_eq_getElem (by omega)
  have:=flat_get h hi e
  rw [Nat.mul_comm,Nat.div_add_mod] at this
  rw [this,Option.bind_some,e]
theorem fm_sort {P:Program} {ρ:Ren} (L:Go.Proofs.SlLaysF0.n6 P ρ) {α:Type} {E:En α} {E':VD.En α} {te:TypeId} {g:FuncId} {cf:α→α→Int} (ht24:ρ.t 24=te) (hE:Ty P te E) (hA:E.agg=true) (hA':E'.agg=true) (hR:∀{w S cs x},E.R w S cs x→E'.R w S cs x)
  (hf:∀(args:Array Value) (w:World),(callFunc (ρ.f 6) args).run P w = .ok (.enter (ρ.f 6) args) w) (eg:∀(args:Array Value) (w:World),(callFunc g args).run P w = .ok (.enter g args) w) (hO:SWO (Go.Proofs.ltOf cf)) {xs:List α} (hlen:xs.length≤2147483648)
  (hc:∀x∈xs,∀y∈xs,VD.Fn P g [VD.Pd.rep E' x,VD.Pd.rep E' y] (VD.Rq (VD.Pd.rep (VD.En.int .i64) (cf x y)))) (v0:Value):
  Fm P (ρ.f 6) (fun b=>v0.ownBlock=some b) [Pd.prow E te v0 xs,Pd.is (.func (.func g) #[] #[])] (fun _ s' _=>∃ys:List α,ys.Perm xs∧ys.Pairwise (fun a b=>¬ cf b a<0)∧(Pd.prow E te v0 ys).p s' v0):=by
 refine ⟨hf,fun s vs hgl hX hv=>?_⟩
 match vs,hv with
 | [v,fv],⟨⟨hv0,hrow⟩,hfv,_⟩=>
 have hfv:fv = .func (.func g) #[] #[]:=hfv
 subst hfv
 subst hv0
 obtain ⟨h1,h2,h3,css,hEl,how⟩:=hrow
 by_cases hx0:xs=[]
 ·subst hx0
  obtain ⟨p,cap,rfl⟩:∃p cap,v = .slice p 0 cap:=by
   rcases how.2 with ⟨e,_⟩ | ⟨b,cap,cur,e,_⟩
   ·exact ⟨none,0,e⟩
   ·exact ⟨_,cap,e⟩
  refine (Go.Proofs.AnyF.slices_SortFunc_none L p cap _ s.w).mono fun e w' ⟨he,hw⟩=>?_
  subst he;subst hw
  exact ⟨_,s,rfl,rfl,Fr.refl hX,[],.refl _,List.Pairwise.nil,rfl,h1,h2,h3,css,hEl,how⟩
 have hpos:0<xs.length:=List.length_pos_iff.2 hx0
 rcases how.2 with ⟨e,hn⟩ | ⟨b,cap,cur,hvb,hN,hgb,hnc,hcm,hcs,htk⟩
 ·omega
 subst hvb
 have hlens:=hEl.lens
 have hXb:s.X b:=h2 b rfl
 have hblt:b<s.w.heap.size:=s.lt b hXb
 let α':={p:List Value × α // E.R s.w (foot s) p.1 p.2∧p.2∈xs}
 have hel:∀i:Fin xs.length,E.R s.w (foot s) (css[i.1]'(by rw [hEl.1];exact i.2)) xs[i.1]∧xs[i.1]∈xs:=fun i=>⟨hEl.2 i.1 _ _ (List.getElem?_eq_getElem _) (List.getElem?_eq_getElem _),List.getElem_mem _⟩
 let d:Array α':=Array.ofFn fun i:Fin xs.length=>⟨(css[i.1]'(by rw [hEl.1];exact i.2),xs[i.1]),hel i⟩
 have hdn:d.size=xs.length:=by simp [d]
 haveI:Inhabited α':=⟨d[0]'(by rw [hdn];exact hpos)⟩
 let enc:α'→List Value:=fun p=>p.1.1
 have hk:∀x:α',(enc x).length=E.sz:=fun x=>E.len x.2.1
 have hone:∀x:α',∀u∈enc x,u.oneCell'=true:=fun x=>E.one x.2.1
 have hdl:d.toList.map (fun p=>p.1.1)=css:=by
  apply List.ext_getElem?
  intro i
  simp only [d,List.getElem?_map,Array.toList_ofFn,List.getElem?_ofFn]
  by_cases hi:i<xs.length
  ·rw [dif_pos hi,Option.map_some,List.getElem?_eq_getElem (by rw [hEl.1];exact hi)]
  ·rw [dif_neg hi,Option.map_none,List.getElem?_eq_none (by rw [hEl.1];omega)]
 have hdx:d.toList.map (fun p=>p.1.2)=xs:=by
  apply List.ext_getElem?
  intro i
  simp only [d,List.getElem?_map,Array.toList_ofFn,List.getElem?_ofFn]
  by_cases hi:i<xs.length
  ·rw [dif_pos hi,Option.map_some,List.getElem?_eq_getElem hi]
  ·rw [dif_neg hi,Option.map_none,List.getElem?_eq_none (by omega)]
 have hflat:∀(q:Array α') (j:Nat),j<q.size*E.sz→(q.toList.map (fun p=>p.1.1)).flatten[j]?=some (flatK enc E.sz q)[j]!:=by
  intro q j hj
  have hjk:j / E.sz<q.size:=Nat.div_lt_of_lt_mul (by rw [Nat.mul_comm];exact hj)
  rw [flat_idx E.pos (fun cs hcs=>by obtain ⟨p,hp,rfl⟩:=List.mem_map.1 hcs;exact E.len p.2.1),get_flatK _ _ _ _ hj,List.getElem?_map,Array.getElem?_toList,Array.getElem?_eq_getElem hjk]
  simp only [Option.map_some,Option.bind_some]
  rw [getElem!_pos q (j / E.sz) hjk]
  have hm:j % E.sz<(enc q[j / E.sz]).length:=by rw [hk];exact Nat.mod_lt _ E.pos
  rw [getElem!_pos (enc q[j / E.sz]) _ hm]
  exact List.getElem?_eq_getElem hm
 have hH:HoldsK enc E.sz s.w b 0 d:=by
  intro j hj
  rw [size_flatK] at hj
  have hf:=hflat d j hj
  rw [hdl] at hf
  have hcj:cur[j]?=some (flatK enc E.sz d)[j]!:=by
   rw [← htk,List.getElem?_take] at hf
   split at hf
   ·simpa using hf
   ·cases hf
  refine ⟨?_, ?_⟩
  ·rw [Nat.zero_add,cell_of_row s.w b j cur te (0,0) hgb];exact hcj
  ·unfold World.frozen?
   simp [hgb]
 have hO':SWO (Go.Proofs.ltOf fun p q:α'=>cf p.1.2 q.1.2):=⟨fun x=>hO.irrefl x.1.2,fun x y z=>hO.trans x.1.2 y.1.2 z.1.2,fun x y z=>hO.ntrans x.1.2 y.1.2 z.1.2⟩
 have hcmp:Go.Proofs.CmpLays P g #[] enc E.sz (fun p q:α'=>cf p.1.2 q.1.2) b 0 d.size s.w:=by
  intro m os dk hdk x y
  have hsz:s.w.heap.size≤(sortWorldK enc E.sz s.w b 0 m dk os).heap.size:=Go.Proofs.size_sortWorldK_c enc E.sz s.w b 0 m dk os
  have hoth:∀c,c<s.w.heap.size→c≠b→(sortWorldK enc E.sz s.w b 0 m dk os).heap[c]?=s.w.heap[c]?:=fun c hc hne=>put_other m os hc hne
  let sd:VD.St:=⟨sortWorldK enc E.sz s.w b 0 m dk os,fun c=>c=b,fun c hc=>by subst hc;omega⟩
  have hgd:VD.Gl sd:=by
   have key:∀c o,¬ s.X c→s.w.heap[c]?=some o→c≠b∧sd.w.heap[c]?=some o:=fun c o k1 k2=>by
    have hpb:c≠b:=fun e=>k1 (e ▸ hXb)
    exact ⟨hpb,(hoth c (Array.getElem?_eq_some_iff.1 k2).1 hpb).trans k2⟩
   refine ⟨fun p hp=>?_,fun p hp=>?_⟩
   ·obtain ⟨k1,t,fr,k2⟩:=hgl.1 p hp
    obtain ⟨k3,k4⟩:=key _ _ k1 k2
    exact ⟨k3,t,fr,k4⟩
   ·obtain ⟨k1,m',t,fr,es,clock,ys,k2,k3,k4,k5,k6⟩:=hgl.2 p hp
    obtain ⟨j1,j2⟩:=key _ _ k1 k2
    obtain ⟨j3,j4⟩:=key _ _ k3 k4
    exact ⟨j1,m',t,fr,es,clock,ys,j2,j3,j4,k5,k6⟩
  have hfoot:∀c,foot s c→VD.foot sd c:=fun c hc=>⟨Nat.lt_of_lt_of_le hc.1 hsz,fun e=>hc.2 (e ▸ hXb)⟩
  have conv:∀z:α',E'.R sd.w (VD.foot sd) (enc z) z.1.2:=fun z=>E'.mono hfoot (E'.move (fun c hc=>hoth c hc.1 (fun e=>hc.2 (e ▸ hXb))) (hR z.2.1))
  have:=cmp_grow (hc _ x.2.2 _ y.2.2) sd hgd (conv x) (conv y)
  have hval:∀z:α',E'.val (enc z) = .agg (enc z).toArray:=fun z=>by unfold VD.En.val;rw [hA'];rfl
  rw [hval,hval] at this
  exact this
 have hmain:=Go.Proofs.AnyQ.slices_SortFunc L E.sz (fun w=>by rw [ht24,← hA];exact run_isAgg hE w) (fun w=>by rw [ht24];exact zbi hE w) enc hk hone (fun p q:α'=>cf p.1.2 q.1.2) hO' g #[] b 0 cap d s.w eg hcmp hH hblt (by rw [hdn];omega)
 rw [hdn] at hmain
 refine hmain.mono fun e w' ⟨he,d',m,os,hP,hS,hw⟩=>?_
 subst he;subst hw
 have hd'n:d'.size=xs.length:=hP.1.trans hdn
 have hsz:s.w.heap.size≤(sortWorldK enc E.sz s.w b 0 m d' os).heap.size:=Go.Proofs.size_sortWorldK_c enc E.sz s.w b 0 m d' os
 let s':St:=⟨sortWorldK enc E.sz s.w b 0 m d' os,s.X,fun c hc=>Nat.lt_of_lt_of_le (s.lt c hc) hsz⟩
 have hmv:Mv (fun c=>(Value.slice (some ⟨b,0,none⟩) xs.length cap).ownBlock=some c) s s':=
  ⟨trivial,rfl,rfl,rfl,hsz,fun c hc hne=>put_other m os hc (fun e=>hne (by rw [e];rfl)),fun c hc=>hX c hc,fun c hc=>.inl hc⟩
 refine ⟨_,s',rfl,rfl,⟨hmv,fun c hc=>hc⟩,d'.toList.map (fun p=>p.1.2), ?_, ?_,rfl,rfl,fun c hc=>h2 c hc,by simp [hd'n];exact h3,d'.toList.map (fun p=>p.1.1),⟨by simp,fun i cs x hi hx=>?_⟩, ?_⟩
 ·have hp:=(hP.2.2).map (fun p:α'=>p.1.2)
  have e1:(d'.extract 0 xs.length).toList=d'.toList:=by rw [← hd'n];simp
  have e2:(d.extract 0 xs.length).toList=d.toList:=by rw [← hdn];simp
  rw [e1,e2,hdx] at hp
  exact hp
 ·rw [List.pairwise_iff_getElem]
  intro i j hi hj hij
  simp only [List.length_map,Array.length_toList] at hi hj
  have:=hS i j (Nat.zero_le _) hij (by omega)
  unfold Go.Proofs.ltOf at this
  rw [getElem!_pos d' i hi,getElem!_pos d' j hj] at this
  simpa using this
 ·simp only [List.getElem?_map,Array.getElem?_toList] at hi hx
  cases hq:d'[i]? with
  | none=>rw [hq] at hi;cases hi
  | some q=>
   rw [hq] at hi hx
   simp only [Option.map_some,Option.some.injEq] at hi hx
   subst hi;subst hx
   exact E.go hmv q.2.1
 ·have hfl:(d'.toList.map (fun p=>p.1.1)).flatten.length=d'.size*E.sz:=by
   rw [flat_len (fun cs hcs=>by obtain ⟨p,hp,rfl⟩:=List.mem_map.1 hcs;exact E.len p.2.1)]
   simp
  have hle:d'.size*E.sz≤cur.size:=by rw [hcs,hd'n];exact Nat.mul_le_mul_right _ hnc
  refine ⟨by rw [hfl];simp,.inr ⟨b,cap,_,by simp [hd'n],Nat.zero_le _,put_block m os hgb,by simp [hd'n];exact hnc,hcm,by simp [putCells];exact hcs, ?_⟩⟩
  apply List.ext_getElem?
  intro j
  rw [List.getElem?_take]
  simp only [List.length_map,Array.length_toList]
  split
  ·rename_i hj
   rw [hflat d' j hj,Array.getElem?_toList]
   unfold putCells
   rw [Array.getElem?_mapIdx,Array.getElem?_eq_getElem (by omega)]
   simp only [Option.map_some,id]
   rw [if_pos ⟨Nat.zero_le _,by rw [size_flatK];omega⟩,Nat.sub_zero]
  ·rename_i hj
   rw [List.getElem?_eq_none (by rw [hfl];omega)]
end Go.Proofs.YtahgmdbioafmbaaGreatDoor.V
namespace Go.Proofs.YtahgmdbioafmbaaGreatDoor.V
open Go
set_option linter.unusedVariables false
theorem dt {p:Prop} [Decidable p] (h:decide p=true):p:=of_decide_eq_true h
theorem df {p:Prop} [Decidable p] (h:decide p=false):¬ p:=of_decide_eq_false h
theorem upto {σ:Type} {P:Nat→σ→Int→Prop} (n:Nat) (I:Nat→σ→Prop)
  (hs:∀i s,i<n→I i s→(∀k,P (k+1) s (i:Int))∨∃s',I (i+1) s'∧∀k,P k s' ((i:Int)+1)→P (k+1) s (i:Int))
  (hx:∀s,I n s→∀k,P (k+1) s (n:Int)) (s:σ) (h:I 0 s):∃k,P k s 0:=by
 have:∀m i s,i+m=n→I i s→∃k,P k s (i:Int):=by
  intro m
  induction m with
  | zero=>intro i s hi hI;have:i=n:=by omega
          subst this;exact ⟨1,hx s hI 0⟩
  | succ m ih=>
   intro i s hi hI
   rcases hs i s (by omega) hI with h | ⟨s',h1,h2⟩
   ·exact ⟨1,h 0⟩
   ·obtain ⟨k,hk⟩:=ih (i+1) s' (by omega) h1
    exact ⟨k+1,h2 k (by simpa using hk)⟩
 simpa using this n 0 s (by omega) h
theorem run {σ:Type} {P:Nat→σ→Prop} (I:σ→Prop) (μ:σ→Nat) (h:∀s,I s→(∀k,P (k+1) s)∨∃s',I s'∧μ s' < μ s∧∀k,P k s'→P (k+1) s) (s:σ) (hI:I s):∃k,P k s:=by
 have:∀m s,μ s<m→I s→∃k,P k s:=by
  intro m
  induction m with
  | zero=>intro s hs;omega
  | succ m ih=>
   intro s hs hI
   rcases h s hI with h1 | ⟨s',h1,h2,h3⟩
   ·exact ⟨1,h1 0⟩
   ·obtain ⟨k,hk⟩:=ih s' (by omega) h1
    exact ⟨k+1,h3 k hk⟩
 exact this (μ s+1) s (by omega) hI
theorem zk {x:Int} (h1:-9223372036854775808≤x) (h2:x≤9223372036854775807):InR .i64 x:=inR_i64.2 ⟨h1,h2⟩
theorem zb0 {α:Type} {xs:List α} {i:Nat}:at? xs (i:Int)=xs[i]?:=by
 unfold at?
 rw [if_pos (by omega)];simp
def Cl.put (a:Cl) (n:Nat):Cl:=a ||| BitVec.twoPow 256 n
theorem has_put {a:Cl} {n m:Nat} (hn:n<256):(a.put n).has m=(a.has m||decide (n=m)):=by
 unfold Cl.put Cl.has
 rw [BitVec.getLsbD_or,BitVec.getLsbD_twoPow]
 simp [hn]
theorem has_and {a b:Cl} {m:Nat}:(a &&& b).has m=(a.has m&&b.has m):=BitVec.getLsbD_and
theorem has_not {a:Cl} {m:Nat} (h:m<256):(~~~ a).has m = !a.has m:=by
 unfold Cl.has
 rw [BitVec.getLsbD_not];simp [h]
theorem has_zero {m:Nat}:Cl.has (0#256) m=false:=by simp [Cl.has]
theorem w_nat (a:Cl) (i:Int):(Cl.w a i).toNat=a.word i.toNat:=by simp [Cl.w]
theorem has_w {a:Cl} {n:Nat} (h:n<256):a.has n=(a.word (n / 64)).testBit (n % 64):=by
 rw [Cl.word_bit]
 simp [Nat.mod_lt,Nat.div_add_mod]
theorem setw_word {a:Cl} {i:Nat} {v:Int} (hv:v.toNat<2 ^ 64) (j:Nat) (hj:j<4):(a.setw (i:Int) v).word j=if j=i then v.toNat else a.word j:=by
 unfold Cl.setw
 have hw:∀k,a.word k<2 ^ 64:=a.word_lt
 have hb:∀(c:Prop) [Decidable c] (k:Nat),(if c then v.toNat else a.word k)<2 ^ 64:=fun c _ k=>by split <;> simp_all
 obtain ⟨h0,h1,h2,h3⟩:=Cl.ofWords_word (hb ((i:Int)=0) 0) (hb ((i:Int)=1) 1) (hb ((i:Int)=2) 2) (hb ((i:Int)=3) 3)
 match j,hj with
 | 0,_=>rw [h0];split <;> split <;> first | rfl | omega
 | 1,_=>rw [h1];split <;> split <;> first | rfl | omega
 | 2,_=>rw [h2];split <;> split <;> first | rfl | omega
 | 3,_=>rw [h3];split <;> split <;> first | rfl | omega
theorem has_setw {a:Cl} {i:Nat} {v:Int} (hv:v.toNat<2 ^ 64) {n:Nat} (hn:n<256):(a.setw (i:Int) v).has n=if n / 64=i then v.toNat.testBit (n % 64) else a.has n:=by
 rw [has_w hn,setw_word hv _ (by omega),has_w hn]
 split <;> rfl
theorem shr_bit {w k:Nat} (hk:k<64):(andI (shrI (w:Int) (k:Int)) 1==1)=w.testBit k:=by
 unfold andI shrI
 rw [show min ((k:Int)).toNat 64=k by simp;omega]
 have h:((w:Int) / 2 ^ k).toNat=w / 2 ^ k:=by
  rw [show ((2:Int) ^ k)=((2 ^ k:Nat):Int) by simp,← Int.natCast_ediv];exact Int.toNat_natCast _
 rw [h]
 simp only [Int.toNat_one,Nat.and_one_is_mod,Nat.testBit_eq_decide_div_mod_eq]
 have:=Nat.mod_two_eq_zero_or_one (w / 2 ^ k)
 rcases this with h | h <;> rw [h] <;> rfl
theorem shl_one {k:Nat} (hk:k<64):shlI 1 (k:Int)=((2 ^ k:Nat):Int):=by
 unfold shlI
 rw [show min ((k:Int)).toNat 64=k by simp;omega,Int.one_mul]
 have:2 ^ k<2 ^ 64:=Nat.pow_lt_pow_right (by omega) hk
 rw [show ((2:Int) ^ k)=((2 ^ k:Nat):Int) by simp]
 generalize 2 ^ k=q at *
 omega
theorem put_words {a:Cl} {n:Nat} (hn:n<256):a.setw ((n / 64:Nat):Int) (orI (Cl.w a ((n / 64:Nat):Int)) (shlI 1 ((n % 64:Nat):Int)))=a.put n:=by
 apply Cl.ext
 intro c hc
 have hlt:(orI (Cl.w a ((n / 64:Nat):Int)) (shlI 1 ((n % 64:Nat):Int))).toNat=a.word (n / 64) ||| 2 ^ (n % 64):=by
  rw [shl_one (Nat.mod_lt _ (by omega))]
  unfold orI
  rw [w_nat,Int.toNat_natCast,Int.toNat_natCast,Int.toNat_natCast]
 have hb:a.word (n / 64) ||| 2 ^ (n % 64)<2 ^ 64:=Nat.or_lt_two_pow (a.word_lt _) (Nat.pow_lt_pow_right (by omega) (Nat.mod_lt _ (by omega)))
 rw [has_setw (by rw [hlt];exact hb) hc,hlt,has_put hn]
 split
 ·rename_i h
  rw [Nat.testBit_or,Nat.testBit_two_pow,← h,← has_w hc]
  congr 1
  apply decide_eq_decide.2
  omega
 ·rename_i h
  rw [show decide (n=c)=false by simp;intro e;subst e;exact h rfl];simp
def Cl.row (f t:Int):Cl:=Cl.of fun n=>decide (f≤(n:Int))&&decide ((n:Int)≤t)
theorem has_row {f t:Int} {n:Nat} (h:n<256):(Cl.row f t).has n=(decide (f≤(n:Int))&&decide ((n:Int)≤t)):=Cl.of_has _ h
def Cl.least (a:Cl):Int × Bool:=match (List.range 256).find? a.has with
 | some n=>((n:Int),true)
 | none=>(0,false)
def Cl.count (a:Cl):Nat:=(List.range 256).countP a.has
def Cl.addL (a:Cl) (l:List Int):Cl:=l.foldl (fun a c=>a.put c.toNat) a
theorem u8_of {c:Int} (h:InR .u8 c):∃n:Nat,n<256∧c=n:=by
 rw [inR_u8] at h
 exact ⟨c.toNat,by omega,by omega⟩
theorem u8_nat {n:Nat} (h:n<256):InR .u8 (n:Int):=inR_u8.2 ⟨by omega,by omega⟩
theorem least_some {a:Cl} {n:Nat} (h:a.least=((n:Int),true)):n<256∧a.has n=true∧∀m,m<n→a.has m=false:=by
 unfold Cl.least at h
 split at h
 ·rename_i k hk
  have e:k=n:=by have h2:=(Prod.mk.inj h).1;omega
  subst e
  rw [List.find?_eq_some_iff_getElem] at hk
  obtain ⟨h1,i,h2,h3,h4⟩:=hk
  simp at h2 h3
  subst h3
  refine ⟨h2,h1,fun m hm=>?_⟩
  have:=h4 m hm
  simpa using this
 ·simp at h
theorem least_none {a:Cl} (h:a.least.2=false):∀m,m<256→a.has m=false:=by
 unfold Cl.least at h
 split at h
 ·simp at h
 ·rename_i hk
  intro m hm
  have:=List.find?_eq_none.1 hk m (by simpa using hm)
  simpa using this
theorem least_of {a:Cl} {n:Nat} (hn:n<256) (h1:a.has n=true) (h2:∀m,m<n→a.has m=false):a.least=((n:Int),true):=by
 have:(List.range 256).find? a.has=some n:=by
  rw [List.find?_eq_some_iff_getElem]
  exact ⟨h1,n,by simpa using hn,by simp,fun j hj=>by simp [h2 j hj]⟩
 simp [Cl.least,this]
theorem least_of_none {a:Cl} (h:∀m,m<256→a.has m=false):a.least=(0,false):=by
 have:(List.range 256).find? a.has=none:=by
  rw [List.find?_eq_none]
  intro m hm
  simp [h m (by simpa using hm)]
 simp [Cl.least,this]
def Cl.ofL (l:List Bool):Cl:=Cl.of fun n=>l.getD n false
theorem has_ofL {l:List Bool} {n:Nat} (h:n<256):(Cl.ofL l).has n=l.getD n false:=Cl.of_has _ h
end Go.Proofs.YtahgmdbioafmbaaGreatDoor.V
namespace Go.Proofs.YtahgmdbioafmbaaGreatDoor.V
open Go
set_option linter.unusedVariables false
theorem dig10:∀d:Fin 10,(UInt8.ofNat (48+d.1)).toNat=48+d.1:=by decide
theorem dec_ge (u:Nat):∀c∈Lib.decDigits u,48≤c.toNat∧c.toNat≤57:=by
 induction u using Nat.strongRecOn with
 | ind u ih=>
  intro c hc
  have hd:∀d,d<10→(UInt8.ofNat (48+d)).toNat=48+d:=fun d hd=>dig10 ⟨d,hd⟩
  rw [Lib.decDigits] at hc
  split at hc
  ·rename_i h
   rw [List.mem_singleton.1 hc,hd u h];omega
  ·rename_i h
   rcases List.mem_append.1 hc with hc | hc
   ·exact ih (u / 10) (by omega) c hc
   ·rw [List.mem_singleton.1 hc,hd _ (Nat.mod_lt _ (by omega))];omega
def valD (l:List UInt8):Nat:=l.foldl (fun a c=>10*a+(c.toNat-48)) 0
theorem valD_dec (u:Nat):valD (Lib.decDigits u)=u:=by
 induction u using Nat.strongRecOn with
 | ind u ih=>
  have hd:∀d,d<10→(UInt8.ofNat (48+d)).toNat=48+d:=fun d hd=>dig10 ⟨d,hd⟩
  rw [Lib.decDigits]
  split
  ·rename_i h
   simp only [valD,List.foldl_cons,List.foldl_nil,hd u h];omega
  ·rename_i h
   have:=ih (u / 10) (by omega)
   unfold valD at this ⊢
   rw [List.foldl_append,this]
   simp only [List.foldl_cons,List.foldl_nil,hd _ (Nat.mod_lt u (show 10 > 0 by omega))];omega
theorem itoa_chars (n:Int):∀c∈Lib.itoa n,c≠32:=by
 intro c hc he
 subst he
 unfold Lib.itoa at hc
 split at hc
 ·rcases List.mem_cons.1 hc with h | h
  ·exact absurd h (by decide)
  ·have:=(dec_ge _ _ h).1;exact absurd this (by decide)
 ·have:=(dec_ge _ _ hc).1;exact absurd this (by decide)
theorem itoa_inj {n m:Int} (h:Lib.itoa n=Lib.itoa m):n=m:=by
 have no45:∀u (l:List UInt8),Lib.decDigits u≠45::l:=fun u l he=>by
  have:=(dec_ge u 45 (by rw [he];simp)).1
  exact absurd this (by decide)
 unfold Lib.itoa at h
 split at h <;> split at h
 ·have:=congrArg valD (List.cons.inj h).2
  rw [valD_dec,valD_dec] at this;omega
 ·exact absurd h.symm (no45 _ _)
 ·exact absurd h (no45 _ _)
 ·have:=congrArg valD h
  rw [valD_dec,valD_dec] at this;omega
theorem at_none {α:Type} {xs:List α} {i:Int} (h:i<0∨(xs.length:Int)≤i):at? xs i=none:=by
 unfold at?
 split
 ·exact List.getElem?_eq_none (by omega)
 ·rfl
theorem at_in {α:Type} {xs:List α} {i:Int} (h0:0≤i) (h1:i<(xs.length:Int)):∃x,at? xs i=some x∧x∈xs:=by
 refine ⟨xs[i.toNat]'(by omega), ?_,List.getElem_mem _⟩
 unfold at?
 rw [if_pos h0]
 exact List.getElem?_eq_getElem _
theorem uptoK {σ:Type} {P:Nat→σ→Int→Prop} (n:Nat) (I:Nat→σ→Prop)
  (hs:∀i s k,i<n→I i s→(∀s',I (i+1) s'→P k s' ((i:Int)+1))→P (k+1) s (i:Int))
  (hx:∀s,I n s→∀k,P (k+1) s (n:Int)) (s:σ) (h:I 0 s):∃k,P k s 0:=by
 have:∀m i s,i+m=n→I i s→P (m+1) s (i:Int):=by
  intro m
  induction m with
  | zero=>intro i s hi hI;have:i=n:=by omega
          subst this;exact hx s hI 0
  | succ m ih=>
   intro i s hi hI
   exact hs i s (m+1) (by omega) hI fun s' h'=>by simpa using ih (i+1) s' (by omega) h'
 exact ⟨n+1,by simpa using this n 0 s (by omega) h⟩
theorem mget_nil {κ ν:Type} [DecidableEq κ] (k:κ) (z:ν):mget ([]:List (κ × ν)) k z=z:=rfl
theorem mget_cons {κ ν:Type} [DecidableEq κ] (p:κ × ν) (xs:List (κ × ν)) (k:κ) (z:ν):mget (p::xs) k z=if p.1=k then p.2 else mget xs k z:=by
 unfold mget
 rw [List.find?_cons]
 by_cases h:p.1=k
 ·subst h;simp
 ·have h':(p.1==k)=false:=by simpa using h
  rw [h',if_neg h]
theorem mget_mput {κ ν:Type} [DecidableEq κ] (xs:List (κ × ν)) (k k':κ) (v z:ν):mget (mput xs k v) k' z=if k=k' then v else mget xs k' z:=by
 have hmap:∀xs:List (κ × ν),mget (xs.map (fun p=>bif p.1==k then (k,v) else p)) k' z=if k=k' then (if mhas xs k=true then v else z) else mget xs k' z:=by
  intro xs
  induction xs with
  | nil=>simp [mget_nil,mhas]
  | cons p xs ih=>
   rw [List.map_cons,mget_cons,ih,mget_cons]
   by_cases hp:p.1=k
   ·subst hp
    by_cases hk:p.1=k' <;> simp [hk,mhas]
   ·have:(p.1==k)=false:=by simpa using hp
    rw [this]
    by_cases hk:k=k'
    ·subst hk
     simp only [mhas,List.any_cons,this,Bool.false_or,cond_false,if_neg hp]
     rfl
    ·simp [hk]
 have happ:∀xs:List (κ × ν),mhas xs k=false→mget (xs++[(k,v)]) k' z=if k=k' then v else mget xs k' z:=by
  intro xs
  induction xs with
  | nil=>intro _;rw [List.nil_append,mget_cons,mget_nil]
  | cons p xs ih=>
   intro h
   simp only [mhas,List.any_cons,Bool.or_eq_false_iff] at h
   rw [List.cons_append,mget_cons,ih h.2,mget_cons]
   have hp:p.1≠k:=by simpa using h.1
   by_cases hk:k=k'
   ·subst hk;simp [hp]
   ·simp [hk]
 unfold mput
 cases h:mhas xs k
 ·exact happ xs h
 ·rw [cond_true,hmap,h];simp
end Go.Proofs.YtahgmdbioafmbaaGreatDoor.V
namespace Go.Proofs.YtahgmdbioafmbaaGreatDoor.V
open Go
set_option linter.unusedVariables false
theorem lexI_cons (x y:Int) (a b:List Int):lexI (x::a) (y::b)=if sgnI x y≠0 then sgnI x y else lexI a b:=by
 unfold sgnI
 rw [lexI]
 by_cases h1:x<y
 ·simp [h1]
 ·by_cases h2:y<x
  ·simp [h1,h2]
  ·simp [h1,h2]
theorem zdd (b:List Int):lexI [] b=0:=by cases b <;> rfl
theorem lexI_nil_right (a:List Int):lexI a []=0:=by cases a <;> rfl
theorem cmpItem_lex (x y:SItem):cmpItem x y=lexI (nums4 x) (nums4 y):=by
 unfold cmpItem nums4
 simp only [lexI_cons,fstNZ,zdd]
theorem lexI_app {a b:List Int} (h:a.length=b.length) (u v:List Int):lexI (a++u) (b++v)=if lexI a b≠0 then lexI a b else lexI u v:=by
 induction a generalizing b with
 | nil=>
  cases b with
  | nil=>simp [zdd]
  | cons y b=>simp at h
 | cons x a ih=>
  cases b with
  | nil=>simp at h
  | cons y b=>
   simp only [List.cons_append,lexI_cons]
   rw [ih (by simpa using h)]
   split <;> simp_all
theorem lexI_self (a:List Int):lexI a a=0:=by
 induction a with
 | nil=>rfl
 | cons x a ih=>rw [lexI,if_neg (by omega),if_neg (by omega),ih]
theorem lexI_anti (a b:List Int):lexI b a = -lexI a b:=by
 induction a generalizing b with
 | nil=>rw [zdd,lexI_nil_right];rfl
 | cons x a ih=>
  cases b with
  | nil=>rw [zdd,lexI_nil_right];rfl
  | cons y b=>
   rw [lexI,lexI]
   by_cases h1:x<y
   ·rw [if_neg (by omega),if_pos h1,if_pos h1];rfl
   ·by_cases h2:y<x
    ·rw [if_pos h2,if_neg h1,if_pos h2]
    ·rw [if_neg h2,if_neg h1,if_neg h1,if_neg h2,ih]
theorem lexI_zero {a b:List Int} (hl:a.length=b.length) (h:lexI a b=0):a=b:=by
 induction a generalizing b with
 | nil=>cases b with
  | nil=>rfl
  | cons y b=>simp at hl
 | cons x a ih=>
  cases b with
  | nil=>simp at hl
  | cons y b=>
   rw [lexI] at h
   by_cases h1:x<y
   ·rw [if_pos h1] at h;cases h
   ·by_cases h2:y<x
    ·rw [if_neg h1,if_pos h2] at h;cases h
    ·rw [if_neg h1,if_neg h2] at h
     rw [ih (by simpa using hl) h,show x=y by omega]
theorem lexI_trans {a b c:List Int} (h1:a.length=b.length) (h2:b.length=c.length) (h:lexI a b<0) (k:lexI b c<0):lexI a c<0:=by
 induction a generalizing b c with
 | nil=>rw [zdd] at h;omega
 | cons x a ih=>
  cases b with
  | nil=>simp at h1
  | cons y b=>
   cases c with
   | nil=>simp at h2
   | cons z c=>
    rw [lexI] at h k ⊢
    by_cases e1:x<y
    ·by_cases e2:y<z
     ·rw [if_pos (by omega)];omega
     ·by_cases e3:z<y
      ·rw [if_neg e2,if_pos e3] at k;omega
      ·rw [if_pos (by omega)];omega
    ·by_cases e2:y<x
     ·rw [if_neg e1,if_pos e2] at h;omega
     ·rw [if_neg e1,if_neg e2] at h
      by_cases e3:y<z
      ·rw [if_pos (by omega)];omega
      ·by_cases e4:z<y
       ·rw [if_neg e3,if_pos e4] at k;omega
       ·rw [if_neg e3,if_neg e4] at k
        rw [if_neg (by omega),if_neg (by omega)]
        exact ih (by simpa using h1) (by simpa using h2) h k
theorem numsS_cons (x:SItem) (s:List SItem):numsS (x::s)=nums4 x++numsS s:=by simp [numsS]
theorem zdc (l:List SItem):(numsS l).length=4*l.length:=by
 induction l with
 | nil=>rfl
 | cons x l ih=>rw [numsS_cons,List.length_append,ih];simp [nums4];omega
theorem numsS_inj {s t:List SItem} (h:numsS s=numsS t):s=t:=by
 induction s generalizing t with
 | nil=>
  cases t with
  | nil=>rfl
  | cons y t=>rw [numsS_cons] at h;simp [numsS,nums4] at h
 | cons x s ih=>
  cases t with
  | nil=>rw [numsS_cons] at h;simp [numsS,nums4] at h
  | cons y t=>
   rw [numsS_cons,numsS_cons] at h
   obtain ⟨x1,x2,x3,x4⟩:=x
   obtain ⟨y1,y2,y3,y4⟩:=y
   simp only [nums4,List.cons_append,List.nil_append,List.cons.injEq] at h
   obtain ⟨rfl,rfl,rfl,rfl,h⟩:=h
   rw [ih h]
theorem zdg {a b:List SItem}:cmpS a b=0↔a=b:=by
 constructor
 ·intro h
  unfold cmpS numsL at h
  rw [lexI] at h
  by_cases h1:(a.length:Int)<(b.length:Int)
  ·rw [if_pos h1] at h;cases h
  ·by_cases h2:(b.length:Int)<(a.length:Int)
   ·rw [if_neg h1,if_pos h2] at h;cases h
   ·rw [if_neg h1,if_neg h2] at h
    exact numsS_inj (lexI_zero (by rw [zdc,zdc];omega) h)
 ·rintro rfl;exact lexI_self _
theorem cmpS_anti (a b:List SItem):cmpS b a = -cmpS a b:=lexI_anti _ _
theorem cmpS_trans {a b c:List SItem} (h:cmpS a b<0) (k:cmpS b c<0):cmpS a c<0:=by
 unfold cmpS numsL at *
 rw [lexI] at h k ⊢
 by_cases e1:(a.length:Int)<(b.length:Int)
 ·by_cases e2:(b.length:Int)<(c.length:Int)
  ·rw [if_pos (by omega)];omega
  ·by_cases e3:(c.length:Int)<(b.length:Int)
   ·rw [if_neg e2,if_pos e3] at k;omega
   ·rw [if_pos (by omega)];omega
 ·by_cases e2:(b.length:Int)<(a.length:Int)
  ·rw [if_neg e1,if_pos e2] at h;omega
  ·rw [if_neg e1,if_neg e2] at h
   by_cases e3:(b.length:Int)<(c.length:Int)
   ·rw [if_pos (by omega)];omega
   ·by_cases e4:(c.length:Int)<(b.length:Int)
    ·rw [if_neg e3,if_pos e4] at k;omega
    ·rw [if_neg e3,if_neg e4] at k
     rw [if_neg (by omega),if_neg (by omega)]
     exact lexI_trans (by rw [zdc,zdc];omega) (by rw [zdc,zdc];omega) h k
theorem cut32 {a b:List UInt8} (ha:∀c∈a,c≠32) (hb:∀c∈b,c≠32) {u v:List UInt8} (h:a++32::u=b++32::v):a=b∧u=v:=by
 induction a generalizing b with
 | nil=>
  cases b with
  | nil=>exact ⟨rfl,(List.cons.inj h).2⟩
  | cons y b=>exact absurd (List.cons.inj h).1.symm (hb y (by simp))
 | cons x a ih=>
  cases b with
  | nil=>exact absurd (List.cons.inj h).1 (ha x (by simp))
  | cons y b=>
   obtain ⟨h1,h2⟩:=List.cons.inj h
   obtain ⟨h3,h4⟩:=ih (fun c hc=>ha c (by simp [hc])) (fun c hc=>hb c (by simp [hc])) h2
   exact ⟨by rw [h1,h3],h4⟩
theorem keyN_cons (z:Int) (l:List Int):keyN (z::l)=Lib.itoa z++32::keyN l:=by simp [keyN]
theorem keyN_inj {l m:List Int} (h:keyN l=keyN m):l=m:=by
 induction l generalizing m with
 | nil=>
  cases m with
  | nil=>rfl
  | cons y m=>rw [keyN_cons] at h;simp [keyN] at h
 | cons z l ih=>
  cases m with
  | nil=>rw [keyN_cons] at h;simp [keyN] at h
  | cons y m=>
   rw [keyN_cons,keyN_cons] at h
   obtain ⟨h1,h2⟩:=cut32 (itoa_chars z) (itoa_chars y) h
   rw [itoa_inj h1,ih h2]
theorem keyS_iff {s t:List SItem}:keyS s=keyS t↔s=t:=⟨fun h=>numsS_inj (keyN_inj h),fun h=>by rw [h]⟩
def badI (x:SItem):Bool:=x.1==5&&decide (x.2.2.1≤0)
def low1 (x:SItem):SItem:=if x.1=5 then (x.1,x.2.1,x.2.2.1-1,x.2.2.2) else x
def lowF (s:List SItem):List SItem × Bool:=if s.any badI=true then ([],false) else (s.map low1,true)
end Go.Proofs.YtahgmdbioafmbaaGreatDoor.V
