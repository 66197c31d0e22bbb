/-
  The texts that the law's proof needs, part 3.
-/
import Derived.Deep.LoopGhost
import Derived.Laws.AppendOwnNone
import Derived.Laws.StructEq
import Derived.Laws.Tables
import Derived.Lib.Hide
import Derived.Lib.ItoaNum
import Derived.OpenShut
import Derived.Orders
import Derived.Shelf.SlSortCmp.NoneTotal
import Derived.Shelf.SlSortCmp.WholeK
import Derived.WalkKit
import Derived.Test.YtahgmdbioafmbaaGreatDoorWordLeastP2

namespace Go.Proofs.YtahgmdbioafmbaaGreatDoor.V
open Go
set_option linter.unusedVariables false
def zl.j1 (i_:Int) (r_:Int) (l2:(List Int)):Prop:=∃e5:Int,at? l2 i_=some e5∧r_=e5
def zl.j2 (L1_:(List Int)→Int→Prop) (l7:(List Int)) (k9:Int) (w20:Int):Prop:=(l7.length+[(min 2 w20)].length≤2147483648)∧(InR .i64 (k9+1))∧L1_ (l7++[(min 2 w20)]) (k9+1)
def zl.j3 (L2_:Int→Int→Prop) (w37:Int) (t38:Int) (p46:Int):Prop:=(InR .i64 (w37+p46))∧(InR .i64 (t38+1))∧L2_ (min 2 (w37+p46)) (t38+1)
def zl.l3 (l7:(List Int)) (e15:SNode) (t38:Int) (X3:Int→Prop):Nat→Int→Int→Prop
 | 0,_,_=>False
 | k_0+1,p51,m52=>((decide (m52<t38))=true→∃e59:Int,at? l7 e15.2.1=some e59∧(InR .i64 (p51*e59))∧(InR .i64 (m52+1))∧zl.l3 l7 e15 t38 X3 k_0 (min 2 (p51*e59)) (m52+1))∧((decide (m52<t38))=false→X3 p51)
def zl.l2 (l7:(List Int)) (e15:SNode) (X2:Int→Prop):Nat→Int→Int→Prop
 | 0,_,_=>False
 | k_0+1,w37,t38=>((decide (t38≤e15.2.2.2.2.1))=true→∃k53,zl.l3 l7 e15 t38 (zl.j3 (zl.l2 l7 e15 X2 k_0) w37 t38) k53 1 0)∧((decide (t38≤e15.2.2.2.2.1))=false→X2 w37)
def zl.l1 (d_:SDesc) (i_:Int) (X1:(List Int)→Prop):Nat→(List Int)→Int→Prop
 | 0,_,_=>False
 | k_0+1,l7,k9=>((decide (k9≤i_))=true→∃e15:SNode,at? d_ k9=some e15∧(((e15.1==1))=true→(zl.j2 (zl.l1 d_ i_ X1 k_0) l7 k9) 1)∧(((e15.1==1))=false→(((e15.1==4))=true→∃e25:Int,at? l7 e15.2.1=some e25∧∃e27:Int,at? l7 e15.2.2.1=some e27∧(InR .i64 (e25*e27))∧(zl.j2 (zl.l1 d_ i_ X1 k_0) l7 k9) (e25*e27))∧(((e15.1==4))=false→(((e15.1==5))=true→∃e30:Int,at? l7 e15.2.1=some e30∧∃e32:Int,at? l7 e15.2.2.1=some e32∧(InR .i64 (e30+e32))∧(zl.j2 (zl.l1 d_ i_ X1 k_0) l7 k9) (e30+e32))∧(((e15.1==5))=false→(((e15.1==6))=true→∃e35:Int,at? l7 e15.2.1=some e35∧((decide (0<e35))=true→(zl.j2 (zl.l1 d_ i_ X1 k_0) l7 k9) 2)∧((decide (0<e35))=false→(zl.j2 (zl.l1 d_ i_ X1 k_0) l7 k9) 1))∧(((e15.1==6))=false→(((e15.1==7))=true→∃k39,zl.l2 l7 e15 (zl.j2 (zl.l1 d_ i_ X1 k_0) l7 k9) k39 0 e15.2.2.2.1)∧(((e15.1==7))=false→(zl.j2 (zl.l1 d_ i_ X1 k_0) l7 k9) 0))))))∧((decide (k9≤i_))=false→X1 l7)
def zl (d_:SDesc) (i_:Int) (r_:Int):Prop:=∃k10,zl.l1 d_ i_ (zl.j1 i_ r_) k10 ([]:(List Int)) 0
def zb4.j1 (r_:(Int × Bool)):Prop:=r_=(0,false)
def zb4.l1 (d_:SDesc) (r_:(Int × Bool)) (X1:Prop):Nat→Int→Prop
 | 0,_=>False
 | k_0+1,i3=>((decide (i3<(d_.length:Int)))=true→∃e9:SNode,at? d_ i3=some e9∧∃e11:SNode,(((((e9.1==6)||(e9.1==7)))=true)→at? d_ i3=some e11)∧∃r13:Int,(((((e9.1==6)||(e9.1==7)))=true)→zl d_ e11.2.1 r13)∧(((((e9.1==6)||(e9.1==7))&&(r13 != 0)))=true→r_=(i3,true))∧(((((e9.1==6)||(e9.1==7))&&(r13 != 0)))=false→(InR .i64 (i3+1))∧zb4.l1 d_ r_ X1 k_0 (i3+1)))∧((decide (i3<(d_.length:Int)))=false→X1)
def zb4 (d_:SDesc) (r_:(Int × Bool)):Prop:=∃k4,zb4.l1 d_ r_ (zb4.j1 r_) k4 0
def zib (d_:SDesc) (r_:Bool):Prop:=∃r2:Bool,zjl d_ r2∧(((!r2))=true→r_=false)∧(((!r2))=false→∃r4:(Int × Bool),zb4 d_ r4∧r_=(!r4.2))
set_option maxRecDepth 100000
set_option maxHeartbeats 2000000
set_option synthInstance.maxSize 100000
set_option synthInstance.maxHeartbeats 200000
theorem zq9 {d_:SDesc} {i_:Int} {r_:Int} (h:zl d_ i_ r_):Fn Tryz.prog 86 [(Pd.rep En.SDesc d_),(Pi i_)] (Rq (Pi r_)):=by
 unfold zl at h;refine zbo Tryz.func86 J Tryz.ntmps86 (by rfl) (by simp) fun s0 a L=>?_;refine rA 2 L fun a s L=>?_;refine rs (sno (En.int .i64) 3 L fun a s L=>?_);refine es (wp_seq_k fun K1 H1=>?_);refine rA 1 L fun a s L=>?_;refine wp_block ?_;have J4:∀(l2:(List Int)) (og3:Option Nat) (a:Act) (s:St),Has N0 96 s0 a s [(1,(Pi i_)),(5,(Pd.row (En.int .i64) s0.w.heap.size 3 og3 l2))]→((zl.j1 i_ r_) l2)→K1 a s.w:=by
  intro l2 og3 a s L h;unfold zl.j1 at h;show K1 a s.w;refine H1 _ _ ?_;obtain ⟨e5,h6,h⟩:=h;refine ra 5 (p1 h6) L fun a s L=>?_;subst h;exact wp_ret (zdr J L J)
 obtain ⟨k10,h⟩:=h;refine lpn (fun k11 a s=>∃(l7:(List Int)) (k9:Int) (og8:Option Nat),Has N0 96 s0 a s [(1,(Pi i_)),(2,(Pd.ptr En.SDesc d_)),(5,(Pd.row (En.int .i64) s0.w.heap.size 3 og8 l7)),(6,(Pi k9))]∧zl.l1 d_ i_ (zl.j1 i_ r_) k11 l7 k9) k10 ⟨([]:(List Int)),0,none,L.kk,h⟩ ?_;rintro k11 a s ⟨l7,k9,og8,L,h⟩ KL12 hKL12;unfold zl.l1 at h;refine wp_seq_k fun K13 H13=>rA 3 L fun a s L=>?_;refine cn L h (fun h=>?_) fun h=>?_
 ·refine wp_skip (H13 _ _ ?_);refine wp_seq_k fun K14 H14=>wp_block ?_;obtain ⟨e15,h16,h⟩:=h;refine rs (sl 5 (p1 h16) L fun a s L=>?_);have lt_d18:=L.rlt 5 rfl;refine zbb En.SNode (z:=(0,0,0,0,0,(0#256),([]:Str))) 7 L zkk J J J J fun a s g17 hg_ L=>?_;have d18:=Dis.newg hg_ lt_d18;refine sB 7 L fun s L=>?_;refine es (rA 1 L fun a s L=>?_);refine wp_seq_k fun K19 H19=>rA 2 L fun a s L=>?_;refine wp_block (rA 2 L fun a s L=>?_);have J21:∀(w20:Int) (a:Act) (s:St),Has N0 96 s0 a s [(1,(Pi i_)),(2,(Pd.ptr En.SDesc d_)),(5,(Pd.row (En.int .i64) s0.w.heap.size 3 og8 l7)),(6,(Pi k9)),(8,(Pi w20))]→((zl.j2 (zl.l1 d_ i_ (zl.j1 i_ r_) k11) l7 k9) w20)→K19 a s.w:=by
   intro w20 a s L h;unfold zl.j2 at h;show K19 a s.w;refine H19 _ _ ?_;obtain ⟨h22,h⟩:=h;refine rg (sA 4 L fun a s L=>?_);refine zeb 91 L op op Ud.h Tq.h h22 J J J J ka fun a s og23 hg_ L=>?_;refine sA 1 L fun a s L=>?_;refine en' (H14 _ _ ?_);obtain ⟨h24,h⟩:=h;refine rg (sA 3 L fun a s L=>?_);refine en' ?_;exact hKL12 a s ⟨(l7++[(min 2 w20)]),(k9+1),og23,L.kk,h⟩
  refine cn L h (fun h=>?_) fun h=>?_
  ·refine rg ?_;refine sA 1 L fun a s L=>?_;refine en' ?_;exact J21 1 a s (L.kk) h
  ·refine rA 2 L fun a s L=>?_;refine cn L h (fun h=>?_) fun h=>?_
   ·obtain ⟨e25,h26,e27,h28,h29,h⟩:=h;refine rdx 11 (pp h26 (p1 h28)) L fun a s L=>?_;refine sA 1 L fun a s L=>?_;refine en' ?_;exact J21 (e25*e27) a s (L.kk) h
   ·refine rA 2 L fun a s L=>?_;refine cn L h (fun h=>?_) fun h=>?_
    ·obtain ⟨e30,h31,e32,h33,h34,h⟩:=h;refine rdx 11 (pp h31 (p1 h33)) L fun a s L=>?_;refine sA 1 L fun a s L=>?_;refine en' ?_;exact J21 (e30+e32) a s (L.kk) h
    ·refine rA 2 L fun a s L=>?_;refine cn L h (fun h=>?_) fun h=>?_
     ·refine rA 1 L fun a s L=>?_;obtain ⟨e35,h36,h⟩:=h;refine ra 6 (p1 h36) L fun a s L=>?_;refine cn L h (fun h=>?_) fun h=>?_
      ·refine rg ?_;refine sA 1 L fun a s L=>?_;refine en' ?_;exact J21 2 a s (L.kk) h
      ·refine wp_skip ?_;exact J21 1 a s (L.kk) h
     ·refine rA 2 L fun a s L=>?_;refine cn L h (fun h=>?_) fun h=>?_
      ·refine rA 3 L fun a s L=>?_;refine wp_block ?_;obtain ⟨k39,h⟩:=h;refine lpn (fun k40 a s=>∃(w37:Int) (t38:Int),Has N0 96 s0 a s [(1,(Pi i_)),(2,(Pd.ptr En.SDesc d_)),(5,(Pd.row (En.int .i64) s0.w.heap.size 3 og8 l7)),(6,(Pi k9)),(7,(Pd.box En.SNode s0.w.heap.size g17 e15)),(8,(Pi w37)),(9,(Pi t38))]∧Dis og8 (some g17)∧zl.l2 l7 e15 (zl.j2 (zl.l1 d_ i_ (zl.j1 i_ r_) k11) l7 k9) k40 w37 t38) k39 ⟨0,e15.2.2.2.1,L.kk,(Dis.symm d18),h⟩ ?_;rintro k40 a s ⟨w37,t38,L,d42,h⟩ KL41 hKL41;unfold zl.l2 at h;refine wp_seq_k fun K43 H43=>rA 4 L fun a s L=>?_;refine cn L h (fun h=>?_) fun h=>?_
       ·refine wp_skip (H43 _ _ ?_);refine wp_seq_k fun K44 H44=>wp_block (rA 1 L fun a s L=>?_);refine wp_seq_k fun K45 H45=>rA 1 L fun a s L=>?_;refine wp_block ?_;have J47:∀(p46:Int) (a:Act) (s:St),Has N0 96 s0 a s [(1,(Pi i_)),(2,(Pd.ptr En.SDesc d_)),(5,(Pd.row (En.int .i64) s0.w.heap.size 3 og8 l7)),(6,(Pi k9)),(7,(Pd.box En.SNode s0.w.heap.size g17 e15)),(8,(Pi w37)),(9,(Pi t38)),(10,(Pi p46))]→Dis og8 (some g17)→((zl.j3 (zl.l2 l7 e15 (zl.j2 (zl.l1 d_ i_ (zl.j1 i_ r_) k11) l7 k9) k40) w37 t38) p46)→K45 a s.w:=by
         intro p46 a s L d48 h;unfold zl.j3 at h;show K45 a s.w;refine H45 _ _ ?_;obtain ⟨h49,h⟩:=h;refine rg (sA 5 L fun a s L=>?_);refine en' (H44 _ _ ?_);obtain ⟨h50,h⟩:=h;refine rg (sA 3 L fun a s L=>?_);refine en' ?_;exact hKL41 a s ⟨(min 2 (w37+p46)),(t38+1),L.kk,d48,h⟩
        obtain ⟨k53,h⟩:=h;refine lpn (fun k54 a s=>∃(p51:Int) (m52:Int),Has N0 96 s0 a s [(1,(Pi i_)),(2,(Pd.ptr En.SDesc d_)),(5,(Pd.row (En.int .i64) s0.w.heap.size 3 og8 l7)),(6,(Pi k9)),(7,(Pd.box En.SNode s0.w.heap.size g17 e15)),(8,(Pi w37)),(9,(Pi t38)),(10,(Pi p51)),(11,(Pi m52))]∧Dis og8 (some g17)∧zl.l3 l7 e15 t38 (zl.j3 (zl.l2 l7 e15 (zl.j2 (zl.l1 d_ i_ (zl.j1 i_ r_) k11) l7 k9) k40) w37 t38) k54 p51 m52) k53 ⟨1,0,L.kk,d42,h⟩ ?_;rintro k54 a s ⟨p51,m52,L,d56,h⟩ KL55 hKL55;unfold zl.l3 at h;refine wp_seq_k fun K57 H57=>rA 3 L fun a s L=>?_;refine cn L h (fun h=>?_) fun h=>?_
        ·refine wp_skip (H57 _ _ ?_);refine wp_seq_k fun K58 H58=>wp_block ?_;obtain ⟨e59,h60,h61,h⟩:=h;refine rg (sl 9 (p1 h60) L fun a s L=>?_);refine en' (H58 _ _ ?_);obtain ⟨h62,h⟩:=h;refine rg (sA 3 L fun a s L=>?_);refine en' ?_;exact hKL55 a s ⟨(min 2 (p51*e59)),(m52+1),L.kk,d56,h⟩
        ·refine wp_exit ?_;exact J47 p51 a s (L.kk) d56 h
       ·refine wp_exit ?_;exact J21 w37 a s (L.kk) h
      ·refine wp_skip ?_;exact J21 0 a s (L.kk) h
 ·refine wp_exit ?_;exact J4 l7 og8 a s (L.kk) h
theorem zpi {d_:SDesc} {r_:(Int × Bool)} (h:zb4 d_ r_):Fn Tryz.prog 50 [(Pd.rep En.SDesc d_)] (Rq2 (Pi r_.1) (Pd.rep En.bool r_.2)):=by
 unfold zb4 at h;refine zbo Tryz.func50 J Tryz.ntmps50 (by rfl) (by simp) fun s0 a L=>?_;refine rA 3 L fun a s L=>?_;refine wp_seq_k fun K1 H1=>rA 1 L fun a s L=>?_;refine wp_block ?_;have J2:∀(a:Act) (s:St),Has N0 37 s0 a s []→((zb4.j1 r_))→K1 a s.w:=by
  intro a s L h;unfold zb4.j1 at h;show K1 a s.w;refine H1 _ _ (rA 2 L fun a s L=>?_);subst h;exact wp_ret (zn0 J L J J)
 obtain ⟨k4,h⟩:=h;refine lpn (fun k5 a s=>∃(i3:Int),Has N0 37 s0 a s [(1,(Pd.ptr En.SDesc d_)),(4,(Pi i3))]∧zb4.l1 d_ r_ (zb4.j1 r_) k5 i3) k4 ⟨0,L.kk,h⟩ ?_;rintro k5 a s ⟨i3,L,h⟩ KL6 hKL6;unfold zb4.l1 at h;refine wp_seq_k fun K7 H7=>rA 5 L fun a s L=>?_;refine cn L h (fun h=>?_) fun h=>?_
 ·refine wp_skip (H7 _ _ ?_);refine wp_seq_k fun K8 H8=>wp_block ?_;obtain ⟨e9,h10,h⟩:=h;refine ra 7 (p1 h10) L fun a s L=>?_;obtain ⟨e11,h12,r13,h14,h⟩:=h;refine wp_seq (rdx 17 (pp h12 (pp (fun hc_=>(zq9 (h14 hc_))) trivial)) L fun a s L=>?_);refine es (cn L h (fun h=>?_) fun h=>?_)
  ·refine rA 3 L fun a s L=>?_;subst h;exact wp_ret (zn0 J L J J)
  ·refine wp_skip (H8 _ _ ?_);obtain ⟨h15,h⟩:=h;refine rg (sA 3 L fun a s L=>?_);refine en' ?_;exact hKL6 a s ⟨(i3+1),L.kk,h⟩
 ·refine wp_exit ?_;exact J2 a s (L.kk) h
theorem zph {d_:SDesc} {r_:Bool} (h:zib d_ r_):Fn Tryz.prog 14 [(Pd.rep En.SDesc d_)] (Rq (Pd.rep En.bool r_)):=by
 unfold zib at h;refine zbo Tryz.func14 J Tryz.ntmps14 (by rfl) (by simp) fun s0 a L=>?_;refine rA 2 L fun a s L=>?_;refine wp_seq_k fun K1 H1=>?_;obtain ⟨r2,h3,h⟩:=h;refine ra 3 (p1 (zrd h3)) L fun a s L=>?_;refine cn L h (fun h=>?_) fun h=>?_
 ·refine rA 1 L fun a s L=>?_;subst h;exact wp_ret (zdr J L J)
 ·refine wp_skip (H1 _ _ ?_);obtain ⟨r4,h5,h⟩:=h;refine ra 7 (p1 ((zpi h5).tup)) L fun a s L=>?_;refine rA 3 L fun a s L=>?_;subst h;exact wp_ret (zdr J L J)
def zef (nv_:Int) (r_:Int):Prop:=((decide (1099511627776<nv_))=true→r_=(-1))∧((decide (1099511627776<nv_))=false→r_=nv_)
def zba.j1 (r_:(Int × Int)):Prop:=r_=((-1),(-1))
def zba.l1 (e1:SNode) (r_:(Int × Int)) (X1:Prop):Nat→Int→Prop
 | 0,_=>False
 | k_0+1,k8=>((decide (k8<4))=true→(0≤k8∧k8<4)∧((((Cl.w e1.2.2.2.2.2.1 k8) != 0))=true→r_=(1,1))∧((((Cl.w e1.2.2.2.2.2.1 k8) != 0))=false→(InR .i64 (k8+1))∧zba.l1 e1 r_ X1 k_0 (k8+1)))∧((decide (k8<4))=false→X1)
def zba.j2 (r_:(Int × Int)) (r17:(Int × Int)) (head45:Int) (b53:Int):Prop:=(InR .i64 (r17.1+head45))∧(InR .i64 (b53+head45))∧r_=(r17.1+head45,b53+head45)
def zba.j3 (r_:(Int × Int)) (r17:(Int × Int)) (most44:Int) (head45:Int):Prop:=∃b48:Bool,b48=((decide (r17.1<0))||(decide (most44<r17.1)))∧((b48)=true→r_=((-1),(-1)))∧((b48)=false→∃b51:Bool,b51=((decide (r17.2<0))||(decide (most44<r17.2)))∧((b51)=true→(zba.j2 r_ r17 head45) most44)∧((b51)=false→(zba.j2 r_ r17 head45) r17.2))
def zba.n:Nat→SDesc→Int→(Int × Int)→Prop
 | 0,_,_,_=>False
 | k_+1,d_,i_,r_=>∃e1:SNode,at? d_ i_=some e1∧(((e1.1==1))=true→r_=(0,0))∧(((e1.1==1))=false→(((e1.1==2))=true→∃k9,zba.l1 e1 r_ (zba.j1 r_) k9 0)∧(((e1.1==2))=false→(((e1.1==3))=true→r_=((e1.2.2.2.2.2.2.length:Int),(e1.2.2.2.2.2.2.length:Int)))∧(((e1.1==3))=false→∃r17:(Int × Int),zba.n k_ d_ e1.2.1 r17∧(((e1.1==4))=true→∃r20:(Int × Int),zba.n k_ d_ e1.2.2.1 r20∧((((decide (r17.1<0))||(decide (r20.1<0))))=true→r_=((-1),(-1)))∧((((decide (r17.1<0))||(decide (r20.1<0))))=false→(InR .i64 (r17.1+r20.1))∧((((decide (r17.2<0))||(decide (r20.2<0))))=true→r_=((min 1099511627776 (r17.1+r20.1)),(-1)))∧((((decide (r17.2<0))||(decide (r20.2<0))))=false→(InR .i64 (r17.2+r20.2))∧∃r26:Int,zef (r17.2+r20.2) r26∧r_=((min 1099511627776 (r17.1+r20.1)),r26))))∧(((e1.1==4))=false→(((e1.1==5))=true→∃r28:(Int × Int),zba.n k_ d_ e1.2.2.1 r28∧((decide (r17.1<0))=true→r_=(r28.1,r28.2))∧((decide (r17.1<0))=false→((decide (r28.1<0))=true→r_=(r17.1,r17.2))∧((decide (r28.1<0))=false→((((decide (r17.2<0))||(decide (r28.2<0))))=true→r_=((min r17.1 r28.1),(-1)))∧((((decide (r17.2<0))||(decide (r28.2<0))))=false→r_=((min r17.1 r28.1),(max r17.2 r28.2))))))∧(((e1.1==5))=false→(((e1.1==6))=true→((((decide (r17.1<0))||(r17.2==0)))=true→r_=(0,0))∧((((decide (r17.1<0))||(r17.2==0)))=false→r_=(0,(-1))))∧(((e1.1==6))=false→(((e1.1==7))=true→∃b35:Bool,b35=((decide (r17.1<0))&&(decide (0<e1.2.2.2.1)))∧((b35)=true→r_=((-1),(-1)))∧((b35)=false→((((decide (r17.1<0))||(e1.2.2.2.2.1==0)))=true→r_=(0,0))∧((((decide (r17.1<0))||(e1.2.2.2.2.1==0)))=false→(InR .i64 (r17.1*e1.2.2.2.1))∧((decide (r17.2<0))=true→r_=((min 1099511627776 (r17.1*e1.2.2.2.1)),(-1)))∧((decide (r17.2<0))=false→(InR .i64 (r17.2*e1.2.2.2.2.1))∧∃r41:Int,zef (r17.2*e1.2.2.2.2.1) r41∧r_=((min 1099511627776 (r17.1*e1.2.2.2.1)),r41)))))∧(((e1.1==7))=false→(((e1.1==9))=true→(zba.j3 r_ r17) 65535 2)∧(((e1.1==9))=false→(zba.j3 r_ r17) 255 1))))))))
def zba (d_:SDesc) (i_:Int) (r_:(Int × Int)):Prop:=∃k_,zba.n k_ d_ i_ r_
set_option maxRecDepth 100000
set_option maxHeartbeats 2000000
set_option synthInstance.maxSize 100000
set_option synthInstance.maxHeartbeats 200000
theorem zj6 {nv_:Int} {r_:Int} (h:zef nv_ r_):Fn Tryz.prog 80 [(Pi nv_)] (Rq (Pi r_)):=by
 unfold zef at h;refine zbo Tryz.func80 J Tryz.ntmps80 (by rfl) (by simp) fun s0 a L=>?_;refine rA 1 L fun a s L=>?_;refine wp_seq_k fun K1 H1=>rA 2 L fun a s L=>?_;refine cn L h (fun h=>?_) fun h=>?_
 ·refine rA 1 L fun a s L=>?_;subst h;exact wp_ret (zdr J L J)
 ·refine wp_skip (H1 _ _ ?_);refine rA 2 L fun a s L=>?_;subst h;exact wp_ret (zdr J L J)
theorem zba.n_ok (k_:Nat):∀{d_:SDesc} {i_:Int} {r_:(Int × Int)} (h:zba.n k_ d_ i_ r_),Fn Tryz.prog 44 [(Pd.rep En.SDesc d_),(Pi i_)] (Rq2 (Pi r_.1) (Pi r_.2)):=by
 induction k_ with
 | zero=>intro d_ i_ r_ h;exact h.elim
 | succ k_ ih_=>
 intro d_ i_ r_ h;unfold zba.n at h;refine zbo Tryz.func44 J Tryz.ntmps44 (by rfl) (by simp) fun s0 a L=>?_;refine rA 3 L fun a s L=>?_;obtain ⟨e1,h2,h⟩:=h;refine rs (sl 5 (p1 h2) L fun a s L=>?_);refine zbb En.SNode (z:=(0,0,0,0,0,(0#256),([]:Str))) 6 L zkk J J J J fun a s g3 hg_ L=>?_;refine sB 6 L fun s L=>?_;refine es (wp_seq_k fun K4 H4=>?_);refine rA 3 L fun a s L=>?_;refine cn L h (fun h=>?_) fun h=>?_
 ·refine rA 2 L fun a s L=>?_;subst h;exact wp_ret (zn0 J L J J)
 ·refine wp_skip (H4 _ _ ?_);refine wp_seq_k fun K5 H5=>rA 3 L fun a s L=>?_;refine cn L h (fun h=>?_) fun h=>?_
  ·refine wp_seq_k fun K6 H6=>?_;refine rA 1 L fun a s L=>?_;refine wp_block ?_;have J7:∀(a:Act) (s:St),Has N0 181 s0 a s []→((zba.j1 r_))→K6 a s.w:=by
    intro a s L h;unfold zba.j1 at h;show K6 a s.w;refine H6 _ _ (rA 2 L fun a s L=>?_);subst h;exact wp_ret (zn0 J L J J)
   obtain ⟨k9,h⟩:=h;refine lpn (fun k10 a s=>∃(k8:Int),Has N0 181 s0 a s [(6,(Pd.box En.SNode s0.w.heap.size g3 e1)),(7,(Pi k8))]∧zba.l1 e1 r_ (zba.j1 r_) k10 k8) k9 ⟨0,L.kk,h⟩ ?_;rintro k10 a s ⟨k8,L,h⟩ KL11 hKL11;unfold zba.l1 at h;refine wp_seq_k fun K12 H12=>rA 2 L fun a s L=>?_;refine cn L h (fun h=>?_) fun h=>?_
   ·refine wp_skip (H12 _ _ ?_);refine wp_seq_k fun K13 H13=>wp_block ?_;obtain ⟨h14,h⟩:=h;refine rA 5 L fun a s L=>?_;refine cn L h (fun h=>?_) fun h=>?_
    ·refine rA 2 L fun a s L=>?_;subst h;exact wp_ret (zn0 J L J J)
    ·refine wp_skip (H13 _ _ ?_);obtain ⟨h15,h⟩:=h;refine rg (sA 3 L fun a s L=>?_);refine en' ?_;exact hKL11 a s ⟨(k8+1),L.kk,h⟩
   ·refine wp_exit ?_;exact J7 a s (L.kk) h
  ·refine wp_skip (H5 _ _ ?_);refine wp_seq_k fun K16 H16=>rA 3 L fun a s L=>?_;refine cn L h (fun h=>?_) fun h=>?_
   ·refine wp_seq ?_;replace L:=L.kk (L':=[(6,(Pd.box En.SNode s0.w.heap.size g3 e1))]);refine rdx 8 trivial L fun a s L=>?_;refine es ?_;subst h;exact wp_ret (zn0 J L J J)
   ·refine wp_skip (H16 _ _ ?_);obtain ⟨r17,h18,h⟩:=h;refine ra 9 (p1 ((ih_ h18).tup)) L fun a s L=>?_;refine wp_seq_k fun K19 H19=>rA 2 L fun a s L=>?_;refine wp_block (rA 2 L fun a s L=>?_);refine cn L h (fun h=>?_) fun h=>?_
    ·obtain ⟨r20,h21,h⟩:=h;refine ra 9 (p1 ((ih_ h21).tup)) L fun a s L=>?_;refine wp_seq_k fun K22 H22=>rA 6 L fun a s L=>?_;refine cn L h (fun h=>?_) fun h=>?_
     ·refine rA 2 L fun a s L=>?_;subst h;exact wp_ret (zn0 J L J J)
     ·refine wp_skip (H22 _ _ ?_);obtain ⟨h23,h⟩:=h;refine rA 5 L fun a s L=>?_;refine wp_seq_k fun K24 H24=>rA 6 L fun a s L=>?_;refine cn L h (fun h=>?_) fun h=>?_
      ·refine rA 3 L fun a s L=>?_;subst h;exact wp_ret (zn0 J L J J)
      ·refine wp_skip (H24 _ _ ?_);obtain ⟨h25,r26,h27,h⟩:=h;refine ra 7 (p1 (zj6 h27)) L fun a s L=>?_;subst h;exact wp_ret (zn0 J L J J)
    ·refine rA 2 L fun a s L=>?_;refine cn L h (fun h=>?_) fun h=>?_
     ·obtain ⟨r28,h29,h⟩:=h;refine ra 9 (p1 ((ih_ h29).tup)) L fun a s L=>?_;refine wp_seq_k fun K30 H30=>rA 2 L fun a s L=>?_;refine cn L h (fun h=>?_) fun h=>?_
      ·refine rA 4 L fun a s L=>?_;subst h;exact wp_ret (zn0 J L J J)
      ·refine wp_skip (H30 _ _ ?_);refine wp_seq_k fun K31 H31=>rA 2 L fun a s L=>?_;refine cn L h (fun h=>?_) fun h=>?_
       ·refine rA 4 L fun a s L=>?_;subst h;exact wp_ret (zn0 J L J J)
       ·refine wp_skip (H31 _ _ ?_);refine wp_seq_k fun K32 H32=>rA 6 L fun a s L=>?_;refine cn L h (fun h=>?_) fun h=>?_
        ·refine rA 5 L fun a s L=>?_;subst h;exact wp_ret (zn0 J L J J)
        ·refine wp_skip (H32 _ _ ?_);refine rA 8 L fun a s L=>?_;subst h;exact wp_ret (zn0 J L J J)
     ·refine rA 2 L fun a s L=>?_;refine cn L h (fun h=>?_) fun h=>?_
      ·refine wp_seq_k fun K33 H33=>?_;refine rA 6 L fun a s L=>?_;refine cn L h (fun h=>?_) fun h=>?_
       ·refine rA 2 L fun a s L=>?_;subst h;exact wp_ret (zn0 J L J J)
       ·refine wp_skip (H33 _ _ ?_);refine rA 2 L fun a s L=>?_;subst h;exact wp_ret (zn0 J L J J)
      ·refine rA 2 L fun a s L=>?_;refine cn L h (fun h=>?_) fun h=>?_
       ·refine wp_seq_k fun K34 H34=>?_;obtain ⟨b35,h36,h⟩:=h;refine ra 7 (p1 h36) L fun a s L=>?_;refine cn L h (fun h=>?_) fun h=>?_
        ·refine rA 2 L fun a s L=>?_;subst h;exact wp_ret (zn0 J L J J)
        ·refine wp_skip (H34 _ _ ?_);refine wp_seq_k fun K37 H37=>rA 7 L fun a s L=>?_;refine cn L h (fun h=>?_) fun h=>?_
         ·refine rA 2 L fun a s L=>?_;subst h;exact wp_ret (zn0 J L J J)
         ·refine wp_skip (H37 _ _ ?_);obtain ⟨h38,h⟩:=h;refine rA 6 L fun a s L=>?_;refine wp_seq_k fun K39 H39=>rA 2 L fun a s L=>?_;refine cn L h (fun h=>?_) fun h=>?_
          ·refine rA 3 L fun a s L=>?_;subst h;exact wp_ret (zn0 J L J J)
          ·refine wp_skip (H39 _ _ ?_);obtain ⟨h40,r41,h42,h⟩:=h;refine ra 8 (p1 (zj6 h42)) L fun a s L=>?_;subst h;exact wp_ret (zn0 J L J J)
       ·refine wp_skip (H19 _ _ ?_);refine rA 1 L fun a s L=>?_;refine rA 1 L fun a s L=>?_;refine wp_seq_k fun K43 H43=>rA 3 L fun a s L=>?_;have J46:∀(most44:Int) (head45:Int) (a:Act) (s:St),Has N0 181 s0 a s [(8,(Pi r17.1)),(9,(Pi r17.2)),(16,(Pi most44)),(17,(Pi head45))]→((zba.j3 r_ r17) most44 head45)→K43 a s.w:=by
         intro most44 head45 a s L h;unfold zba.j3 at h;show K43 a s.w;refine H43 _ _ (wp_seq_k fun K47 H47=>?_);obtain ⟨b48,h49,h⟩:=h;refine ra 7 (p1 h49) L fun a s L=>?_;refine cn L h (fun h=>?_) fun h=>?_
         ·refine rA 2 L fun a s L=>?_;subst h;exact wp_ret (zn0 J L J J)
         ·refine wp_skip (H47 _ _ ?_);refine wp_seq_k fun K50 H50=>?_;obtain ⟨b51,h52,h⟩:=h;refine ra 7 (p1 h52) L fun a s L=>?_;have J54:∀(b53:Int) (a:Act) (s:St),Has N0 181 s0 a s [(8,(Pi r17.1)),(9,(Pi b53)),(17,(Pi head45))]→((zba.j2 r_ r17 head45) b53)→K50 a s.w:=by
           intro b53 a s L h;unfold zba.j2 at h;show K50 a s.w;refine H50 _ _ ?_;obtain ⟨h55,h56,h⟩:=h;refine rA 8 L fun a s L=>?_;subst h;exact wp_ret (zn0 J L J J)
          refine cn L h (fun h=>?_) fun h=>?_
          ·refine rg ?_;refine sA 2 L fun a s L=>?_;refine en' ?_;exact J54 most44 a s (L.kk) h
          ·refine wp_skip ?_;exact J54 r17.2 a s (L.kk) h
        refine cn L h (fun h=>?_) fun h=>?_
        ·refine rA 1 L fun a s L=>?_;refine rg (sA 1 L fun a s L=>?_);refine en' ?_;exact J46 65535 2 a s (L.kk) h
        ·refine wp_skip ?_;exact J46 255 1 a s (L.kk) h
theorem zq8 {d_:SDesc} {i_:Int} {r_:(Int × Int)} (h:zba d_ i_ r_):Fn Tryz.prog 44 [(Pd.rep En.SDesc d_),(Pi i_)] (Rq2 (Pi r_.1) (Pi r_.2)):=by
 obtain ⟨k_,h⟩:=h;exact zba.n_ok k_ h
def ze7 (w_:(List Int)) (r_:(List Int)):Prop:=(InR .i64 ((w_.length:Int)+1))∧(0≤((w_.length:Int)+1)∧((w_.length:Int)+1)≤16777216)∧r_=(List.replicate ((w_.length:Int)+1:Int).toNat 0)
def zb1.j1 (r_:(List Int)) (out5:(List Int)):Prop:=r_=out5
def zb1.l1 (b_:(List Int)) (times_:Int) (X1:(List Int)→Prop):Nat→(List Int)→Int→Prop
 | 0,_,_=>False
 | k_0+1,out8,i10=>((decide (i10<(b_.length:Int)))=true→∃e16:Int,at? out8 i10=some e16∧∃e18:Int,at? b_ i10=some e18∧(InR .i64 (times_*e18))∧(InR .i64 (e16+(times_*e18)))∧∃e22:Int,at? out8 i10=some e22∧(InR .i64 (i10+1))∧zb1.l1 b_ times_ X1 k_0 (out8.set (i10:Int).toNat (min 2 (e16+(times_*e18)))) (i10+1))∧((decide (i10<(b_.length:Int)))=false→X1 out8)
def zb1 (a_:(List Int)) (b_:(List Int)) (times_:Int) (r_:(List Int)):Prop:=(([]:(List Int)).length+a_.length≤2147483648)∧∃k11,zb1.l1 b_ times_ (zb1.j1 r_) k11 (([]:(List Int))++a_) 0
def ref12_through.j1 (r_:(List Int)) (out5:(List Int)):Prop:=r_=out5
def ref12_through.l1 (n_:SDesc→Int→(List Int)→Int→(List Int)→Prop) (d_:SDesc) (i_:Int) (w_:(List Int)) (a_:(List Int)) (X1:(List Int)→Prop):Nat→(List Int)→Int→Prop
 | 0,_,_=>False
 | k_0+1,out8,k10=>((decide (k10<(a_.length:Int)))=true→∃e16:Int,at? a_ k10=some e16∧((decide (0<e16))=true→∃r18:(List Int),n_ d_ i_ w_ k10 r18∧∃e20:Int,at? a_ k10=some e20∧∃r22:(List Int),zb1 out8 r18 e20 r22∧(InR .i64 (k10+1))∧ref12_through.l1 n_ d_ i_ w_ a_ X1 k_0 r22 (k10+1))∧((decide (0<e16))=false→(InR .i64 (k10+1))∧ref12_through.l1 n_ d_ i_ w_ a_ X1 k_0 out8 (k10+1)))∧((decide (k10<(a_.length:Int)))=false→X1 out8)
def ref12_through.b (n_:SDesc→Int→(List Int)→Int→(List Int)→Prop) (d_:SDesc) (i_:Int) (w_:(List Int)) (a_:(List Int)) (r_:(List Int)):Prop:=∃r1:(List Int),ze7 w_ r1∧∃k11,ref12_through.l1 n_ d_ i_ w_ a_ (ref12_through.j1 r_) k11 r1 0
def ref12_times.j1 (r_:(List Int)) (out11:(List Int)):Prop:=r_=out11
def ref12_times.j2 (L1_:(List Int)→(List Int)→Int→Prop) (t18:Int) (out27:(List Int)) (next36:(List Int)):Prop:=(InR .i64 (t18+1))∧L1_ next36 out27 (t18+1)
def ref12_times.l2 (n_:SDesc→Int→(List Int)→Int→(List Int)→Prop) (d_:SDesc) (i_:Int) (w_:(List Int)) (now14:(List Int)) (X2:(List Int)→Prop):Nat→(List Int)→Int→Prop
 | 0,_,_=>False
 | k_0+1,next41,k43=>((decide (k43<(now14.length:Int)))=true→∃e50:Int,at? now14 k43=some e50∧((decide (0<e50))=true→∃r52:(List Int),n_ d_ i_ w_ k43 r52∧∃e57:Int,at? r52 k43=some e57∧∃e59:Int,at? now14 k43=some e59∧∃r61:(List Int),zb1 next41 (r52.set (k43:Int).toNat 0) e59 r61∧(InR .i64 (k43+1))∧ref12_times.l2 n_ d_ i_ w_ now14 X2 k_0 r61 (k43+1))∧((decide (0<e50))=false→(InR .i64 (k43+1))∧ref12_times.l2 n_ d_ i_ w_ now14 X2 k_0 next41 (k43+1)))∧((decide (k43<(now14.length:Int)))=false→X2 next41)
def ref12_times.j3 (n_:SDesc→Int→(List Int)→Int→(List Int)→Prop) (L1_:(List Int)→(List Int)→Int→Prop) (d_:SDesc) (i_:Int) (w_:(List Int)) (hi_:Int) (r_:(List Int)) (now14:(List Int)) (t18:Int) (out27:(List Int)):Prop:=(((t18==hi_))=true→(ref12_times.j1 r_) out27)∧(((t18==hi_))=false→∃r31:(List Int),ze7 w_ r31∧∃k44,ref12_times.l2 (n_) d_ i_ w_ now14 (ref12_times.j2 (L1_) t18 out27) k44 r31 0)
def ref12_times.l1 (n_:SDesc→Int→(List Int)→Int→(List Int)→Prop) (d_:SDesc) (i_:Int) (w_:(List Int)) (lo_:Int) (hi_:Int) (r_:(List Int)) (X1:(List Int)→Prop):Nat→(List Int)→(List Int)→Int→Prop
 | 0,_,_,_=>False
 | k_0+1,now14,out16,t18=>(InR .i64 ((w_.length:Int)+1))∧((decide (t18≤(w_.length:Int)+1))=true→((decide (lo_≤t18))=true→∃r67:(List Int),zb1 out16 now14 1 r67∧(ref12_times.j3 (n_) (ref12_times.l1 n_ d_ i_ w_ lo_ hi_ r_ X1 k_0) d_ i_ w_ hi_ r_ now14 t18) r67)∧((decide (lo_≤t18))=false→(ref12_times.j3 (n_) (ref12_times.l1 n_ d_ i_ w_ lo_ hi_ r_ X1 k_0) d_ i_ w_ hi_ r_ now14 t18) out16))∧((decide (t18≤(w_.length:Int)+1))=false→X1 out16)
def ref12_times.b (n_:SDesc→Int→(List Int)→Int→(List Int)→Prop) (d_:SDesc) (i_:Int) (w_:(List Int)) (from_:Int) (lo_:Int) (hi_:Int) (r_:(List Int)):Prop:=∃r1:(List Int),ze7 w_ r1∧∃e4:Int,at? r1 from_=some e4∧∃r6:(List Int),ze7 w_ r6∧∃k19,ref12_times.l1 n_ d_ i_ w_ lo_ hi_ r_ (ref12_times.j1 r_) k19 (r1.set (from_:Int).toNat 1) r6 0
def zcg.n:Nat→SDesc→Int→(List Int)→Int→(List Int)→Prop
 | 0,_,_,_,_,_=>False
 | k_+1,d_,i_,w_,from_,r_=>∃e1:SNode,at? d_ i_=some e1∧∃r4:(List Int),ze7 w_ r4∧(((e1.1==1))=true→∃e9:Int,at? r4 from_=some e9∧r_=(r4.set (from_:Int).toNat 1))∧(((e1.1==1))=false→(((e1.1==2))=true→∃e11:Int,(((decide (from_<(w_.length:Int)))=true)→at? w_ from_=some e11)∧∃r13:Bool,(((decide (from_<(w_.length:Int)))=true)→zcu e1.2.2.2.2.2.1 e11 r13)∧((((decide (from_<(w_.length:Int)))&&r13))=true→(InR .i64 (from_+1))∧∃e16:Int,at? r4 (from_+1)=some e16∧r_=(r4.set (from_+1:Int).toNat 1))∧((((decide (from_<(w_.length:Int)))&&r13))=false→r_=r4))∧(((e1.1==2))=false→(((e1.1==3))=true→(InR .i64 (from_+(e1.2.2.2.2.2.2.length:Int)))∧∃b19:Bool,b19=(decide (from_+(e1.2.2.2.2.2.2.length:Int)≤(w_.length:Int)))∧(((b19)=true)→InR .i64 (from_+(e1.2.2.2.2.2.2.length:Int)))∧(((b19)=true)→(0:Int)≤from_∧from_≤(from_+(e1.2.2.2.2.2.2.length:Int))∧(from_+(e1.2.2.2.2.2.2.length:Int))≤(w_.length:Int))∧∃b23:Bool,b23=((zmy ((w_.take (from_+(e1.2.2.2.2.2.2.length:Int):Int).toNat).drop (from_:Int).toNat))==e1.2.2.2.2.2.2)∧(((b19&&b23))=true→(InR .i64 (from_+(e1.2.2.2.2.2.2.length:Int)))∧∃e26:Int,at? r4 (from_+(e1.2.2.2.2.2.2.length:Int))=some e26∧r_=(r4.set (from_+(e1.2.2.2.2.2.2.length:Int):Int).toNat 1))∧(((b19&&b23))=false→r_=r4))∧(((e1.1==3))=false→(((e1.1==4))=true→∃r28:(List Int),zcg.n k_ d_ e1.2.1 w_ from_ r28∧∃r30:(List Int),ref12_through.b (zcg.n k_) d_ e1.2.2.1 w_ r28 r30∧r_=r30)∧(((e1.1==4))=false→(((e1.1==5))=true→∃r35:(List Int),zcg.n k_ d_ e1.2.1 w_ from_ r35∧∃r37:(List Int),zcg.n k_ d_ e1.2.2.1 w_ from_ r37∧∃r39:(List Int),zb1 r35 r37 1 r39∧r_=r39)∧(((e1.1==5))=false→(((e1.1==6))=true→∃r44:(List Int),ref12_times.b (zcg.n k_) d_ e1.2.1 w_ from_ 0 (-1) r44∧r_=r44)∧(((e1.1==6))=false→(((e1.1==7))=true→∃r49:(List Int),ref12_times.b (zcg.n k_) d_ e1.2.1 w_ from_ e1.2.2.2.1 e1.2.2.2.2.1 r49∧r_=r49)∧(((e1.1==7))=false→(((e1.1==8))=true→((decide (from_<(w_.length:Int)))=true→(InR .i64 (from_+1))∧∃e55:Int,at? w_ from_=some e55∧(InR .i64 ((from_+1)+e55))∧((decide ((from_+1)+e55≤(w_.length:Int)))=true→((0:Int)≤((from_+1)+e55)∧((from_+1)+e55)≤(w_.length:Int))∧(InR .i64 (from_+1))∧∃r60:(List Int),zcg.n k_ d_ e1.2.1 (w_.take ((from_+1)+e55:Int).toNat) (from_+1) r60∧∃e62:Int,at? r60 ((from_+1)+e55)=some e62∧∃e64:Int,at? r4 ((from_+1)+e55)=some e64∧r_=(r4.set ((from_+1)+e55:Int).toNat e62))∧((decide ((from_+1)+e55≤(w_.length:Int)))=false→r_=r4))∧((decide (from_<(w_.length:Int)))=false→r_=r4))∧(((e1.1==8))=false→(((e1.1==9))=true→(InR .i64 (from_+1))∧((decide (from_+1<(w_.length:Int)))=true→(InR .i64 (from_+2))∧∃e68:Int,at? w_ from_=some e68∧(InR .i64 (256*e68))∧(InR .i64 ((from_+2)+(256*e68)))∧(InR .i64 (from_+1))∧∃e73:Int,at? w_ (from_+1)=some e73∧(InR .i64 (((from_+2)+(256*e68))+e73))∧∃b76:Bool,b76=(decide (((from_+2)+(256*e68))+e73≤(w_.length:Int)))∧((b76)=true→((0:Int)≤(((from_+2)+(256*e68))+e73)∧(((from_+2)+(256*e68))+e73)≤(w_.length:Int))∧(InR .i64 (from_+2))∧∃r80:(List Int),zcg.n k_ d_ e1.2.1 (w_.take (((from_+2)+(256*e68))+e73:Int).toNat) (from_+2) r80∧∃e82:Int,at? r80 (((from_+2)+(256*e68))+e73)=some e82∧∃e84:Int,at? r4 (((from_+2)+(256*e68))+e73)=some e84∧r_=(r4.set (((from_+2)+(256*e68))+e73:Int).toNat e82))∧((b76)=false→r_=r4))∧((decide (from_+1<(w_.length:Int)))=false→r_=r4))∧(((e1.1==9))=false→r_=r4)))))))))
def zcg (d_:SDesc) (i_:Int) (w_:(List Int)) (from_:Int) (r_:(List Int)):Prop:=∃k_,zcg.n k_ d_ i_ w_ from_ r_
def zjj (d_:SDesc) (w_:(List Int)) (r_:Int):Prop:=(InR .i64 ((d_.length:Int)-1))∧∃r2:(List Int),zcg d_ ((d_.length:Int)-1) w_ 0 r2∧∃e4:Int,at? r2 (w_.length:Int)=some e4∧r_=e4
set_option maxRecDepth 100000
set_option maxHeartbeats 2000000
set_option synthInstance.maxSize 100000
set_option synthInstance.maxHeartbeats 200000
theorem zfg {w_:(List Int)} {r_:(List Int)} (h:ze7 w_ r_):Fn Tryz.prog 107 [(Pd.rep (En.slice (En.int .u8)) w_)] (Ro (En.int .i64) 3 r_):=by
 unfold ze7 at h;refine zbo Tryz.func107 J Tryz.ntmps107 (by rfl) (by simp) fun s0 a L=>?_;refine rs (sno (En.int .i64) 3 L fun a s L=>?_);refine es ?_;obtain ⟨h1,h3,h⟩:=h;refine rs (sA 3 L fun a s L=>?_);refine st_makev (En.int .i64) (z:=0) (m:=(w_.length:Int)+1) 6 L op op h3 Ud.h Tq.h tyz3 J J J J fun a s g2 hg_ L=>?_;refine sA 1 L fun a s L=>?_;refine es ?_;subst h;exact wp_ret (zf4 J L J)
theorem zgb {a_:(List Int)} {b_:(List Int)} {times_:Int} {r_:(List Int)} (h:zb1 a_ b_ times_ r_):Fn Tryz.prog 110 [(Pd.rep (En.slice (En.int .i64)) a_),(Pd.rep (En.slice (En.int .i64)) b_),(Pi times_)] (Ro (En.int .i64) 3 r_):=by
 unfold zb1 at h;refine zbo Tryz.func110 J Tryz.ntmps110 (by rfl) (by simp) fun s0 a L=>?_;refine rs (sno (En.int .i64) 3 L fun a s L=>?_);refine es ?_;obtain ⟨h2,h⟩:=h;refine rs (st_new (En.int .i64) 9 L Ud.h Tq.h J J J J fun a s g1 hg_ L=>?_);refine sA 1 L fun a s L=>?_;refine zeb 11 L op op Ud.h Tq.h h2 J J J J ka fun a s og3 hg_ L=>?_;refine sA 1 L fun a s L=>?_;refine es (wp_seq_k fun K4 H4=>?_);refine rA 1 L fun a s L=>?_;refine wp_block ?_;have J7:∀(out5:(List Int)) (og6:Option Nat) (a:Act) (s:St),Has N0 34 s0 a s [(7,(Pd.row (En.int .i64) s0.w.heap.size 3 og6 out5))]→((zb1.j1 r_) out5)→K4 a s.w:=by
  intro out5 og6 a s L h;unfold zb1.j1 at h;show K4 a s.w;refine H4 _ _ (rA 2 L fun a s L=>?_);subst h;exact wp_ret (zf4 J L J)
 obtain ⟨k11,h⟩:=h;refine lpn (fun k12 a s=>∃(out8:(List Int)) (i10:Int) (og9:Option Nat),Has N0 34 s0 a s [(1,(Pd.rep (En.slice (En.int .i64)) b_)),(2,(Pi times_)),(7,(Pd.row (En.int .i64) s0.w.heap.size 3 og9 out8)),(8,(Pi i10))]∧zb1.l1 b_ times_ (zb1.j1 r_) k12 out8 i10) k11 ⟨(([]:(List Int))++a_),0,og3,L.kk,h⟩ ?_;rintro k12 a s ⟨out8,i10,og9,L,h⟩ KL13 hKL13;unfold zb1.l1 at h;refine wp_seq_k fun K14 H14=>rA 4 L fun a s L=>?_;refine cn L h (fun h=>?_) fun h=>?_
 ·refine wp_skip (H14 _ _ ?_);refine wp_seq_k fun K15 H15=>wp_block ?_;obtain ⟨e16,h17,e18,h19,h20,h21,e22,h23,h⟩:=h;refine rdx 15 (pp h17 (pp h19 (p1 h23))) L fun a s L=>?_;refine zgk (off:=0) 7 L J h23 op op (zp _ _ _) Tq.h J J J kw fun s L=>?_;refine en' (H15 _ _ ?_);obtain ⟨h24,h⟩:=h;refine rg (sA 3 L fun a s L=>?_);refine en' ?_;exact hKL13 a s ⟨(out8.set (i10:Int).toNat (min 2 (e16+(times_*e18)))),(i10+1),og9,L.kk,h⟩
 ·refine wp_exit ?_;exact J7 out8 og9 a s (L.kk) h
theorem ref12_through.b_ok {n_:SDesc→Int→(List Int)→Int→(List Int)→Prop} (ih_:∀{y0_:SDesc} {y1_:Int} {y2_:(List Int)} {y3_:Int} {r_:(List Int)} (h:n_ y0_ y1_ y2_ y3_ r_),Fn Tryz.prog 68 [Pd.rep En.SDesc y0_,Pd.rep (En.int .i64) y1_,Pd.rep (En.slice (En.int .u8)) y2_,Pd.rep (En.int .i64) y3_] (Ro (En.int .i64) 3 r_)) {d_:SDesc} {i_:Int} {w_:(List Int)} {a_:(List Int)} {r_:(List Int)} (h:ref12_through.b n_ d_ i_ w_ a_ r_):Fn Tryz.prog 109 [(Pd.rep En.SDesc d_),(Pi i_),(Pd.rep (En.slice (En.int .u8)) w_),(Pd.rep (En.slice (En.int .i64)) a_)] (Ro (En.int .i64) 3 r_):=by
 unfold ref12_through.b at h;refine zbo Tryz.func109 J Tryz.ntmps109 (by rfl) (by simp) fun s0 a L=>?_;refine rs (sA 1 L fun a s L=>?_);refine sno (En.int .i64) 3 L fun a s L=>?_;refine es ?_;obtain ⟨r1,h2,h⟩:=h;refine rs (sA 1 L fun a s L=>?_);refine zch 12 L (zfg h2) opz J J J J fun a s og3 hg_ L=>?_;refine sA 1 L fun a s L=>?_;refine es (wp_seq_k fun K4 H4=>?_);refine rA 1 L fun a s L=>?_;refine wp_block ?_;have J7:∀(out5:(List Int)) (og6:Option Nat) (a:Act) (s:St),Has N0 36 s0 a s [(9,(Pd.row (En.int .i64) s0.w.heap.size 3 og6 out5))]→((ref12_through.j1 r_) out5)→K4 a s.w:=by
  intro out5 og6 a s L h;unfold ref12_through.j1 at h;show K4 a s.w;refine H4 _ _ (rA 2 L fun a s L=>?_);subst h;exact wp_ret (zf4 J L J)
 obtain ⟨k11,h⟩:=h;refine lpn (fun k12 a s=>∃(out8:(List Int)) (k10:Int) (og9:Option Nat),Has N0 36 s0 a s [(1,(Pi i_)),(2,(Pd.rep (En.slice (En.int .u8)) w_)),(3,(Pd.rep (En.slice (En.int .i64)) a_)),(4,(Pd.ptr En.SDesc d_)),(9,(Pd.row (En.int .i64) s0.w.heap.size 3 og9 out8)),(10,(Pi k10))]∧ref12_through.l1 n_ d_ i_ w_ a_ (ref12_through.j1 r_) k12 out8 k10) k11 ⟨r1,0,og3,L.kk,h⟩ ?_;rintro k12 a s ⟨out8,k10,og9,L,h⟩ KL13 hKL13;unfold ref12_through.l1 at h;refine wp_seq_k fun K14 H14=>rA 4 L fun a s L=>?_;refine cn L h (fun h=>?_) fun h=>?_
 ·refine wp_skip (H14 _ _ ?_);refine wp_seq_k fun K15 H15=>wp_block ?_;obtain ⟨e16,h17,h⟩:=h;refine ra 5 (p1 h17) L fun a s L=>?_;refine cn L h (fun h=>?_) fun h=>?_
  ·refine fzc 9 L fun s L=>?_;obtain ⟨r18,h19,e20,h21,r22,h23,h⟩:=h;refine rdx 10 (pp ((ih_ h19).frz) (p1 h21)) L fun a s L=>?_;refine zch 34 L (zgb h23) opz J J J J fun a s og24 hg_ L=>?_;refine sA 1 L fun a s L=>?_;refine en' (H15 _ _ ?_);obtain ⟨h25,h⟩:=h;refine rg (sA 3 L fun a s L=>?_);refine en' ?_;exact hKL13 a s ⟨r22,(k10+1),og24,L.kk,h⟩
  ·refine wp_skip (H15 _ _ ?_);obtain ⟨h26,h⟩:=h;refine rg (sA 3 L fun a s L=>?_);refine en' ?_;exact hKL13 a s ⟨out8,(k10+1),og9,L.kk,h⟩
 ·refine wp_exit ?_;exact J7 out8 og9 a s (L.kk) h
theorem ref12_times.b_ok {n_:SDesc→Int→(List Int)→Int→(List Int)→Prop} (ih_:∀{y0_:SDesc} {y1_:Int} {y2_:(List Int)} {y3_:Int} {r_:(List Int)} (h:n_ y0_ y1_ y2_ y3_ r_),Fn Tryz.prog 68 [Pd.rep En.SDesc y0_,Pd.rep (En.int .i64) y1_,Pd.rep (En.slice (En.int .u8)) y2_,Pd.rep (En.int .i64) y3_] (Ro (En.int .i64) 3 r_)) {d_:SDesc} {i_:Int} {w_:(List Int)} {from_:Int} {lo_:Int} {hi_:Int} {r_:(List Int)} (h:ref12_times.b n_ d_ i_ w_ from_ lo_ hi_ r_):Fn Tryz.prog 111 [(Pd.rep En.SDesc d_),(Pi i_),(Pd.rep (En.slice (En.int .u8)) w_),(Pi from_),(Pi lo_),(Pi hi_)] (Ro (En.int .i64) 3 r_):=by
 unfold ref12_times.b at h;refine zbo Tryz.func111 J Tryz.ntmps111 (by rfl) (by simp) fun s0 a L=>?_;refine rs (sA 1 L fun a s L=>?_);refine sno (En.int .i64) 3 L fun a s L=>?_;refine es ?_;obtain ⟨r1,h2,h⟩:=h;refine rs (sA 1 L fun a s L=>?_);refine zch 20 L (zfg h2) opz J J J J fun a s og3 hg_ L=>?_;refine sA 1 L fun a s L=>?_;refine es ?_;obtain ⟨e4,h5,h⟩:=h;refine rs (sl 3 (p1 h5) L fun a s L=>?_);refine zgk (off:=0) 13 L J h5 op op (zp _ _ _) Tq.h J J J kw fun s L=>?_;refine es ?_;obtain ⟨r6,h7,h⟩:=h;refine rs (sA 1 L fun a s L=>?_);have lt_d9:=L.rlt 13 rfl;refine zch 25 L (zfg h7) opz J J J J fun a s og8 hg_ L=>?_;have d9:=Dis.new hg_ lt_d9;refine sA 1 L fun a s L=>?_;refine es (wp_seq_k fun K10 H10=>?_);refine rA 1 L fun a s L=>?_;refine wp_block ?_;have J13:∀(out11:(List Int)) (og12:Option Nat) (a:Act) (s:St),Has N0 72 s0 a s [(14,(Pd.row (En.int .i64) s0.w.heap.size 3 og12 out11))]→((ref12_times.j1 r_) out11)→K10 a s.w:=by
  intro out11 og12 a s L h;unfold ref12_times.j1 at h;show K10 a s.w;refine H10 _ _ (rA 2 L fun a s L=>?_);subst h;exact wp_ret (zf4 J L J)
 obtain ⟨k19,h⟩:=h;refine lpn (fun k20 a s=>∃(now14:(List Int)) (out16:(List Int)) (t18:Int) (og15:Option Nat) (og17:Option Nat),Has N0 72 s0 a s [(1,(Pi i_)),(2,(Pd.rep (En.slice (En.int .u8)) w_)),(4,(Pi lo_)),(5,(Pi hi_)),(6,(Pd.ptr En.SDesc d_)),(13,(Pd.row (En.int .i64) s0.w.heap.size 3 og15 now14)),(14,(Pd.row (En.int .i64) s0.w.heap.size 3 og17 out16)),(15,(Pi t18))]∧Dis og15 og17∧ref12_times.l1 n_ d_ i_ w_ lo_ hi_ r_ (ref12_times.j1 r_) k20 now14 out16 t18) k19 ⟨(r1.set (from_:Int).toNat 1),r6,0,og3,og8,L.kk,(Dis.symm d9),h⟩ ?_;rintro k20 a s ⟨now14,out16,t18,og15,og17,L,d22,h⟩ KL21 hKL21;unfold ref12_times.l1 at h;refine wp_seq_k fun K23 H23=>?_;obtain ⟨h24,h⟩:=h;refine rA 5 L fun a s L=>?_;refine cn L h (fun h=>?_) fun h=>?_
 ·refine wp_skip (H23 _ _ ?_);refine wp_seq_k fun K25 H25=>wp_block (wp_seq_k fun K26 H26=>?_);refine rA 3 L fun a s L=>?_;refine fzc 13 L fun s L=>?_;have J29:∀(out27:(List Int)) (og28:Option Nat) (a:Act) (s:St),Has N0 72 s0 a s [(1,(Pi i_)),(2,(Pd.rep (En.slice (En.int .u8)) w_)),(4,(Pi lo_)),(5,(Pi hi_)),(6,(Pd.ptr En.SDesc d_)),(13,(Pd.rep (En.slice (En.int .i64)) now14)),(14,(Pd.row (En.int .i64) s0.w.heap.size 3 og28 out27)),(15,(Pi t18))]→((ref12_times.j3 n_ (ref12_times.l1 n_ d_ i_ w_ lo_ hi_ r_ (ref12_times.j1 r_) k20) d_ i_ w_ hi_ r_ now14 t18) out27)→K26 a s.w:=by
   intro out27 og28 a s L h;unfold ref12_times.j3 at h;show K26 a s.w;refine H26 _ _ (wp_seq_k fun K30 H30=>?_);refine rA 3 L fun a s L=>?_;refine cn L h (fun h=>?_) fun h=>?_
   ·refine wp_exit ?_;exact J13 out27 og28 a s (L.kk) h
   ·refine wp_skip (H30 _ _ ?_);obtain ⟨r31,h32,h⟩:=h;refine rs (sA 1 L fun a s L=>?_);have lt_d34:=L.rlt 14 rfl;refine zch 43 L (zfg h32) opz J J J J fun a s og33 hg_ L=>?_;have d34:=Dis.new hg_ lt_d34;refine sA 1 L fun a s L=>?_;refine es (wp_seq_k fun K35 H35=>?_);refine rA 1 L fun a s L=>?_;refine wp_block ?_;have J38:∀(next36:(List Int)) (og37:Option Nat) (a:Act) (s:St),Has N0 72 s0 a s [(1,(Pi i_)),(2,(Pd.rep (En.slice (En.int .u8)) w_)),(4,(Pi lo_)),(5,(Pi hi_)),(6,(Pd.ptr En.SDesc d_)),(14,(Pd.row (En.int .i64) s0.w.heap.size 3 og28 out27)),(15,(Pi t18)),(16,(Pd.row (En.int .i64) s0.w.heap.size 3 og37 next36))]→Dis og28 og37→((ref12_times.j2 (ref12_times.l1 n_ d_ i_ w_ lo_ hi_ r_ (ref12_times.j1 r_) k20) t18 out27) next36)→K35 a s.w:=by
     intro next36 og37 a s L d39 h;unfold ref12_times.j2 at h;show K35 a s.w;refine H35 _ _ (rg ?_);refine sA 2 L fun a s L=>?_;refine en' (H25 _ _ ?_);obtain ⟨h40,h⟩:=h;refine rg (sA 3 L fun a s L=>?_);refine en' ?_;exact hKL21 a s ⟨next36,out27,(t18+1),og37,og28,L.kk,(Dis.symm d39),h⟩
    obtain ⟨k44,h⟩:=h;refine lpn (fun k45 a s=>∃(next41:(List Int)) (k43:Int) (og42:Option Nat),Has N0 72 s0 a s [(1,(Pi i_)),(2,(Pd.rep (En.slice (En.int .u8)) w_)),(4,(Pi lo_)),(5,(Pi hi_)),(6,(Pd.ptr En.SDesc d_)),(13,(Pd.rep (En.slice (En.int .i64)) now14)),(14,(Pd.row (En.int .i64) s0.w.heap.size 3 og28 out27)),(15,(Pi t18)),(16,(Pd.row (En.int .i64) s0.w.heap.size 3 og42 next41)),(17,(Pi k43))]∧Dis og28 og42∧ref12_times.l2 n_ d_ i_ w_ now14 (ref12_times.j2 (ref12_times.l1 n_ d_ i_ w_ lo_ hi_ r_ (ref12_times.j1 r_) k20) t18 out27) k45 next41 k43) k44 ⟨r31,0,og33,L.kk,(Dis.symm d34),h⟩ ?_;rintro k45 a s ⟨next41,k43,og42,L,d47,h⟩ KL46 hKL46;unfold ref12_times.l2 at h;refine wp_seq_k fun K48 H48=>rA 4 L fun a s L=>?_;refine cn L h (fun h=>?_) fun h=>?_
    ·refine wp_skip (H48 _ _ ?_);refine wp_seq_k fun K49 H49=>wp_block ?_;obtain ⟨e50,h51,h⟩:=h;refine ra 5 (p1 h51) L fun a s L=>?_;refine cn L h (fun h=>?_) fun h=>?_
     ·obtain ⟨r52,h53,h⟩:=h;refine rs (sA 4 L fun a s L=>?_);have lt_d56:=L.rlt 16 rfl;have lt_d55:=L.rlt 14 rfl;refine zch 59 L (ih_ h53) opz J J J J fun a s og54 hg_ L=>?_;have d55:=Dis.new hg_ lt_d55;have d56:=Dis.new hg_ lt_d56;refine sA 1 L fun a s L=>?_;refine es ?_;obtain ⟨e57,h58,h⟩:=h;refine rs (sl 3 (p1 h58) L fun a s L=>?_);refine zgk (off:=0) 18 L J h58 op op (zp _ _ _) Tq.h J J J kw fun s L=>?_;refine es (fzc 16 L fun s L=>?_);refine fzc 18 L fun s L=>?_;obtain ⟨e59,h60,r61,h62,h⟩:=h;refine rg (sl 6 (p1 h60) L fun a s L=>?_);have lt_d64:=L.rlt 14 rfl;refine zch 69 L (zgb h62) opz J J J J fun a s og63 hg_ L=>?_;have d64:=Dis.new hg_ lt_d64;refine sA 1 L fun a s L=>?_;refine en' (H49 _ _ ?_);obtain ⟨h65,h⟩:=h;refine rg (sA 3 L fun a s L=>?_);refine en' ?_;exact hKL46 a s ⟨r61,(k43+1),og63,L.kk,(Dis.symm d64),h⟩
     ·refine wp_skip (H49 _ _ ?_);obtain ⟨h66,h⟩:=h;refine rg (sA 3 L fun a s L=>?_);refine en' ?_;exact hKL46 a s ⟨next41,(k43+1),og42,L.kk,d47,h⟩
    ·refine wp_exit ?_;exact J38 next41 og42 a s (L.kk) d47 h
  refine cn L h (fun h=>?_) fun h=>?_
  ·refine fzc 14 L fun s L=>?_;obtain ⟨r67,h68,h⟩:=h;refine rg (sA 2 L fun a s L=>?_);refine zch 38 L (zgb h68) opz J J J J fun a s og69 hg_ L=>?_;refine sA 1 L fun a s L=>?_;refine en' ?_;exact J29 r67 og69 a s (L.kk) h
  ·refine wp_skip ?_;exact J29 out16 og17 a s (L.kk) h
 ·refine wp_exit ?_;exact J13 out16 og17 a s (L.kk) h
theorem zcg.n_ok (k_:Nat):∀{d_:SDesc} {i_:Int} {w_:(List Int)} {from_:Int} {r_:(List Int)} (h:zcg.n k_ d_ i_ w_ from_ r_),Fn Tryz.prog 68 [(Pd.rep En.SDesc d_),(Pi i_),(Pd.rep (En.slice (En.int .u8)) w_),(Pi from_)] (Ro (En.int .i64) 3 r_):=by
 induction k_ with
 | zero=>intro d_ i_ w_ from_ r_ h;exact h.elim
 | succ k_ ih_=>
 intro d_ i_ w_ from_ r_ h;unfold zcg.n at h;refine zbo Tryz.func68 J Tryz.ntmps68 (by rfl) (by simp) fun s0 a L=>?_;refine rs (sA 1 L fun a s L=>?_);refine sno (En.int .i64) 3 L fun a s L=>?_;refine es ?_;obtain ⟨e1,h2,h⟩:=h;refine rs (sl 5 (p1 h2) L fun a s L=>?_);refine zbb En.SNode (z:=(0,0,0,0,0,(0#256),([]:Str))) 9 L zkk J J J J fun a s g3 hg_ L=>?_;refine sB 9 L fun s L=>?_;refine es ?_;obtain ⟨r4,h5,h⟩:=h;refine rs (sA 1 L fun a s L=>?_);have lt_d7:=L.blt 9 rfl;refine zch 19 L (zfg h5) opz J J J J fun a s og6 hg_ L=>?_;have d7:=Dis.new hg_ lt_d7;refine sA 1 L fun a s L=>?_;refine es (wp_seq_k fun K8 H8=>?_);refine rA 2 L fun a s L=>?_;refine wp_block (rA 2 L fun a s L=>?_);refine cn L h (fun h=>?_) fun h=>?_
 ·obtain ⟨e9,h10,h⟩:=h;refine rg (sl 3 (p1 h10) L fun a s L=>?_);refine zgk (off:=0) 10 L J h10 op op (zp _ _ _) Tq.h J J J kw fun s L=>?_;refine en' (H8 _ _ ?_);refine rA 2 L fun a s L=>?_;subst h;exact wp_ret (zf4 J L J)
 ·refine rA 2 L fun a s L=>?_;refine cn L h (fun h=>?_) fun h=>?_
  ·obtain ⟨e11,h12,r13,h14,h⟩:=h;refine wp_seq (rdx 13 (pp h12 (pp (fun hc_=>(ref01_Has_ok (h14 hc_))) trivial)) L fun a s L=>?_);refine es (cn L h (fun h=>?_) fun h=>?_)
   ·obtain ⟨h15,e16,h17,h⟩:=h;refine rg (sl 4 (p1 h17) L fun a s L=>?_);refine zgk (off:=0) 10 L J h17 op op (zp _ _ _) Tq.h J J J kw fun s L=>?_;refine en' (H8 _ _ ?_);refine rA 2 L fun a s L=>?_;subst h;exact wp_ret (zf4 J L J)
   ·refine wp_skip (H8 _ _ ?_);refine rA 2 L fun a s L=>?_;subst h;exact wp_ret (zf4 J L J)
  ·refine rA 2 L fun a s L=>?_;refine cn L h (fun h=>?_) fun h=>?_
   ·obtain ⟨h18,b19,h20,h21,h22,b23,h24,h⟩:=h;refine wp_seq (rdx 22 (pp h20 (p1 h24)) L fun a s L=>?_);refine es (cn L h (fun h=>?_) fun h=>?_)
    ·obtain ⟨h25,e26,h27,h⟩:=h;refine rg (sl 7 (p1 h27) L fun a s L=>?_);refine zgk (off:=0) 10 L J h27 op op (zp _ _ _) Tq.h J J J kw fun s L=>?_;refine en' (H8 _ _ ?_);refine rA 2 L fun a s L=>?_;subst h;exact wp_ret (zf4 J L J)
    ·refine wp_skip (H8 _ _ ?_);refine rA 2 L fun a s L=>?_;subst h;exact wp_ret (zf4 J L J)
   ·refine rA 2 L fun a s L=>?_;refine cn L h (fun h=>?_) fun h=>?_
    ·obtain ⟨r28,h29,r30,h31,h⟩:=h;refine wp_seq (rdx 10 (p1 ((ih_ h29).frz)) L fun a s L=>?_);have lt_d34:=L.rlt 19 rfl;have lt_d33:=L.blt 9 rfl;refine zch 89 L (ref12_through.b_ok ih_ h31) opz J J J J fun a s og32 hg_ L=>?_;have d33:=Dis.new hg_ lt_d33;have d34:=Dis.new hg_ lt_d34;refine sA 1 L fun a s L=>?_;refine es ?_;subst h;exact wp_ret (zf4 J L J)
    ·refine rA 2 L fun a s L=>?_;refine cn L h (fun h=>?_) fun h=>?_
     ·obtain ⟨r35,h36,r37,h38,r39,h40,h⟩:=h;refine wp_seq (rdx 12 (pp ((ih_ h36).frz) (p1 ((ih_ h38).frz))) L fun a s L=>?_);have lt_d43:=L.rlt 19 rfl;have lt_d42:=L.blt 9 rfl;refine zch 104 L (zgb h40) opz J J J J fun a s og41 hg_ L=>?_;have d42:=Dis.new hg_ lt_d42;have d43:=Dis.new hg_ lt_d43;refine sA 1 L fun a s L=>?_;refine es ?_;subst h;exact wp_ret (zf4 J L J)
     ·refine rA 2 L fun a s L=>?_;refine cn L h (fun h=>?_) fun h=>?_
      ·obtain ⟨r44,h45,h⟩:=h;refine rs (sA 5 L fun a s L=>?_);have lt_d48:=L.rlt 19 rfl;have lt_d47:=L.blt 9 rfl;refine zch 112 L (ref12_times.b_ok ih_ h45) opz J J J J fun a s og46 hg_ L=>?_;have d47:=Dis.new hg_ lt_d47;have d48:=Dis.new hg_ lt_d48;refine sA 1 L fun a s L=>?_;refine es ?_;subst h;exact wp_ret (zf4 J L J)
      ·refine rA 2 L fun a s L=>?_;refine cn L h (fun h=>?_) fun h=>?_
       ·obtain ⟨r49,h50,h⟩:=h;refine rs (sA 9 L fun a s L=>?_);have lt_d53:=L.rlt 19 rfl;have lt_d52:=L.blt 9 rfl;refine zch 124 L (ref12_times.b_ok ih_ h50) opz J J J J fun a s og51 hg_ L=>?_;have d52:=Dis.new hg_ lt_d52;have d53:=Dis.new hg_ lt_d53;refine sA 1 L fun a s L=>?_;refine es ?_;subst h;exact wp_ret (zf4 J L J)
       ·refine rA 2 L fun a s L=>?_;refine cn L h (fun h=>?_) fun h=>?_
        ·refine rA 4 L fun a s L=>?_;refine cn L h (fun h=>?_) fun h=>?_
         ·obtain ⟨h54,e55,h56,h57,h⟩:=h;refine ra 9 (p1 h56) L fun a s L=>?_;refine rA 4 L fun a s L=>?_;refine cn L h (fun h=>?_) fun h=>?_
          ·obtain ⟨h58,h59,r60,h61,e62,h63,e64,h65,h⟩:=h;refine rdx 15 (pp ((ih_ h61).frz) (pp h63 (p1 h65))) L fun a s L=>?_;refine zgk (off:=0) 10 L J h65 op op (zp _ _ _) Tq.h J J J kw fun s L=>?_;refine en' (H8 _ _ ?_);refine rA 2 L fun a s L=>?_;subst h;exact wp_ret (zf4 J L J)
          ·refine wp_skip (H8 _ _ ?_);refine rA 2 L fun a s L=>?_;subst h;exact wp_ret (zf4 J L J)
         ·refine wp_skip (H8 _ _ ?_);refine rA 2 L fun a s L=>?_;subst h;exact wp_ret (zf4 J L J)
        ·refine rA 2 L fun a s L=>?_;refine cn L h (fun h=>?_) fun h=>?_
         ·obtain ⟨h66,h⟩:=h;refine rA 5 L fun a s L=>?_;refine cn L h (fun h=>?_) fun h=>?_
          ·obtain ⟨h67,e68,h69,h70,h71,h72,e73,h74,h75,h⟩:=h;refine wp_seq (rdx 16 (pp h69 (p1 h74)) L fun a s L=>?_);refine sA 1 L fun a s L=>?_;refine es ?_;obtain ⟨b76,h77,h⟩:=h;refine ra 4 (p1 h77) L fun a s L=>?_;refine cn L h (fun h=>?_) fun h=>?_
           ·obtain ⟨h78,h79,r80,h81,e82,h83,e84,h85,h⟩:=h;refine rdx 15 (pp ((ih_ h81).frz) (pp h83 (p1 h85))) L fun a s L=>?_;refine zgk (off:=0) 10 L J h85 op op (zp _ _ _) Tq.h J J J kw fun s L=>?_;refine en' (H8 _ _ ?_);refine rA 2 L fun a s L=>?_;subst h;exact wp_ret (zf4 J L J)
           ·refine wp_skip (H8 _ _ ?_);refine rA 2 L fun a s L=>?_;subst h;exact wp_ret (zf4 J L J)
          ·refine wp_skip (H8 _ _ ?_);refine rA 2 L fun a s L=>?_;subst h;exact wp_ret (zf4 J L J)
         ·refine wp_skip (H8 _ _ ?_);refine rA 2 L fun a s L=>?_;subst h;exact wp_ret (zf4 J L J)
theorem zq5 {d_:SDesc} {i_:Int} {w_:(List Int)} {from_:Int} {r_:(List Int)} (h:zcg d_ i_ w_ from_ r_):Fn Tryz.prog 68 [(Pd.rep En.SDesc d_),(Pi i_),(Pd.rep (En.slice (En.int .u8)) w_),(Pi from_)] (Ro (En.int .i64) 3 r_):=by
 obtain ⟨k_,h⟩:=h;exact zcg.n_ok k_ h
theorem zq6 {d_:SDesc} {w_:(List Int)} {r_:Int} (h:zjj d_ w_ r_):Fn Tryz.prog 34 [(Pd.rep En.SDesc d_),(Pd.rep (En.slice (En.int .u8)) w_)] (Rq (Pi r_)):=by
 unfold zjj at h;refine zbo Tryz.func34 J Tryz.ntmps34 (by rfl) (by simp) fun s0 a L=>?_;refine rA 2 L fun a s L=>?_;obtain ⟨h1,r2,h3,e4,h5,h⟩:=h;refine ra 12 (pp ((zq5 h3).frz) (p1 h5)) L fun a s L=>?_;subst h;exact wp_ret (zdr J L J)
def zdn (x_:SItem) (y_:SItem) (r_:Int):Prop:=∃r1:Int,zcw x_.1 y_.1 r1∧∃r3:Int,zcw x_.2.1 y_.2.1 r3∧∃r5:Int,zcw x_.2.2.1 y_.2.2.1 r5∧∃r7:Int,zcw x_.2.2.2 y_.2.2.2 r7∧∃r9:Int,zcp [r1,r3,r5,r7] r9∧r_=r9
def zfy (a_:(List SItem)) (b_:(List SItem)) (r_:Int):Prop:=∃r2:Int,zcw (a_.length:Int) (b_.length:Int) r2∧(((r2 != 0))=true→r_=r2)∧(((r2 != 0))=false→∃r4:Int,ze a_ b_ (fun q_=>zdn q_.1 q_.2.1 q_.2.2) r4∧r_=r4)
def zck.j1 (r_:((List SItem) × Bool)) (out5:(List SItem)):Prop:=r_=(out5,true)
def zck.l1 (r1:(List SItem)) (r_:((List SItem) × Bool)) (X1:(List SItem)→Prop):Nat→(List SItem)→Int→Prop
 | 0,_,_=>False
 | k_0+1,out8,v10=>((decide (v10<(r1.length:Int)))=true→∃e16:SItem,at? out8 v10=some e16∧(((e16.1 != 5))=true→(InR .i64 (v10+1))∧zck.l1 r1 r_ X1 k_0 out8 (v10+1))∧(((e16.1 != 5))=false→((decide (e16.2.2.1≤0))=true→r_=(([]:(List SItem)),false))∧((decide (e16.2.2.1≤0))=false→∃e23:SItem,at? out8 v10=some e23∧(InR .i64 (e23.2.2.1-1))∧∃e26:SItem,at? out8 v10=some e26∧(InR .i64 (v10+1))∧zck.l1 r1 r_ X1 k_0 (out8.set (v10:Int).toNat (e26.1,e26.2.1,e23.2.2.1-1,e26.2.2.2)) (v10+1))))∧((decide (v10<(r1.length:Int)))=false→X1 out8)
def zck (s_:(List SItem)) (r_:((List SItem) × Bool)):Prop:=∃r1:(List SItem),zb0 s_ r1∧∃k11,zck.l1 r1 r_ (zck.j1 r_) k11 r1 0
def zjx (d_:SDesc) (r_:(List SItem)):Prop:=(InR .i64 ((d_.length:Int)-1))∧r_=[(1,(d_.length:Int)-1,0,0)]
def zc6.j1 (r_:(List Int)) (out3:(List Int)):Prop:=r_=out3
def zc6.l1 (s_:(List SItem)) (X1:(List Int)→Prop):Nat→(List Int)→Int→Prop
 | 0,_,_=>False
 | k_0+1,out6,i8=>((decide (i8<(s_.length:Int)))=true→∃e14:SItem,at? s_ i8=some e14∧∃e16:SItem,at? s_ i8=some e16∧∃e18:SItem,at? s_ i8=some e18∧∃e20:SItem,at? s_ i8=some e20∧(out6.length+[e14.1,e16.2.1,e18.2.2.1,e20.2.2.2].length≤2147483648)∧(InR .i64 (i8+1))∧zc6.l1 s_ X1 k_0 (out6++[e14.1,e16.2.1,e18.2.2.1,e20.2.2.2]) (i8+1))∧((decide (i8<(s_.length:Int)))=false→X1 out6)
def zc6 (s_:(List SItem)) (r_:(List Int)):Prop:=∃k9,zc6.l1 s_ (zc6.j1 r_) k9 [(s_.length:Int)] 0
def zcs.j1 (r_:Int):Prop:=r_=0
def zcs.l1 (r1:(List Int)) (r3:(List Int)) (r_:Int) (X1:Prop):Nat→Int→Prop
 | 0,_=>False
 | k_0+1,i7=>∃b12:Bool,b12=((decide (i7<(r1.length:Int)))&&(decide (i7<(r3.length:Int))))∧((b12)=true→∃e16:Int,at? r1 i7=some e16∧∃e18:Int,at? r3 i7=some e18∧((decide (e16<e18))=true→r_=(-1))∧((decide (e16<e18))=false→∃e20:Int,at? r1 i7=some e20∧∃e22:Int,at? r3 i7=some e22∧((decide (e22<e20))=true→r_=1)∧((decide (e22<e20))=false→(InR .i64 (i7+1))∧zcs.l1 r1 r3 r_ X1 k_0 (i7+1))))∧((b12)=false→X1)
def zcs (a_:(List SItem)) (b_:(List SItem)) (r_:Int):Prop:=∃r1:(List Int),zc6 a_ r1∧∃r3:(List Int),zc6 b_ r3∧∃k8,zcs.l1 r1 r3 r_ (zcs.j1 r_) k8 0
def zbx.j1 (r_:((List SItem) × Bool)) (out2:(List SItem)):Prop:=r_=(out2,true)
def zbx.j2 (L1_:(List SItem)→Int→Prop) (out5:(List SItem)) (i7:Int) (x18:SItem):Prop:=(out5.length+[x18].length≤2147483648)∧(InR .i64 (i7+1))∧L1_ (out5++[x18]) (i7+1)
def zbx.l1 (s_:(List SItem)) (r_:((List SItem) × Bool)) (X1:(List SItem)→Prop):Nat→(List SItem)→Int→Prop
 | 0,_,_=>False
 | k_0+1,out5,i7=>((decide (i7<(s_.length:Int)))=true→∃e13:SItem,at? s_ i7=some e13∧(((e13.1==5))=true→((decide (e13.2.2.1≤0))=true→r_=(([]:(List SItem)),false))∧((decide (e13.2.2.1≤0))=false→(InR .i64 (e13.2.2.1-1))∧(zbx.j2 (zbx.l1 s_ r_ X1 k_0) out5 i7) (e13.1,e13.2.1,e13.2.2.1-1,e13.2.2.2)))∧(((e13.1==5))=false→(zbx.j2 (zbx.l1 s_ r_ X1 k_0) out5 i7) e13))∧((decide (i7<(s_.length:Int)))=false→X1 out5)
def zbx (s_:(List SItem)) (r_:((List SItem) × Bool)):Prop:=∃k8,zbx.l1 s_ r_ (zbx.j1 r_) k8 ([]:(List SItem)) 0
set_option maxRecDepth 100000
set_option maxHeartbeats 2000000
set_option synthInstance.maxSize 100000
set_option synthInstance.maxHeartbeats 200000
theorem zr2 {s_:(List SItem)} {r_:((List SItem) × Bool)} (h:zck s_ r_):Fn Tryz.prog 118 [(Pd.rep (En.slice En.SItem) s_)] (Ro2 En.SItem 77 r_.1 (Pd.rep En.bool r_.2)):=by
 unfold zck at h;refine zbo Tryz.func118 J Tryz.ntmps118 (by rfl) (by simp) fun s0 a L=>?_;refine rs (sno En.SItem 77 L fun a s L=>?_);refine sA 1 L fun a s L=>?_;refine es ?_;obtain ⟨r1,h2,h⟩:=h;refine rs (sA 1 L fun a s L=>?_);refine zch 8 L (zdd h2) opz J J J J fun a s og3 hg_ L=>?_;refine sA 1 L fun a s L=>?_;refine es (wp_seq_k fun K4 H4=>?_);refine rA 3 L fun a s L=>?_;refine wp_block ?_;have J7:∀(out5:(List SItem)) (og6:Option Nat) (a:Act) (s:St),Has N0 32 s0 a s [(4,(Pd.row En.SItem s0.w.heap.size 77 og6 out5))]→((zck.j1 r_) out5)→K4 a s.w:=by
  intro out5 og6 a s L h;unfold zck.j1 at h;show K4 a s.w;refine H4 _ _ (rA 3 L fun a s L=>?_);subst h;exact wp_ret (zmn J L J J)
 obtain ⟨k11,h⟩:=h;refine lpn (fun k12 a s=>∃(out8:(List SItem)) (v10:Int) (og9:Option Nat),Has N0 32 s0 a s [(4,(Pd.row En.SItem s0.w.heap.size 77 og9 out8)),(9,(Pd.row En.SItem s0.w.heap.size 77 og9 out8)),(10,(Pi (r1.length:Int))),(11,(Pi v10))]∧zck.l1 r1 r_ (zck.j1 r_) k12 out8 v10) k11 ⟨r1,0,og3,L.kk,h⟩ ?_;rintro k12 a s ⟨out8,v10,og9,L,h⟩ KL13 hKL13;unfold zck.l1 at h;refine rA 1 L fun a s L=>?_;refine wp_seq_k fun K14 H14=>cn L h (fun h=>?_) fun h=>?_
 ·refine wp_skip (H14 _ _ ?_);refine wp_seq_k fun K15 H15=>wp_block ?_;obtain ⟨e16,h17,h⟩:=h;refine rs (sl 3 (p1 h17) L fun a s L=>?_);have lt_d19:=L.rlt 4 rfl;refine zbb En.SItem (z:=(0,0,0,0)) 6 L zio J J J J fun a s g18 hg_ L=>?_;have d19:=Dis.newg hg_ lt_d19;refine sA 1 L fun a s L=>?_;refine sB 6 L fun s L=>?_;refine es (wp_seq_k fun K20 H20=>?_);refine rA 3 L fun a s L=>?_;refine cn L h (fun h=>?_) fun h=>?_
  ·refine wp_exit ?_;show K15 a s.w;refine H15 _ _ ?_;obtain ⟨h21,h⟩:=h;refine rg (sA 2 L fun a s L=>?_);refine en' ?_;exact hKL13 a s ⟨out8,(v10+1),og9,L.kk,h⟩
  ·refine wp_skip (H20 _ _ ?_);refine wp_seq_k fun K22 H22=>rA 3 L fun a s L=>?_;refine cn L h (fun h=>?_) fun h=>?_
   ·refine rs ?_;refine sno En.SItem 77 L fun a s L=>?_;refine sA 1 L fun a s L=>?_;refine es ?_;subst h;exact wp_ret (zmn J L J J)
   ·refine wp_skip (H22 _ _ ?_);obtain ⟨e23,h24,h25,e26,h27,h⟩:=h;refine rg (sl 8 (pp h24 (p1 h27)) L fun a s L=>?_);refine zgk (off:=2) 4 L J h27 op op (zo (zo (zbd (zp _ _ _)) J) J) Tq.h J J J kw fun s L=>?_;refine en' (H15 _ _ ?_);obtain ⟨h28,h⟩:=h;refine rg (sA 2 L fun a s L=>?_);refine en' ?_;exact hKL13 a s ⟨(out8.set (v10:Int).toNat (e26.1,e26.2.1,e23.2.2.1-1,e26.2.2.2)),(v10+1),og9,L.kk,h⟩
 ·refine wp_exit ?_;exact J7 out8 og9 a s (L.kk) h
theorem zr1 {d_:SDesc} {r_:(List SItem)} (h:zjx d_ r_):Fn Tryz.prog 54 [(Pd.rep En.SDesc d_)] (Ro En.SItem 77 r_):=by
 unfold zjx at h;refine zbo Tryz.func54 J Tryz.ntmps54 (by rfl) (by simp) fun s0 a L=>?_;refine rs (sA 1 L fun a s L=>?_);refine sno En.SItem 77 L fun a s L=>?_;refine es ?_;obtain ⟨h1,h⟩:=h;refine rs (sA 4 L fun a s L=>?_);refine sv (zb3 (x:=(1,(d_.length:Int)-1,0,0)) (ps:=[(0,.const (.int .i64 1)),(1,.tmp 6)]) zio J stt77 (.cons (i:=0) op J (zbd (zp _ _ _)) (.cons (i:=1) op J (zo (zbd (zp _ _ _)) J) .nil)) J J) L fun a s L=>?_;refine zfk (xs:=[.tmp 7]) 8 L (.cons op .nil) Ud.h Tq.h J J (by decide) J J J J fun a s g2 hg_ L=>?_;refine sA 1 L fun a s L=>?_;refine es ?_;subst h;exact wp_ret (zf4 J L J)
def zkg (d_:SDesc) (s_:(List SItem)) (r_:Bool):Prop:=((((s_.length:Int)==0))=true→r_=true)∧((((s_.length:Int)==0))=false→∃e3:SItem,at? s_ 0=some e3∧(((e3.1==1))=true→∃e6:SNode,at? d_ e3.2.1=some e6∧∃e8:Bool,(((decide (e6.1<10))=true)→at? gdat1 e6.1=some e8)∧r_=((decide (e6.1<10))&&e8))∧(((e3.1==1))=false→(((e3.1==3))=true→(((e3.1==3))=true→r_=true)∧(((e3.1==3))=false→r_=false))∧(((e3.1==3))=false→(((e3.1==4))=true→r_=true)∧(((e3.1==4))=false→r_=false))))
def zcl (rest_:(List SItem)) (list_:(List SItem)) (r_:(List SItem)):Prop:=∃r1:(List SItem),zg [list_,rest_] r1∧r_=r1
def ze9 (i_:Int) (r_:SItem):Prop:=r_=(1,i_,0,0)
def zcz.j1 (r_:(List (List SItem))) (out24:(List (List SItem))):Prop:=r_=out24
def zcz.j2 (s_:(List SItem)) (r_:(List (List SItem))) (e2:SItem) (e6:SNode) (out17:(List (List SItem))):Prop:=((decide (0<e2.2.2.2))=true→∃r27:SItem,ze9 e6.2.1 r27∧(InR .i64 (e2.2.2.1-1))∧(InR .i64 (e2.2.2.2-1))∧∃r31:(List SItem),zcl (s_.drop (1:Int).toNat) [r27,(e2.1,e2.2.1,(max (e2.2.2.1-1) 0),e2.2.2.2-1)] r31∧(out17.length+[r31].length≤2147483648)∧(zcz.j1 r_) (out17++[r31]))∧((decide (0<e2.2.2.2))=false→(zcz.j1 r_) out17)
def zcz (d_:SDesc) (s_:(List SItem)) (r_:(List (List SItem))):Prop:=∃e2:SItem,at? s_ 0=some e2∧((0:Int)≤1∧1≤(s_.length:Int))∧∃e6:SNode,at? d_ e2.2.1=some e6∧((((e2.1==5)&&(e2.2.2.1==0)))=true→∃r11:(List SItem),zcl (s_.drop (1:Int).toNat) ([]:(List SItem)) r11∧r_=[r11])∧((((e2.1==5)&&(e2.2.2.1==0)))=false→(((e2.1==5))=true→r_=([]:(List (List SItem))))∧(((e2.1==5))=false→(((e2.1==2))=true→(((e2.2.2.1==0))=true→∃r35:(List SItem),zcl (s_.drop (1:Int).toNat) ([]:(List SItem)) r35∧(([]:(List (List SItem))).length+[r35].length≤2147483648)∧(zcz.j2 s_ r_ e2 e6) (([]:(List (List SItem)))++[r35]))∧(((e2.2.2.1==0))=false→(zcz.j2 s_ r_ e2 e6) ([]:(List (List SItem)))))∧(((e2.1==2))=false→(((e6.1==1))=true→∃r42:(List SItem),zcl (s_.drop (1:Int).toNat) ([]:(List SItem)) r42∧r_=[r42])∧(((e6.1==1))=false→(((e6.1==3))=true→∃r47:(List SItem),zcl (s_.drop (1:Int).toNat) [(3,e2.2.1,0,0)] r47∧r_=[r47])∧(((e6.1==3))=false→(((e6.1==4))=true→∃r52:SItem,ze9 e6.2.1 r52∧∃r54:SItem,ze9 e6.2.2.1 r54∧∃r56:(List SItem),zcl (s_.drop (1:Int).toNat) [r52,r54] r56∧r_=[r56])∧(((e6.1==4))=false→(((e6.1==5))=true→∃r61:SItem,ze9 e6.2.1 r61∧∃r63:(List SItem),zcl (s_.drop (1:Int).toNat) [r61] r63∧∃r65:SItem,ze9 e6.2.2.1 r65∧∃r67:(List SItem),zcl (s_.drop (1:Int).toNat) [r65] r67∧r_=[r63,r67])∧(((e6.1==5))=false→(((e6.1==6))=true→∃r72:(List SItem),zcl (s_.drop (1:Int).toNat) ([]:(List SItem)) r72∧∃r74:SItem,ze9 e6.2.1 r74∧∃r76:(List SItem),zcl (s_.drop (1:Int).toNat) [r74,e2] r76∧r_=[r72,r76])∧(((e6.1==6))=false→∃r81:(List SItem),zcl (s_.drop (1:Int).toNat) [(2,e2.2.1,e6.2.2.2.1,e6.2.2.2.2.1)] r81∧r_=[r81]))))))))
def zk6 (a_:SBranch) (b_:SBranch) (r_:Int):Prop:=∃r1:Int,zfy a_.1 b_.1 r1∧r_=r1
def zn2 (d_:SDesc) (s_:(List SItem)) (r_:Bool):Prop:=∃e2:SItem,(((((s_.length:Int)==0))=false)→at? s_ 0=some e2)∧∃e4:SItem,((((((s_.length:Int)==0)||(e2.1==3)))=false)→at? s_ 0=some e4)∧∃b6:Bool,b6=((((s_.length:Int)==0)||(e2.1==3))||(e4.1==4))∧((b6)=true→r_=true)∧((b6)=false→∃e8:SItem,at? s_ 0=some e8∧∃e10:SNode,at? d_ e8.2.1=some e10∧∃e12:SItem,at? s_ 0=some e12∧∃b14:Bool,b14=((e12.1==1)&&(((e10.1==2)||(e10.1==8))||(e10.1==9)))∧r_=b14)
def zcd (l_:(List SItem)) (s_:(List SItem)) (r_:(List SItem)):Prop:=(([]:(List SItem)).length+l_.length≤2147483648)∧((([]:(List SItem))++l_).length+s_.length≤2147483648)∧r_=(([]:(List SItem))++l_)++s_
def zdi.j1 (s_:(List SItem)) (many_:Int) (r_:(List SBranch)) (out2:(List SBranch)) (done4:Bool):Prop:=(((!done4))=true→(out2.length+[(s_,many_)].length≤2147483648)∧r_=out2++[(s_,many_)])∧(((!done4))=false→r_=out2)
def zdi.j2 (L1_:(List SBranch)→Bool→Int→Prop) (l_:(List SBranch)) (i12:Int) (out30:(List SBranch)) (done32:Bool):Prop:=∃e34:SBranch,at? l_ i12=some e34∧(out30.length+[e34].length≤2147483648)∧(InR .i64 (i12+1))∧L1_ (out30++[e34]) done32 (i12+1)
def zdi.l1 (l_:(List SBranch)) (s_:(List SItem)) (many_:Int) (X1:(List SBranch)→Bool→Prop):Nat→(List SBranch)→Bool→Int→Prop
 | 0,_,_,_=>False
 | k_0+1,out9,done11,i12=>((decide (i12<(l_.length:Int)))=true→∃e18:SBranch,at? l_ i12=some e18∧∃r20:Int,zcs s_ e18.1 r20∧(((r20==0))=true→∃e23:SBranch,at? l_ i12=some e23∧(InR .i64 (e23.2+many_))∧(out9.length+[(s_,(min 2 (e23.2+many_)))].length≤2147483648)∧(InR .i64 (i12+1))∧zdi.l1 l_ s_ many_ X1 k_0 (out9++[(s_,(min 2 (e23.2+many_)))]) true (i12+1))∧(((r20==0))=false→((((decide (r20<0))&&(!done11)))=true→(out9.length+[(s_,many_)].length≤2147483648)∧(zdi.j2 (zdi.l1 l_ s_ many_ X1 k_0) l_ i12) (out9++[(s_,many_)]) true)∧((((decide (r20<0))&&(!done11)))=false→(zdi.j2 (zdi.l1 l_ s_ many_ X1 k_0) l_ i12) out9 done11)))∧((decide (i12<(l_.length:Int)))=false→X1 out9 done11)
def zdi (l_:(List SBranch)) (s_:(List SItem)) (many_:Int) (r_:(List SBranch)):Prop:=∃k13,zdi.l1 l_ s_ many_ (zdi.j1 s_ many_ r_) k13 ([]:(List SBranch)) false 0
def zdg.j1 (r_:(List (List SItem))) (out18:(List (List SItem))):Prop:=r_=out18
def zdg.j2 (r_:(List (List SItem))) (out34:(List (List SItem))):Prop:=r_=out34
def zdg.j3 (s_:(List SItem)) (r_:(List (List SItem))) (e1:SItem) (e5:SNode) (out27:(List (List SItem))):Prop:=((decide (0<e1.2.2.2))=true→(InR .i64 (e1.2.2.1-1))∧(InR .i64 (e1.2.2.2-1))∧∃r39:(List SItem),zcd [(1,e5.2.1,0,0),(2,e1.2.1,(max 0 (e1.2.2.1-1)),e1.2.2.2-1)] (s_.drop (1:Int).toNat) r39∧(out27.length+[r39].length≤2147483648)∧(zdg.j2 r_) (out27++[r39]))∧((decide (0<e1.2.2.2))=false→(zdg.j2 r_) out27)
def zdg (d_:SDesc) (s_:(List SItem)) (r_:(List (List SItem))):Prop:=∃e1:SItem,at? s_ 0=some e1∧((0:Int)≤1∧1≤(s_.length:Int))∧∃e5:SNode,at? d_ e1.2.1=some e5∧(((e1.1==5))=true→(((e1.2.2.1==0))=true→∃r21:(List SItem),zcd ([]:(List SItem)) (s_.drop (1:Int).toNat) r21∧(([]:(List (List SItem))).length+[r21].length≤2147483648)∧(zdg.j1 r_) (([]:(List (List SItem)))++[r21]))∧(((e1.2.2.1==0))=false→(zdg.j1 r_) ([]:(List (List SItem)))))∧(((e1.1==5))=false→(((e1.1==2))=true→(((e1.2.2.1==0))=true→∃r43:(List SItem),zcd ([]:(List SItem)) (s_.drop (1:Int).toNat) r43∧(([]:(List (List SItem))).length+[r43].length≤2147483648)∧(zdg.j3 s_ r_ e1 e5) (([]:(List (List SItem)))++[r43]))∧(((e1.2.2.1==0))=false→(zdg.j3 s_ r_ e1 e5) ([]:(List (List SItem)))))∧(((e1.1==2))=false→(((e5.1==1))=true→∃r50:(List SItem),zcd ([]:(List SItem)) (s_.drop (1:Int).toNat) r50∧(([]:(List (List SItem))).length+[r50].length≤2147483648)∧r_=([]:(List (List SItem)))++[r50])∧(((e5.1==1))=false→(((e5.1==3))=true→∃r54:(List SItem),zcd [(3,e1.2.1,0,0)] (s_.drop (1:Int).toNat) r54∧(([]:(List (List SItem))).length+[r54].length≤2147483648)∧r_=([]:(List (List SItem)))++[r54])∧(((e5.1==3))=false→(((e5.1==4))=true→∃r58:(List SItem),zcd [(1,e5.2.1,0,0),(1,e5.2.2.1,0,0)] (s_.drop (1:Int).toNat) r58∧(([]:(List (List SItem))).length+[r58].length≤2147483648)∧r_=([]:(List (List SItem)))++[r58])∧(((e5.1==4))=false→(((e5.1==5))=true→∃r62:(List SItem),zcd [(1,e5.2.1,0,0)] (s_.drop (1:Int).toNat) r62∧∃r64:(List SItem),zcd [(1,e5.2.2.1,0,0)] (s_.drop (1:Int).toNat) r64∧(([]:(List (List SItem))).length+[r62,r64].length≤2147483648)∧r_=([]:(List (List SItem)))++[r62,r64])∧(((e5.1==5))=false→(((e5.1==6))=true→∃r68:(List SItem),zcd ([]:(List SItem)) (s_.drop (1:Int).toNat) r68∧∃r70:(List SItem),zcd [(1,e5.2.1,0,0),e1] (s_.drop (1:Int).toNat) r70∧(([]:(List (List SItem))).length+[r68,r70].length≤2147483648)∧r_=([]:(List (List SItem)))++[r68,r70])∧(((e5.1==6))=false→(((e5.1==7))=true→∃r74:(List SItem),zcd [(2,e1.2.1,e5.2.2.2.1,e5.2.2.2.2.1)] (s_.drop (1:Int).toNat) r74∧(([]:(List (List SItem))).length+[r74].length≤2147483648)∧r_=([]:(List (List SItem)))++[r74])∧(((e5.1==7))=false→r_=([]:(List (List SItem)))))))))))
def zc8.j1 (r_:(List SBranch)) (l11:(List SBranch)):Prop:=r_=l11
def zc8.l1 (n_:SDesc→(List SItem)→(List SBranch)→(List SBranch)→Prop) (d_:SDesc) (r8:(List (List SItem))) (X1:(List SBranch)→Prop):Nat→(List SBranch)→Int→Prop
 | 0,_,_=>False
 | k_0+1,l13,i14=>((decide (i14<(r8.length:Int)))=true→∃e20:(List SItem),at? r8 i14=some e20∧∃r22:(List SBranch),n_ d_ e20 l13 r22∧(InR .i64 (i14+1))∧zc8.l1 n_ d_ r8 X1 k_0 r22 (i14+1))∧((decide (i14<(r8.length:Int)))=false→X1 l13)
def zc8.n:Nat→SDesc→(List SItem)→(List SBranch)→(List SBranch)→Prop
 | 0,_,_,_,_=>False
 | k_+1,d_,s_,l_,r_=>∃r2:Bool,zn2 d_ s_ r2∧((r2)=true→∃r4:(List SItem),zcd ([]:(List SItem)) s_ r4∧∃r6:(List SBranch),zdi l_ r4 1 r6∧r_=r6)∧((r2)=false→∃r8:(List (List SItem)),zdg d_ s_ r8∧∃k15,zc8.l1 (zc8.n k_) d_ r8 (zc8.j1 r_) k15 l_ 0)
def zc8 (d_:SDesc) (s_:(List SItem)) (l_:(List SBranch)) (r_:(List SBranch)):Prop:=∃k_,zc8.n k_ d_ s_ l_ r_
def zia (d_:SDesc) (s_:(List SItem)) (r_:(List SBranch)):Prop:=∃r1:(List SBranch),zc8 d_ s_ ([]:(List SBranch)) r1∧r_=r1
set_option maxRecDepth 100000
set_option maxHeartbeats 2000000
set_option synthInstance.maxSize 100000
set_option synthInstance.maxHeartbeats 200000
theorem zpo {d_:SDesc} {s_:(List SItem)} {r_:Bool} (h:zkg d_ s_ r_):Fn Tryz.prog 142 [(Pd.rep En.SDesc d_),(Pd.rep (En.slice En.SItem) s_)] (Rq (Pd.rep En.bool r_)):=by
 unfold zkg at h;refine zbo Tryz.func142 J Tryz.ntmps142 (by rfl) (by simp) fun s0 a L=>?_;refine rA 2 L fun a s L=>?_;refine wp_seq_k fun K1 H1=>rA 3 L fun a s L=>?_;refine cn L h (fun h=>?_) fun h=>?_
 ·refine rA 1 L fun a s L=>?_;subst h;exact wp_ret (zdr J L J)
 ·refine wp_skip (H1 _ _ ?_);refine wp_seq_k fun K2 H2=>?_;obtain ⟨e3,h4,h⟩:=h;refine rs (sl 3 (p1 h4) L fun a s L=>?_);refine zbb En.SItem (z:=(0,0,0,0)) 5 L zio J J J J fun a s g5 hg_ L=>?_;refine sB 5 L fun s L=>?_;refine es (rA 2 L fun a s L=>?_);refine wp_block (rA 2 L fun a s L=>?_);refine cn L h (fun h=>?_) fun h=>?_
  ·obtain ⟨e6,h7,h⟩:=h;refine ra 8 (p1 h7) L fun a s L=>?_;obtain ⟨e8,h9,h⟩:=h;refine rs (sA 4 L fun a s L=>?_);refine sv (t_g1 J J J (fun hc_=>t_gidxb (g:=1) (xs:=gdat1) (by simp [gtab]) J (opc hc_) (h9 hc_) Ud.h (by rfl) J J)) L fun a s L=>?_;refine sA 3 L fun a s L=>?_;refine es ?_;subst h;exact wp_ret (zdr J L J)
  ·refine wp_seq_k fun K10 H10=>?_;refine rA 2 L fun a s L=>?_;refine cn L h (fun h=>?_) fun h=>?_
   ·refine wp_skip (H10 _ _ ?_);refine cn L h (fun h=>?_) fun h=>?_
    ·refine rA 1 L fun a s L=>?_;subst h;exact wp_ret (zdr J L J)
    ·refine wp_skip (H2 _ _ ?_);refine rA 1 L fun a s L=>?_;subst h;exact wp_ret (zdr J L J)
   ·refine rg ?_;refine sA 2 L fun a s L=>?_;refine en' (H10 _ _ ?_);refine cn L h (fun h=>?_) fun h=>?_
    ·refine rA 1 L fun a s L=>?_;subst h;exact wp_ret (zdr J L J)
    ·refine wp_skip (H2 _ _ ?_);refine rA 1 L fun a s L=>?_;subst h;exact wp_ret (zdr J L J)
theorem zci {rest_:(List SItem)} {list_:(List SItem)} {r_:(List SItem)} (h:zcl rest_ list_ r_):Fn Tryz.prog 169 [(Pd.rep (En.slice En.SItem) rest_),(Pd.rep (En.slice En.SItem) list_)] (Ro En.SItem 77 r_):=by
 unfold zcl at h;refine zbo Tryz.func169 J Tryz.ntmps169 (by rfl) (by simp) fun s0 a L=>?_;refine rs (sno En.SItem 77 L fun a s L=>?_);refine es ?_;obtain ⟨r1,h2,h⟩:=h;refine rs (sA 3 L fun a s L=>?_);refine zch 8 L (zda h2) opz J J J J fun a s og3 hg_ L=>?_;refine sA 1 L fun a s L=>?_;refine es ?_;subst h;exact wp_ret (zf4 J L J)
theorem zeq {i_:Int} {r_:SItem} (h:ze9 i_ r_):Fn Tryz.prog 170 [(Pi i_)] (Rq (Pd.rep En.SItem r_)):=by
 unfold ze9 at h;refine zbo Tryz.func170 J Tryz.ntmps170 (by rfl) (by simp) fun s0 a L=>?_;refine rs (zbb En.SItem (z:=(0,0,0,0)) 2 L zio J J J J fun a s g1 hg_ L=>?_);refine es (rs ?_);refine sA 1 L fun a s L=>?_;refine sv (zb3 (x:=(1,i_,0,0)) (ps:=[(0,.const (.int .i64 1)),(1,.tmp 3)]) zio J stt77 (.cons (i:=0) op J (zbd (zp _ _ _)) (.cons (i:=1) op J (zo (zbd (zp _ _ _)) J) .nil)) J J) L fun a s L=>?_;refine sB 2 L fun s L=>?_;refine es ?_;subst h;exact wp_ret (retb J zlm L J)
theorem zr5 {d_:SDesc} {s_:(List SItem)} {r_:(List (List SItem))} (h:zcz d_ s_ r_):Fn Tryz.prog 144 [(Pd.rep En.SDesc d_),(Pd.rep (En.slice En.SItem) s_)] (Ro (En.slice En.SItem) 47 r_):=by
 unfold zcz at h;refine zbo Tryz.func144 J Tryz.ntmps144 (by rfl) (by simp) fun s0 a L=>?_;refine rs (sA 1 L fun a s L=>?_);refine sno (En.slice En.SItem) 47 L fun a s L=>?_;refine es ?_;obtain ⟨e2,h3,h4,h⟩:=h;refine wp_seq ?_;replace L:=L.kk (L':=[(1,(Pd.rep (En.slice En.SItem) s_)),(2,(Pd.ptr En.SDesc d_))]);obtain ⟨K1,H1,nK1,L⟩:=L.mark 999983;refine rdf 8 zdq L (by kernel_rfl) fun s _ L=>?_;refine zei 3 12 L (by rfl) (by kernel_rfl) (by kernel_rfl) (by kernel_rfl) (fun _ _ _ _ h=>h) (q:=(Pd.rep (En.slice En.SItem) s_)) (zii (O 1 J) J J) J J fun a L=>?_;refine zei 4 13 L (by rfl) (by kernel_rfl) (by kernel_rfl) (by kernel_rfl) (fun _ _ _ _ h=>h) (q:=(Pd.rep (En.slice En.SItem) (s_.drop (1:Int).toNat))) (y_from (O 12 J) oI h4 U47 zlm J J) J J fun a L=>?_;refine rc_go 6 [(Pd.rep (En.slice En.SItem) s_),(Pd.ptr En.SItem e2),(Pd.rep En.SItem e2),(Pd.rep (En.slice En.SItem) s_),(Pd.rep (En.slice En.SItem) (s_.drop (1:Int).toNat)),(Pd.ebox En.SItem s0.w.heap.size K1 (0,0,0,0))] [3,4] K1 [5] nK1 L (.k 13 (.k 12 (.k 999983 (.k 1 (.k 2 .nil))))) (by kernel_rfl) (by kernel_rfl) (by kernel_rfl) (by kernel_rfl) (.cons (i:=3) J J J J (.cons (i:=4) J J J J .nil)) J J ?_ ?_
 ·refine zms.t (zn (O 1 J) J J) nE ?_;refine zms.t (znl (O 9 J) oI h3 U47 zlm J J) nE ?_;refine zms.t (zb2 zlm (O 10 J) J J) nE ?_;refine zms.skip J nE ?_;refine zms.skip J nE ?_;refine zms.c (t_allocx En.SItem (z:=(0,0,0,0)) (K:=K1) (m:=999983) J nK1 zio J J) J ?_;exact zms.nil
 intro a s _ L;obtain ⟨g5,hg_,L⟩:=L.openb 5 rfl;replace L:=L.kk (L':=[(2,(Pd.ptr En.SDesc d_)),(5,(Pd.box En.SItem s0.w.heap.size g5 (0,0,0,0))),(11,(Pd.rep En.SItem e2)),(13,(Pd.rep (En.slice En.SItem) (s_.drop (1:Int).toNat)))]);refine dp ?_;refine sB 5 L fun s L=>?_;refine sA 1 L fun a s L=>?_;refine es ?_;obtain ⟨e6,h7,h⟩:=h;refine rs (sl 6 (p1 h7) L fun a s L=>?_);have lt_d9:=L.blt 5 rfl;refine zbb En.SNode (z:=(0,0,0,0,0,(0#256),([]:Str))) 7 L zkk J J J J fun a s g8 hg_ L=>?_;have d9:=Dis.newg hg_ lt_d9;refine sB 7 L fun s L=>?_;refine es (wp_seq_k fun K10 H10=>?_);refine wp_block (rA 9 L fun a s L=>?_);refine cn L h (fun h=>?_) fun h=>?_
 ·obtain ⟨r11,h12,h⟩:=h;refine rs (sl 2 (p1 ((zci h12).frz)) L fun a s L=>?_);have lt_d15:=L.blt 7 rfl;have lt_d14:=L.blt 5 rfl;refine zfk (xs:=[.tmp 30]) 31 L (.cons op .nil) Ud.h Tq.h J J (by decide) J J J J fun a s g13 hg_ L=>?_;have d14:=Dis.newg hg_ lt_d14;have d15:=Dis.newg hg_ lt_d15;refine sA 1 L fun a s L=>?_;refine es ?_;subst h;exact wp_ret (zf4 J L J)
 ·refine rA 4 L fun a s L=>?_;refine cn L h (fun h=>?_) fun h=>?_
  ·refine rs ?_;refine sno (En.slice En.SItem) 47 L fun a s L=>?_;refine es ?_;subst h;exact wp_ret (zf4 J L J)
  ·refine rA 4 L fun a s L=>?_;refine cn L h (fun h=>?_) fun h=>?_
   ·refine rs ?_;refine sno (En.slice En.SItem) 47 L fun a s L=>?_;refine es (wp_seq_k fun K16 H16=>?_);refine rA 3 L fun a s L=>?_;have J19:∀(out17:(List (List SItem))) (og18:Option Nat) (a:Act) (s:St),Has N0 139 s0 a s [(5,(Pd.box En.SItem s0.w.heap.size g5 e2)),(6,(Pd.rep (En.slice En.SItem) (s_.drop (1:Int).toNat))),(7,(Pd.box En.SNode s0.w.heap.size g8 e6)),(8,(Pd.row (En.slice En.SItem) s0.w.heap.size 47 og18 out17))]→Dis (some g5) (some g8)→Dis (some g5) og18→Dis (some g8) og18→((zcz.j2 s_ r_ e2 e6) out17)→K16 a s.w:=by
     intro out17 og18 a s L d20 d21 d22 h;unfold zcz.j2 at h;show K16 a s.w;refine H16 _ _ (wp_seq_k fun K23 H23=>?_);refine rA 3 L fun a s L=>?_;have J26:∀(out24:(List (List SItem))) (og25:Option Nat) (a:Act) (s:St),Has N0 139 s0 a s [(8,(Pd.row (En.slice En.SItem) s0.w.heap.size 47 og25 out24))]→((zcz.j1 r_) out24)→K23 a s.w:=by
      intro out24 og25 a s L h;unfold zcz.j1 at h;show K23 a s.w;refine H23 _ _ (rA 2 L fun a s L=>?_);subst h;exact wp_ret (zf4 J L J)
     refine cn L h (fun h=>?_) fun h=>?_
     ·obtain ⟨r27,h28,h29,h30,r31,h32,h33,h⟩:=h;refine rda zdq 20 [(Pd.row (En.slice En.SItem) s0.w.heap.size 47 og18 out17),(Pd.rep (En.slice En.SItem) (s_.drop (1:Int).toNat)),(Pd.optr (En.int .i64) s0.w.heap.size (some g8) (1) e6.2.1),(Pi e6.2.1),(Pd.rep En.SItem r27),(Pd.optr (En.int .i64) s0.w.heap.size (some g5) (0) e2.1),(Pi e2.1),(Pd.optr (En.int .i64) s0.w.heap.size (some g5) (1) e2.2.1),(Pi e2.2.1),(Pd.optr (En.int .i64) s0.w.heap.size (some g5) (2) e2.2.2.1),(Pi e2.2.2.1),(Pi (e2.2.2.1-1)),(Pi (max (e2.2.2.1-1) 0)),(Pd.optr (En.int .i64) s0.w.heap.size (some g5) (3) e2.2.2.2),(Pi e2.2.2.2),(Pi (e2.2.2.2-1)),(Pd.rep En.SItem (e2.1,e2.2.1,(max (e2.2.2.1-1) 0),e2.2.2.2-1)),(Pd.rep (En.slice En.SItem) [r27,(e2.1,e2.2.1,(max (e2.2.2.1-1) 0),e2.2.2.2-1)]),(Pd.rep (En.slice En.SItem) r31),(Pd.rep (En.slice (En.slice En.SItem)) [r31])] L (by kernel_rfl) J J ?_ ?_
      ·refine zbe.cons (zn (O 8 J) J J) ?_;refine zbe.cons (zn (O 6 J) J J) ?_;refine zbe.cons (zqr (off:=1) (O 7 J) U68 J (zq (zbi (z6 _ _)) J) J ty3 J J) ?_;refine zbe.cons (zcn ty3 (O 53 J) J J) ?_;refine zbe.cons (zeu (zeq h28) (xs:=[.tmp 54]) (.cons (O 54 J) .nil) J J) ?_;refine zbe.cons (zqr (off:=0) (O 5 J) U77 J (zbi (z6 _ _)) J ty3 J J) ?_;refine zbe.cons (zcn ty3 (O 56 J) J J) ?_;refine zbe.cons (zqr (off:=1) (O 5 J) U77 J (zq (zbi (z6 _ _)) J) J ty3 J J) ?_;refine zbe.cons (zcn ty3 (O 58 J) J J) ?_;refine zbe.cons (zqr (off:=2) (O 5 J) U77 J (zq (zq (zbi (z6 _ _)) J) J) J ty3 J J) ?_;refine zbe.cons (zcn ty3 (O 60 J) J J) ?_;refine zbe.cons (zo6 (O 61 J) oI h29 J J) ?_;refine zbe.cons (t_max (O 62 J) oI J J) ?_;refine zbe.cons (zqr (off:=3) (O 5 J) U77 J (zq (zq (zq (z6 _ _) J) J) J) J ty3 J J) ?_;refine zbe.cons (zcn ty3 (O 64 J) J J) ?_;refine zbe.cons (zo6 (O 65 J) oI h30 J J) ?_;refine zbe.cons (zb3 (x:=(e2.1,e2.2.1,(max (e2.2.2.1-1) 0),e2.2.2.2-1)) (ps:=[(0,.tmp 57),(1,.tmp 59),(2,.tmp 63),(3,.tmp 66)]) zio J stt77 (.cons (i:=0) (O 57 J) J (zbd (zp _ _ _)) (.cons (i:=1) (O 59 J) J (zo (zbd (zp _ _ _)) J) (.cons (i:=2) (O 63 J) J (zo (zo (zbd (zp _ _ _)) J) J) (.cons (i:=3) (O 66 J) J (zo (zo (zo (zp _ _ _) J) J) J) .nil)))) J J) ?_;refine zbe.cons (t_lit (xs:=[.tmp 55,.tmp 67]) (.cons (O 55 J) (.cons (O 67 J) .nil)) U46 zlm J J (by decide) J J) ?_;refine zbe.cons (zeu ((zci h32).frz) (xs:=[.tmp 52,.tmp 68]) (.cons (O 52 J) (.cons (O 68 J) .nil)) J J) ?_;refine zbe.cons (t_lit (xs:=[.tmp 69]) (.cons (O 69 J) .nil) U25 zqq J J (by decide) J J) ?_
       exact zbe.nil
      intro a s _ L;replace L:=L.kk (L':=[(8,(Pd.row (En.slice En.SItem) s0.w.heap.size 47 og18 out17)),(51,(Pd.row (En.slice En.SItem) s0.w.heap.size 47 og18 out17)),(70,(Pd.rep (En.slice (En.slice En.SItem)) [r31]))]);refine dp ?_;refine zeb 71 L op op Ud.h Tq.h h33 J J J J ka fun a s og34 hg_ L=>?_;refine sA 1 L fun a s L=>?_;refine en' ?_;exact J26 (out17++[r31]) og34 a s (L.kk) h
     ·refine wp_skip ?_;exact J26 out17 og18 a s (L.kk) h
    refine cn L h (fun h=>?_) fun h=>?_
    ·obtain ⟨r35,h36,h37,h⟩:=h;refine rg (sl 4 (p1 ((zci h36).frz)) L fun a s L=>?_);have lt_og38_0:=L.blt 5 rfl;have lt_og38_1:=L.blt 7 rfl;refine zeb 47 L op op Ud.h Tq.h h37 J J J J ka fun a s og38 hg_ L=>?_;have d39:=Dis.app hg_ Dis.none lt_og38_0;have d40:=Dis.app hg_ Dis.none lt_og38_1;refine sA 1 L fun a s L=>?_;refine en' ?_;exact J19 (([]:(List (List SItem)))++[r35]) og38 a s (L.kk) (Dis.symm d9) (Dis.symm d39) (Dis.symm d40) h
    ·refine wp_skip ?_;exact J19 ([]:(List (List SItem))) none a s (L.kk) (Dis.symm d9) (Dis.symm Dis.none) (Dis.symm Dis.none) h
   ·refine wp_skip (H10 _ _ ?_);refine wp_seq_k fun K41 H41=>rA 2 L fun a s L=>?_;refine wp_block (rA 2 L fun a s L=>?_);refine cn L h (fun h=>?_) fun h=>?_
    ·obtain ⟨r42,h43,h⟩:=h;refine rs (sl 2 (p1 ((zci h43).frz)) L fun a s L=>?_);have lt_d46:=L.blt 7 rfl;have lt_d45:=L.blt 5 rfl;refine zfk (xs:=[.tmp 78]) 79 L (.cons op .nil) Ud.h Tq.h J J (by decide) J J J J fun a s g44 hg_ L=>?_;have d45:=Dis.newg hg_ lt_d45;have d46:=Dis.newg hg_ lt_d46;refine sA 1 L fun a s L=>?_;refine es ?_;subst h;exact wp_ret (zf4 J L J)
    ·refine rA 2 L fun a s L=>?_;refine cn L h (fun h=>?_) fun h=>?_
     ·obtain ⟨r47,h48,h⟩:=h;refine rs (sA 3 L fun a s L=>?_);refine sv (zb3 (x:=(3,e2.2.1,0,0)) (ps:=[(0,.const (.int .i64 3)),(1,.tmp 84)]) zio J stt77 (.cons (i:=0) op J (zbd (zp _ _ _)) (.cons (i:=1) op J (zo (zbd (zp _ _ _)) J) .nil)) J J) L fun a s L=>?_;refine sl 2 (p1 ((zci h48).frz)) L fun a s L=>?_;have lt_d51:=L.blt 7 rfl;have lt_d50:=L.blt 5 rfl;refine zfk (xs:=[.tmp 87]) 88 L (.cons op .nil) Ud.h Tq.h J J (by decide) J J J J fun a s g49 hg_ L=>?_;have d50:=Dis.newg hg_ lt_d50;have d51:=Dis.newg hg_ lt_d51;refine sA 1 L fun a s L=>?_;refine es ?_;subst h;exact wp_ret (zf4 J L J)
     ·refine rA 2 L fun a s L=>?_;refine cn L h (fun h=>?_) fun h=>?_
      ·obtain ⟨r52,h53,r54,h55,r56,h57,h⟩:=h;refine wp_seq (rdx 9 (pp (zeq h53) (pp (zeq h55) (p1 ((zci h57).frz)))) L fun a s L=>?_);have lt_d60:=L.blt 7 rfl;have lt_d59:=L.blt 5 rfl;refine zfk (xs:=[.tmp 99]) 100 L (.cons op .nil) Ud.h Tq.h J J (by decide) J J J J fun a s g58 hg_ L=>?_;have d59:=Dis.newg hg_ lt_d59;have d60:=Dis.newg hg_ lt_d60;refine sA 1 L fun a s L=>?_;refine es ?_;subst h;exact wp_ret (zf4 J L J)
      ·refine rA 2 L fun a s L=>?_;refine cn L h (fun h=>?_) fun h=>?_
       ·obtain ⟨r61,h62,r63,h64,r65,h66,r67,h68,h⟩:=h;refine wp_seq (rdx 12 (pp (zeq h62) (pp ((zci h64).frz) (pp (zeq h66) (p1 ((zci h68).frz))))) L fun a s L=>?_);have lt_d71:=L.blt 7 rfl;have lt_d70:=L.blt 5 rfl;refine zfk (xs:=[.tmp 108,.tmp 114]) 115 L (.cons op (.cons op .nil)) Ud.h Tq.h J J (by decide) J J J J fun a s g69 hg_ L=>?_;have d70:=Dis.newg hg_ lt_d70;have d71:=Dis.newg hg_ lt_d71;refine sA 1 L fun a s L=>?_;refine es ?_;subst h;exact wp_ret (zf4 J L J)
       ·refine rA 2 L fun a s L=>?_;refine cn L h (fun h=>?_) fun h=>?_
        ·obtain ⟨r72,h73,r74,h75,r76,h77,h⟩:=h;refine wp_seq (rdx 9 (pp ((zci h73).frz) (pp (zeq h75) (p1 ((zci h77).frz)))) L fun a s L=>?_);have lt_d80:=L.blt 7 rfl;have lt_d79:=L.blt 5 rfl;refine zfk (xs:=[.tmp 119,.tmp 126]) 127 L (.cons op (.cons op .nil)) Ud.h Tq.h J J (by decide) J J J J fun a s g78 hg_ L=>?_;have d79:=Dis.newg hg_ lt_d79;have d80:=Dis.newg hg_ lt_d80;refine sA 1 L fun a s L=>?_;refine es ?_;subst h;exact wp_ret (zf4 J L J)
        ·refine wp_skip (H41 _ _ ?_);obtain ⟨r81,h82,h⟩:=h;refine rs (sA 7 L fun a s L=>?_);refine sv (zb3 (x:=(2,e2.2.1,e6.2.2.2.1,e6.2.2.2.2.1)) (ps:=[(0,.const (.int .i64 2)),(1,.tmp 130),(2,.tmp 132),(3,.tmp 134)]) zio J stt77 (.cons (i:=0) op J (zbd (zp _ _ _)) (.cons (i:=1) op J (zo (zbd (zp _ _ _)) J) (.cons (i:=2) op J (zo (zo (zbd (zp _ _ _)) J) J) (.cons (i:=3) op J (zo (zo (zo (zp _ _ _) J) J) J) .nil)))) J J) L fun a s L=>?_;refine sl 2 (p1 ((zci h82).frz)) L fun a s L=>?_;have lt_d85:=L.blt 7 rfl;have lt_d84:=L.blt 5 rfl;refine zfk (xs:=[.tmp 137]) 138 L (.cons op .nil) Ud.h Tq.h J J (by decide) J J J J fun a s g83 hg_ L=>?_;have d84:=Dis.newg hg_ lt_d84;have d85:=Dis.newg hg_ lt_d85;refine sA 1 L fun a s L=>?_;refine es ?_;subst h;exact wp_ret (zf4 J L J)
end Go.Proofs.YtahgmdbioafmbaaGreatDoor.V
namespace Go.Proofs.YtahgmdbioafmbaaGreatDoor.VD
open Go
set_option linter.unusedVariables false
structure St where
 w:World
 X:Nat→Prop
 lt:∀b,X b→b<w.heap.size
def DR (w w':World):Prop:=w.drawn≤w'.drawn
theorem DR.eq {w w':World} (h:w'.drawn=w.drawn):DR w w':=Nat.le_of_eq h.symm
theorem DR.succ {w w':World} (h:w'.drawn=w.drawn+1):DR w w':=by unfold DR;omega
theorem DR.trans {a b c:World} (h:DR a b) (k:DR b c):DR a c:=Nat.le_trans h k
structure Mv (T:Nat→Prop) (s s':St):Prop where
 dr:DR s.w s'.w
 os:s'.w.os=s.w.os
 tape:s'.w.tape=s.w.tape
 output:s'.w.output=s.w.output
 size:s.w.heap.size≤s'.w.heap.size
 blk:∀b,b<s.w.heap.size→¬ T b→s'.w.heap[b]?=s.w.heap[b]?
 tx:∀b,T b→s.X b
 xx:∀b,s'.X b→s.X b∨s.w.heap.size≤b
structure Ex (s s':St):Prop where
 mv:Mv (fun _=>False) s s'
 keep:∀b,s.X b→s'.X b
theorem Mv.refl (T:Nat→Prop) (s:St) (h:∀b,T b→s.X b):Mv T s s:=⟨DR.eq rfl,rfl,rfl,rfl,Nat.le_refl _,fun _ _ _=>rfl,h,fun _ h=>.inl h⟩
theorem Ex.refl (s:St):Ex s s:=⟨Mv.refl _ s (fun _ h=>h.elim),fun _ h=>h⟩
theorem Ex.trans {a b c:St} (h:Ex a b) (k:Ex b c):Ex a c:=
 ⟨⟨h.mv.dr.trans k.mv.dr,k.mv.os.trans h.mv.os,k.mv.tape.trans h.mv.tape,k.mv.output.trans h.mv.output,Nat.le_trans h.mv.size k.mv.size,
  fun i hi hn=>(k.mv.blk i (Nat.lt_of_lt_of_le hi h.mv.size) hn).trans (h.mv.blk i hi hn),fun _ h=>h.elim,
  fun i hi=>(k.mv.xx i hi).elim (fun j=>h.mv.xx i j) (fun j=>.inr (Nat.le_trans h.mv.size j))⟩,fun i hi=>k.keep i (h.keep i hi)⟩
def Gl (s:St):Prop:=(∀p∈V.gtab,¬ s.X p.1∧∃t fr,s.w.heap[p.1]?=some (.cells p.2.toArray t fr)) ∧
 ∀p∈V.gmap,¬ s.X p.1∧∃m t fr es clock ys,s.w.heap[p.1]?=some (.cells #[.map (some m)] t fr)∧¬ s.X m∧s.w.heap[m]?=some (.map es clock)∧V.Fmst es clock ys∧ys.Perm p.2
theorem Gl.mv {T:Nat→Prop} {s s':St} (h:Gl s) (m:Mv T s s'):Gl s':=by
 have key:∀b o,¬ s.X b→s.w.heap[b]?=some o→¬ s'.X b∧s'.w.heap[b]?=some o:=fun b o h1 h2=>by
  have hlt:b<s.w.heap.size:=(Array.getElem?_eq_some_iff.1 h2).1;refine ⟨fun hx=>(m.xx _ hx).elim h1 (fun hk=>by omega), ?_⟩;rw [m.blk _ hlt (fun ht=>h1 (m.tx _ ht))];exact h2
 refine ⟨fun p hp=>?_,fun p hp=>?_⟩
 ·obtain ⟨h1,t,fr,h2⟩:=h.1 p hp;obtain ⟨k1,k2⟩:=key _ _ h1 h2;exact ⟨k1,t,fr,k2⟩
 ·obtain ⟨h1,b,t,fr,es,clock,ys,h2,h3,h4,h5,h6⟩:=h.2 p hp;obtain ⟨k1,k2⟩:=key _ _ h1 h2;obtain ⟨k3,k4⟩:=key _ _ h3 h4;exact ⟨k1,b,t,fr,es,clock,ys,k2,k3,k4,h5,h6⟩
abbrev N0:Nat→Prop:=fun _=>False
structure Fr (M:Nat→Prop) (s s':St):Prop where
 mv:Mv M s s'
 keep:∀b,s.X b→s'.X b
theorem Fr.ex {s s':St} (h:Fr N0 s s'):Ex s s':=⟨h.mv,h.keep⟩
theorem Fr.refl {M:Nat→Prop} {s:St} (h:∀b,M b→s.X b):Fr M s s:=⟨Mv.refl M s h,fun _ h=>h⟩
theorem Fr.trans {M:Nat→Prop} {a b c:St} (h:Fr M a b) (k:Ex b c):Fr M a c:=
 ⟨⟨h.mv.dr.trans k.mv.dr,k.mv.os.trans h.mv.os,k.mv.tape.trans h.mv.tape,k.mv.output.trans h.mv.output,Nat.le_trans h.mv.size k.mv.size,
  fun i hi hn=>(k.mv.blk i (Nat.lt_of_lt_of_le hi h.mv.size) (fun h=>h)).trans (h.mv.blk i hi hn),h.mv.tx,
  fun i hi=>(k.mv.xx i hi).elim (fun j=>h.mv.xx i j) (fun j=>.inr (Nat.le_trans h.mv.size j))⟩,fun i hi=>k.keep i (h.keep i hi)⟩
structure Pd where
 p:St→Value→Prop
 own:Nat→Prop
 mv:∀{T s s' v},Mv T s s'→(∀b,own b→¬ T b∧(s.X b→s'.X b))→p s v→p s' v
theorem Pd.ex {q:Pd} {s s':St} {v:Value} (h:Ex s s') (hq:q.p s v):q.p s' v:=q.mv h.mv (fun b _=>⟨id,h.keep b⟩) hq
def Pd.any:Pd:=⟨fun _ _=>True,fun _=>False,fun _ _ h=>h⟩
abbrev Lst:=List (Nat × Pd)
def lk:Lst→Nat→Option Pd
 | [],_=>none
 | (d,q)::r,t=>bif Nat.beq d t then some q else lk r t
structure Has (M:Nat→Prop) (n:Nat) (s0:St) (a:Act) (s:St) (L:Lst):Prop where
 size:a.tmps.size=n
 defers:a.defers=[]
 ent:Fr M s0 s
 gl:Gl s0
 at_:∀t q,lk L t=some q→q.p s (a.eval (.tmp t))
theorem Has.gls {M:Nat→Prop} {n:Nat} {s0:St} {a:Act} {s:St} {L:Lst} (h:Has M n s0 a s L):Gl s:=h.gl.mv h.ent.mv
theorem Has.get {M:Nat→Prop} {n:Nat} {s0:St} {a:Act} {s:St} {L:Lst} (h:Has M n s0 a s L) (t:Nat) {q:Pd} (e:lk L t=some q):q.p s (a.eval (.tmp t)):=h.at_ t q e
theorem zd1 {a:Act} {d n:Nat} {v:Value} (hn:a.tmps.size=n) (hd:Nat.blt d n=true):(a.put (some d) v).eval (.tmp d)=v:=by
 have:d<a.tmps.size:=by rw [hn];exact Nat.le_of_ble_eq_true hd
 simp [Act.eval,Act.put,Array.getD,this]
theorem zej {a:Act} {d t:Nat} {v:Value} (h:d≠t):(a.put (some d) v).eval (.tmp t)=a.eval (.tmp t):=by
 simp [Act.eval,Act.put,Array.getElem?_setIfInBounds_ne h]
theorem zf8 {d t:Nat} (h:d≠t):Nat.beq d t=false:=by
 rw [← Bool.not_eq_true];exact fun e=>h (Nat.eq_of_beq_eq_true e)
theorem Has.put {M:Nat→Prop} {n:Nat} {s0:St} {a:Act} {s s':St} {L:Lst} (h:Has M n s0 a s L) (e:Ex s s') {d:Nat} (hd:Nat.blt d n=true) {v:Value} {q:Pd} (hq:q.p s' v):
  Has M n s0 (a.put (some d) v) s' ((d,q)::L) where
 size:=by simp [Act.put,h.size]
 defers:=h.defers
 ent:=h.ent.trans e
 gl:=h.gl
 at_:=by
  intro t q' hl;unfold lk at hl
  by_cases ht:d=t
  ·subst ht;simp at hl;subst hl;rw [zd1 h.size hd];exact hq
  ·have:Nat.beq d t=false:=zf8 ht;rw [this] at hl;rw [zej ht];exact Pd.ex e (h.at_ t q' hl)
theorem Has.ex {M:Nat→Prop} {n:Nat} {s0:St} {a:Act} {s s':St} {L:Lst} (h:Has M n s0 a s L) (e:Ex s s'):Has M n s0 a s' L where
 size:=h.size
 defers:=h.defers
 ent:=h.ent.trans e
 gl:=h.gl
 at_:=fun t q hl=>Pd.ex e (h.at_ t q hl)
theorem Has.sub {M:Nat→Prop} {n:Nat} {s0:St} {a:Act} {s:St} {L L':Lst} (h:Has M n s0 a s L) (hs:∀t q,lk L' t=some q→q.p s (a.eval (.tmp t))):Has M n s0 a s L':=
 ⟨h.size,h.defers,h.ent,h.gl,hs⟩
theorem Has.cons {M:Nat→Prop} {n:Nat} {s0:St} {a:Act} {s:St} {L:Lst} (h:Has M n s0 a s L) (d:Nat) {q:Pd} (hq:q.p s (a.eval (.tmp d))):Has M n s0 a s ((d,q)::L):=by
 refine ⟨h.size,h.defers,h.ent,h.gl,fun t q' hl=>?_⟩;unfold lk at hl
 by_cases ht:d=t
 ·subst ht;simp at hl;subst hl;exact hq
 ·have:Nat.beq d t=false:=zf8 ht;rw [this] at hl;exact h.at_ t q' hl
def OpR (P:Program) (ops:Array Oper) (o:Oper) (a:Act) (s:St) (K:Value→St→Prop):Prop:=
 ∀(Q:Exit→Act→World→Prop) (k:Act→World→Prop),(∀v s',K v s'→k (a.put o.dst v) s'.w) →
  (if Region.wanted o (yielded ops a.tmps) then o.wp P a s.w k Q else k (a.put o.dst undef) s.w)
def T (P:Program) (ops:Array Oper) (o:Oper) (L:Lst) (q:Pd):Prop:=
 ∀M n s0 a s,Has M n s0 a s L→OpR P ops o a s (fun v s'=>Ex s s'∧q.p s' v)
theorem OpR.of_run {P:Program} {ops:Array Oper} {o:Oper} {a:Act} {s:St} {K:Value→St→Prop} (hg:o.guard=none) {v:Value} {s':St}
  (h:(execOp a.eval o).run P s.w = .ok (.value v) s'.w) (hK:K v s'):OpR P ops o a s K:=by
 intro Q k hk;simp only [Region.wanted,hg,if_true];unfold Oper.wp;rw [h];exact hk v s' hK
theorem st {P:Program} {ops:Array Oper} {Q:Exit→Act→World→Prop} {rest:List Oper} {o:Oper} {M:Nat→Prop} {n:Nat} {s0:St} {a:Act} {s:St} {L:Lst} {q:Pd} (d:Nat)
  (h:T P ops o L q) (hd:o.dst=some d) (hn:Nat.blt d n=true) (hL:Has M n s0 a s L)
  (k:∀a' s',Ex s s'→Has M n s0 a' s' ((d,q)::L)→wpList P ops Q rest a' s'.w):wpList P ops Q (o::rest) a s.w:=by
 refine wpList_step fun K hK=>?_;refine h M n s0 a s hL Q K fun v s' ⟨e,hq⟩=>hK _ _ ?_;rw [hd];exact k _ s' e (hL.put e hn hq)
theorem sx {P:Program} {ops:Array Oper} {Q:Exit→Act→World→Prop} {rest:List Oper} {o:Oper} {M:Nat→Prop} {n:Nat} {s0:St} {a:Act} {s:St} {L:Lst} {q:Pd} (d:Nat)
  (h:T P ops o L q) (hL:Has M n s0 a s L) (k:∀a' s',Ex s s'→Has M n s0 a' s' ((d,q)::L)→wpList P ops Q rest a' s'.w) (hd:o.dst=some d:=by rfl) (hn:Nat.blt d n=true:=by rfl):wpList P ops Q (o::rest) a s.w:=st d h hd hn hL k
theorem sw {P:Program}{ops:Array Oper}{Q:Exit→Act→World→Prop}{rest:List Oper}{o:Oper}{M:Nat→Prop}{n:Nat}{s0:St}{a:Act}{s:St}{L:Lst}{q:Pd}(d:Nat)
  (h:T P ops o L q) (hL:Has M n s0 a s L) (k:∀a' s',Has M n s0 a' s' ((d,q)::L)→wpList P ops Q rest a' s'.w) (hd:o.dst=some d:=by rfl) (hn:Nat.blt d n=true:=by rfl):wpList P ops Q (o::rest) a s.w:=st d h hd hn hL fun a s _ h=>k a s h
theorem nE {p:Nat→Prop} (b:Nat) (h:False):p b:=h.elim
theorem en' {P:Program} {ops:Array Oper} {Q:Exit→Act→World→Prop} {a:Act} {w:World} (h:Q .normal a w):wpList P ops Q [] a w:=h
theorem rg {P:Program} {id:Nat} {l:List Oper} {Q:Exit→Act→World→Prop} {a:Act} {w:World} (h:wpList P l.toArray Q l a w):(Code.region id l.toArray false).wp P Q a w:=wp_region_lit h
def zh2 (ops:Array Oper) (qs:List Pd):List Edge→Lst→Lst
 | [],L=>L
 | e::r,L=>match Region.binds .any e,(ops[e.on]?).bind (·.dst),qs[e.on]? with
  | true,some d,some q=>(d,q)::zh2 ops qs r L
  | _,_,_=>zh2 ops qs r L
def zkv (ops:Array Oper):Nat→Nat→Nat→Bool
 | 0,_,_=>false
 | f+1,i,k=>match ops[i]? with
  | none=>false
  | some o=>(o.after.toList.any fun e=>Region.binds .any e&&Nat.beq e.on k)||(o.after.toList.any fun e=>Region.binds .any e&&zkv ops f e.on k)
theorem zdx {ops:Array Oper} {p:Nat→Prop} (hp:∀i o,p i→ops[i]?=some o→∀e∈o.after.toList,Region.binds .any e=true→p e.on):
  ∀(f i k:Nat),zkv ops f i k=true→(∀o,ops[i]?=some o→∀e∈o.after.toList,Region.binds .any e=true→p e.on)→p k:=by
 intro f
 induction f with
 | zero=>intro i k h;cases h
 | succ f ih=>
  intro i k h hi;unfold zkv at h;cases ho:ops[i]? with
  | none=>rw [ho] at h;cases h
  | some o=>
   simp only [ho,Bool.or_eq_true,List.any_eq_true,Bool.and_eq_true] at h;rcases h with ⟨e,he,hb,hk⟩ | ⟨e,he,hb,hk⟩
   ·rw [← Nat.eq_of_beq_eq_true hk];exact hi o ho e he hb
   ·have:=hi o ho e he hb;exact ih e.on k hk fun o' ho'=>hp e.on o' this ho'
def zdy (ops:Array Oper) (m n:Nat) (ks:List Nat) (F:List Nat):Bool:=
 (F.all fun k=>Nat.blt k m) &&
 (List.range ops.size).all fun i=>match ops[i]? with
  | none=>false
  | some o=>(o.after.toList.all fun e=>!Region.binds .any e||Nat.blt e.on i) &&
   (if i<m then F.contains i||(match o.dst with
    | none=>false
    | some d=>Nat.blt d n&&ks.all (fun t=>!Nat.beq t d)&&(List.range m).all fun j=>Nat.beq j i||!((ops[j]?).bind (·.dst)==some d))
   else (List.range i).all fun k=>F.contains k||zkv ops ops.size i k)
theorem zc3 {ops:Array Oper} {listed:Array Bool} {i:Nat}:i∈Region.ready .any ops listed ↔
  i<ops.size∧listed.getD i true=false∧∃o,ops[i]?=some o∧∀e∈o.after.toList,Region.binds .any e=true→listed.getD e.on false=true:=by
 unfold Region.ready;simp only [List.mem_filter,List.mem_range,Bool.and_eq_true,Bool.not_eq_true'];constructor
 ·rintro ⟨h1,h2,h3⟩;refine ⟨h1,h2, ?_⟩;cases ho:ops[i]? with
  | none=>simp [ho] at h3
  | some o=>
   refine ⟨o,rfl,fun e he hb=>?_⟩;simp only [ho,Option.map_some,Option.getD_some] at h3;rw [← Array.all_toList,List.all_eq_true] at h3;have:=h3 e he;simpa [hb] using this
 ·rintro ⟨h1,h2,o,ho,h3⟩;refine ⟨h1,h2, ?_⟩;simp only [ho,Option.map_some,Option.getD_some];rw [← Array.all_toList,List.all_eq_true];intro e he;cases hb:Region.binds .any e
  ·simp
  ·simp [h3 e he hb]
theorem zc0 {listed:Array Bool} {i k:Nat} {d:Bool} (h:i<listed.size):(listed.setIfInBounds i true).getD k d=if k=i then true else listed.getD k d:=by
 simp only [Array.getD_eq_getD_getElem?,Array.getElem?_setIfInBounds]
 by_cases hk:k=i
 ·subst hk;simp [h]
 ·simp [hk,Ne.symm hk]
theorem zfi {P:Program} {ops:Array Oper} {Q:Exit→Act→World→Prop} {m n:Nat} {ks F:List Nat} (hok:zdy ops m n ks F=true):
  ∀(f k:Nat) (listed:Array Bool) (a:Act) (w:World),k+f=ops.size→m≤k→listed.size=ops.size→(∀i,i<ops.size→listed.getD i true=decide (i<k)) →
   wpOps P ops Q (List.range' k f) a w→wpAny P .any ops Q f listed a w:=by
 unfold zdy at hok;rw [Bool.and_eq_true] at hok;obtain ⟨hF,hok⟩:=hok;rw [List.all_eq_true] at hok hF;intro f
 induction f with
 | zero=>
  intro k listed a w hk hm hs hl h;refine ⟨?_,h⟩;cases hr:Region.ready .any ops listed with
  | nil=>rfl
  | cons x xs=>
   have hx:x∈Region.ready .any ops listed:=by rw [hr];simp
   obtain ⟨h1,h2,_⟩:=zc3.1 hx;rw [hl x h1] at h2;simp at h2;omega
 | succ f ih=>
  intro k listed a w hk hm hs hl h;rw [List.range'_succ,wpOps_cons] at h;have hkr:k∈Region.ready .any ops listed:=by
   obtain ⟨o,ho⟩:∃o,ops[k]?=some o:=⟨ops[k]'(by omega),by simp⟩;refine zc3.2 ⟨by omega,by rw [hl k (by omega)];simp,o,ho,fun e he hb=>?_⟩;have:=hok k (by simp;omega);simp only [ho,Bool.and_eq_true] at this;have h1:=List.all_eq_true.1 this.1 e he;simp only [hb,Bool.not_true,Bool.false_or] at h1;have h2:e.on<k:=Nat.le_of_ble_eq_true h1;have h3:=hl e.on (by omega);have h4:listed.getD e.on false=listed.getD e.on true:=by simp [Array.getD,hs,show e.on<ops.size by omega]
   rw [h4,h3];simpa using h2
  refine ⟨fun he=>by rw [he] at hkr;simp at hkr,fun i hi=>?_⟩;obtain ⟨h1,h2,o,ho,h3⟩:=zc3.1 hi;have hik:¬ i<k:=by rw [hl i h1] at h2;simpa using h2
  have:i=k:=by
   rcases Nat.lt_or_ge k i with hlt | hge
   ·exfalso;have h5:=hok i (by simpa using h1);simp only [ho,Bool.and_eq_true] at h5;have h6:=h5.2;rw [if_neg (by omega),List.all_eq_true] at h6;have h7:=h6 k (by simpa using hlt);have hkF:F.contains k=false:=by
     cases hc:F.contains k
     ·rfl
     ·have:=hF k (by simpa using hc);have:k<m:=Nat.le_of_ble_eq_true this;omega
    rw [hkF,Bool.false_or] at h7;have h8:=zdx (ops:=ops) (p:=fun j=>listed.getD j false=true) (fun j o' hj ho' e he hb=>by
     have hjs:j<ops.size:=by
      rcases Nat.lt_or_ge j ops.size with h | h
      ·exact h
      ·simp [Array.getElem?_eq_none h] at ho'
     have hjk:j<k:=by
      have:listed.getD j false=listed.getD j true:=by simp [Array.getD,hs,hjs]
      rw [this,hl j hjs] at hj;simpa using hj
     have hok2:=hok j (by simpa using hjs);simp only [ho',Bool.and_eq_true] at hok2;have h9:=List.all_eq_true.1 hok2.1 e he;simp only [hb,Bool.not_true,Bool.false_or] at h9;have h10:e.on<j:=Nat.le_of_ble_eq_true h9;have:listed.getD e.on false=listed.getD e.on true:=by simp [Array.getD,hs,show e.on<ops.size by omega]
     rw [this,hl e.on (by omega)];simp;omega) _ i k h7 (fun o' ho'=>by rw [ho] at ho';cases ho';exact h3)
    have h10:listed.getD k false=listed.getD k true:=by simp [Array.getD,hs,show k<ops.size by omega]
    rw [h10,hl k (by omega)] at h8;simp at h8
   ·omega
  subst this;refine wpOp_mono (fun a w hw=>ih (i+1) _ a w (by omega) (by omega) (by simpa using hs) (fun j hj=>?_) hw) h;rw [zc0 (by omega),hl j hj]
  by_cases hj':j=i
  ·simp [hj']
  ·simp only [if_neg hj',decide_eq_decide];omega
theorem zjy {ops:Array Oper} {qs:List Pd} {M:Nat→Prop} {n:Nat} {s0:St} {a:Act} {s:St} {L:Lst} (hL:Has M n s0 a s L):
  ∀(es:List Edge),(∀e∈es,Region.binds .any e=true→∀d q,(ops[e.on]?).bind (·.dst)=some d→qs[e.on]?=some q→q.p s (a.eval (.tmp d)))→Has M n s0 a s (zh2 ops qs es L)
 | [],_=>hL
 | e::r,h=>by
  have ih:=zjy hL r (fun e' he'=>h e' (by simp [he']));unfold zh2;split
  ·rename_i d q hb hd hq
   exact ih.cons d (h e (by simp) hb d q hd hq)
  ·exact ih
theorem zrw {L:Lst} {d:Nat} (h:(L.map (·.1)).all (fun t=>!Nat.beq t d)=true):lk L d=none:=by
 induction L with
 | nil=>rfl
 | cons x r ih=>
  simp only [List.map_cons,List.all_cons,Bool.and_eq_true,Bool.not_eq_true'] at h;unfold lk;rw [h.1];exact ih h.2
def zkf (ops:Array Oper) (qs:List Pd):Nat→Lst→Lst
 | 0,L=>L
 | i+1,L=>match (ops[i]?).bind (·.dst),qs[i]? with
  | some d,some q=>(d,q)::zkf ops qs i L
  | _,_=>zkf ops qs i L
theorem zgc {ops:Array Oper} {qs:List Pd} {M:Nat→Prop} {n:Nat} {s0:St} {a:Act} {s:St} {L:Lst} (hL:Has M n s0 a s L):
  ∀m,(∀i,i<m→∀d q,(ops[i]?).bind (·.dst)=some d→qs[i]?=some q→q.p s (a.eval (.tmp d)))→Has M n s0 a s (zkf ops qs m L)
 | 0,_=>hL
 | m+1,h=>by
  have ih:=zgc hL m (fun i hi=>h i (by omega));unfold zkf;split
  ·rename_i d q hd hq
   exact ih.cons d (h m (by omega) d q hd hq)
  ·exact ih
theorem rd_key {P:Program} {ops:Array Oper} {Q:Exit→Act→World→Prop} {M:Nat→Prop} {n:Nat} {s0:St} {s:St} {L:Lst} (m:Nat) (qs:List Pd) (F:List Nat)
  (hok:zdy ops m n (L.map (·.1)) F=true) (hq:qs.length=m) (hm:m≤ops.size)
  (hT:∀i o q,i<m→ops[i]?=some o→qs[i]?=some q→F.contains i=false→T P ops o (zh2 ops qs o.after.toList L) q)
  (hB:∀a' s',Ex s s'→Has M n s0 a' s' (zkf ops qs m L)→wpOps P ops Q (List.range' m (ops.size-m)) a' s'.w):
  ∀(f:Nat) (listed:Array Bool) (a:Act) (s':St),listed.size=ops.size→((List.range ops.size).filter (fun i=>!listed.getD i true)).length=f→Ex s s'→Has M n s0 a s' L →
   (∀i o,listed.getD i false=true→ops[i]?=some o→∀e∈o.after.toList,Region.binds .any e=true→listed.getD e.on false=true)→(∀i,i<ops.size→m≤i→listed.getD i true=false) →
   (∀i,i<m→listed.getD i true=true→∀d q,(ops[i]?).bind (·.dst)=some d→qs[i]?=some q→q.p s' (a.eval (.tmp d)))→(∀i∈F,listed.getD i true=true)→wpAny P .any ops Q f listed a s'.w:=by
 have hok':=hok;unfold zdy at hok';rw [Bool.and_eq_true] at hok';obtain ⟨hF,hok'⟩:=hok';rw [List.all_eq_true] at hok';intro f
 induction f with
 | zero=>
  intro listed a s' hs hc e hL' hcl hn hd hl0;have hall:∀i,i<ops.size→listed.getD i true=true:=by
   intro i hi;have:(List.range ops.size).filter (fun i=>!listed.getD i true)=[]:=List.length_eq_zero_iff.1 hc;rw [List.filter_eq_nil_iff] at this;have:=this i (by simpa using hi);simpa using this
  have hmm:m=ops.size:=by
   rcases Nat.lt_or_ge m ops.size with h | h
   ·have:=hn m h (Nat.le_refl _);rw [hall m h] at this;cases this
   ·omega
  refine zfi hok 0 ops.size listed a s'.w (by omega) (by omega) hs (fun i hi=>by rw [hall i hi];simp [hi]) ?_;have:=hB a s' e (zgc hL' m fun i hi=>hd i hi (hall i (by omega)));rw [hmm] at this;simpa using this
 | succ f ih=>
  intro listed a s' hs hc e hL' hcl hn hd hl0
  by_cases hdone:∀i,i<m→listed.getD i true=true
  ·-- the tail
   have hf:f+1=ops.size-m:=by
    rw [← hc];have h1:(List.range ops.size).filter (fun i=>!listed.getD i true)=List.range' m (ops.size-m):=by
     have e1:List.range ops.size=List.range' 0 m++List.range' m (ops.size-m):=by
      rw [List.range_eq_range',show ops.size=m+(ops.size-m) by omega,← List.range'_append_1];simp
     rw [e1,List.filter_append];have e2:(List.range' 0 m).filter (fun i=>!listed.getD i true)=[]:=by
      rw [List.filter_eq_nil_iff];intro i hi;simp at hi;simp [hdone i hi]
     have e3:(List.range' m (ops.size-m)).filter (fun i=>!listed.getD i true)=List.range' m (ops.size-m):=by
      rw [List.filter_eq_self];intro i hi;simp at hi;simp [hn i (by omega) (by omega)]
     rw [e2,e3,List.nil_append]
    rw [h1];simp
   refine zfi hok (f+1) m listed a s'.w (by omega) (Nat.le_refl _) hs (fun i hi=>?_) ?_
   ·by_cases h:i<m
    ·simp [h,hdone i h]
    ·simp [h,hn i hi (by omega)]
   ·rw [hf];exact hB a s' e (zgc hL' m fun i hi=>hd i hi (hdone i hi))
  ·have hex:∃i,i<m∧listed.getD i true=false:=by
    have h1:=Classical.not_forall.1 hdone;obtain ⟨i,hi⟩:=h1;rw [Classical.not_imp] at hi;exact ⟨i,hi.1,by simpa using hi.2⟩
   have hlow:∀i,i∈Region.ready .any ops listed→i<m:=by
    intro i hi;obtain ⟨h1,h2,o,ho,h3⟩:=zc3.1 hi;rcases Nat.lt_or_ge i m with h | h
    ·exact h
    ·exfalso;obtain ⟨k,hk,hkl⟩:=hex;have h5:=hok' i (by simpa using h1);simp only [ho,Bool.and_eq_true] at h5;have h6:=h5.2;rw [if_neg (by omega),List.all_eq_true] at h6;have h7:=h6 k (by simp;omega);have hkF:F.contains k=false:=by
      cases hc':F.contains k
      ·rfl
      ·have:=hl0 k (by simpa using hc');rw [this] at hkl;cases hkl
     rw [hkF,Bool.false_or] at h7;have h8:=zdx (ops:=ops) (p:=fun j=>listed.getD j false=true) hcl _ i k h7 (fun o' ho'=>by rw [ho] at ho';cases ho';exact h3);have h10:listed.getD k false=listed.getD k true:=by simp [Array.getD,hs,show k<ops.size by omega]
     rw [h10,hkl] at h8;cases h8
   refine ⟨fun hnil=>?_,fun i hi=>?_⟩
   ·-- the least that isn't done is ready
    exfalso;obtain ⟨k,hk,hmin⟩:=exists_least (p:=fun i=>i<m∧listed.getD i true=false) hex;obtain ⟨o,ho⟩:∃o,ops[k]?=some o:=⟨ops[k]'(by omega),by simp⟩;have:k∈Region.ready .any ops listed:=by
     refine zc3.2 ⟨by omega,hk.2,o,ho,fun e he hb=>?_⟩;have h5:=hok' k (by simp;omega);simp only [ho,Bool.and_eq_true] at h5;have h1:=List.all_eq_true.1 h5.1 e he;simp only [hb,Bool.not_true,Bool.false_or] at h1;have h2:e.on<k:=Nat.le_of_ble_eq_true h1;have h4:listed.getD e.on false=listed.getD e.on true:=by simp [Array.getD,hs,show e.on<ops.size by omega]
     rw [h4]
     by_cases h6:listed.getD e.on true=true
     ·exact h6
     ·have:=hmin e.on ⟨by omega,by simpa using h6⟩;omega
    rw [hnil] at this;simp at this
   ·have him:=hlow i hi;obtain ⟨h1,h2,o,ho,h3⟩:=zc3.1 hi;obtain ⟨q,hqi⟩:∃q,qs[i]?=some q:=⟨qs[i]'(by omega),by simp⟩;have h5:=hok' i (by simpa using h1);have hiF:F.contains i=false:=by
     cases hc':F.contains i
     ·rfl
     ·have:=hl0 i (by simpa using hc');rw [this] at h2;cases h2
    simp only [ho,Bool.and_eq_true,if_pos him,hiF,Bool.false_or] at h5;obtain ⟨d,hdst⟩:∃d,o.dst=some d:=by
     cases hd':o.dst with
     | none=>rw [hd'] at h5;simp at h5
     | some d=>exact ⟨d,rfl⟩
    have h6:=h5.2;rw [hdst] at h6;simp only [Bool.and_eq_true] at h6;have hdep:Has M n s0 a s' (zh2 ops qs o.after.toList L):=by
     refine zjy hL' _ fun e' he' hb d' q' hd' hq'=>?_;have h7:=h3 e' he' hb;have h8:=List.all_eq_true.1 h5.1 e' he';simp only [hb,Bool.not_true,Bool.false_or] at h8;have h9:e'.on<i:=Nat.le_of_ble_eq_true h8;have h10:listed.getD e'.on false=listed.getD e'.on true:=by simp [Array.getD,hs,show e'.on<ops.size by omega]
     exact hd e'.on (by omega) (h10 ▸ h7) d' q' hd' hq'
    have hrun:=hT i o q him ho hqi hiF M n s0 a s' hdep Q (wpAny P .any ops Q f (listed.setIfInBounds i true)) ?_
    ·unfold wpOp;simp only [ho]
     by_cases hw:Region.wanted o (yielded ops a.tmps)=true
     ·rw [if_pos hw] at hrun ⊢;exact .inl hrun
     ·rw [if_neg hw] at hrun ⊢;exact hrun
    ·rintro v s'' ⟨e',hq'⟩;have hfresh:lk L d=none:=zrw h6.1.2;refine ih _ _ s'' (by simpa using hs) ?_ (e.trans e') ?_ ?_ ?_ ?_ ?_
     ·-- one fewer
      have hnd:((List.range ops.size).filter (fun j=>!listed.getD j true)).Nodup:=List.Nodup.sublist List.filter_sublist List.nodup_range;have hmem:i∈(List.range ops.size).filter (fun j=>!listed.getD j true):=List.mem_filter.2 ⟨by simpa using h1,by rw [h2];rfl⟩;have e1:(List.range ops.size).filter (fun j=>!(listed.setIfInBounds i true).getD j true)=((List.range ops.size).filter (fun j=>!listed.getD j true)).filter (fun j=>j != i):=by
       rw [List.filter_filter];refine List.filter_congr fun j hj=>?_;rw [zc0 (by omega)]
       by_cases hji:j=i <;> simp [hji]
      rw [e1,← List.Nodup.erase_eq_filter hnd,List.length_erase_of_mem hmem,hc];rfl
     ·have hp:=hL'.put e' (d:=d) h6.1.1 hq';rw [hdst];refine hp.sub fun t q'' hl=>hp.at_ t q'' ?_;unfold lk;have:d≠t:=fun he=>by rw [he] at hfresh;rw [hfresh] at hl;cases hl
      rw [zf8 this];exact hl
     ·intro j o' hj ho' e2 he2 hb2;rw [zc0 (by omega)] at hj ⊢;split
      ·rfl
      ·by_cases hji:j=i
       ·subst hji;rw [ho] at ho';cases ho';exact h3 e2 he2 hb2
       ·rw [if_neg hji] at hj;exact hcl j o' hj ho' e2 he2 hb2
     ·intro j hj hmj;rw [zc0 (by omega),if_neg (by omega)];exact hn j hj hmj
     ·intro j hj hlj d' q'' hd' hq'';rw [hdst]
      by_cases hji:j=i
      ·subst hji;rw [ho,Option.bind_some,hdst] at hd';cases hd';rw [hqi] at hq'';cases hq'';rw [zd1 hL'.size h6.1.1];exact hq'
      ·rw [zc0 (by omega),if_neg hji] at hlj;have h7:=List.all_eq_true.1 h6.2 j (by simpa using hj);have h8:Nat.beq j i=false:=zf8 hji;rw [h8,Bool.false_or,hd'] at h7;have:d≠d':=fun he=>by simp [he] at h7
       rw [zej this];exact Pd.ex e' (hd j hj hlj d' q'' hd' hq'')
     ·intro j hj;rw [zc0 (by omega)];split
      ·rfl
      ·exact hl0 j hj
theorem rd {P:Program} {id:Nat} {ops:Array Oper} {Q:Exit→Act→World→Prop} {M:Nat→Prop} {n:Nat} {s0:St} {a:Act} {s:St} {L:Lst} (hf:P.follows .mixedOrders=true) (m:Nat) (qs:List Pd)
  (hL:Has M n s0 a s L) (hok:zdy ops m n (L.map (·.1)) []=true) (hq:qs.length=m) (hm:m≤ops.size)
  (hT:∀i o q,i<m→ops[i]?=some o→qs[i]?=some q→T P ops o (zh2 ops qs o.after.toList L) q)
  (hB:∀a' s',Ex s s'→Has M n s0 a' s' (zkf ops qs m L)→wpOps P ops Q (List.range' m (ops.size-m)) a' s'.w):(Code.region id ops true).wp P Q a s.w:=by
 refine wp_region_any hf ?_;have:=rd_key m qs [] hok hq hm (fun i o q h1 h2 h3 _=>hT i o q h1 h2 h3) hB ops.size (Array.replicate ops.size false) a ⟨{ s.w with drawn:=s.w.drawn+1 },s.X,s.lt⟩ (by simp) ?_ ⟨⟨DR.succ rfl,rfl,rfl,rfl,Nat.le_refl _,fun _ _ _=>rfl,fun _ h=>h.elim,fun _ h=>.inl h⟩,fun _ h=>h⟩ ?_ ?_ ?_ ?_ (fun i h=>by cases h)
 ·exact this
 ·rw [List.filter_eq_self.2]
  ·simp
  ·intro i hi;simp at hi;simp [hi]
 ·exact hL.ex ⟨⟨DR.succ rfl,rfl,rfl,rfl,Nat.le_refl _,fun _ _ _=>rfl,fun _ h=>h.elim,fun _ h=>.inl h⟩,fun _ h=>h⟩
 ·intro i o h;simp [Array.getD] at h
 ·intro i hi _;simp [hi]
 ·intro i hi h;simp [show i<ops.size by omega] at h
def ze4 (s:St):Nat→Prop:=fun b=>b<s.w.heap.size∧¬ s.X b
def Same (S:Nat→Prop) (w w':World):Prop:=∀b,S b→w'.heap[b]?=w.heap[b]?
structure En (α:Type) where
 sz:Nat
 agg:Bool
 R:World→(Nat→Prop)→List Value→α→Prop
 sc:agg=false→sz=1
 pos:0<sz
 len:∀{w S cs x},R w S cs x→cs.length=sz
 one:∀{w S cs x},R w S cs x→∀u∈cs,u.oneCell'=true
 mono:∀{w S S' cs x},(∀b,S b→S' b)→R w S cs x→R w S' cs x
 move:∀{w w' S cs x},Same S w w'→R w S cs x→R w' S cs x
def En.val {α:Type} (E:En α) (cs:List Value):Value:=bif E.agg then .agg cs.toArray else cs.headD undef
theorem En.val_cells {α:Type} {E:En α} {w S cs x} (h:E.R w S cs x):(E.val cs).cells=cs.toArray:=by
 unfold En.val;cases ha:E.agg
 ·have hl:=E.len h;rw [E.sc ha] at hl
  match cs,hl with
  | [u],_=>
   have h1:=E.one h u (by simp);simp only [cond_false,List.headD_cons];cases u <;> first | rfl | simp [Value.oneCell'] at h1
 ·rfl
theorem En.go {α:Type} (E:En α) {T:Nat→Prop} {s s':St} {cs:List Value} {x:α} (h:Mv T s s') (hR:E.R s.w (ze4 s) cs x):E.R s'.w (ze4 s') cs x:=
 E.mono (fun b hb=>⟨Nat.lt_of_lt_of_le hb.1 h.size,fun hx=>(h.xx b hx).elim hb.2 (fun hk=>by have:=hb.1;omega)⟩)
  (E.move (fun b hb=>h.blk b hb.1 (fun ht=>hb.2 (h.tx b ht))) hR)
def Pd.rep {α:Type} (E:En α) (x:α):Pd:=
 ⟨fun s v=>∃cs,v=E.val cs∧E.R s.w (ze4 s) cs x,fun _=>False,fun h _ ⟨cs,hv,hR⟩=>⟨cs,hv,E.go h hR⟩⟩
def zcq (w:World) (b o:Nat) (cs:List Value):Prop:=∀j u,cs[j]?=some u→w.cell? ⟨b,o+j,none⟩=some u
theorem zcq.same {w w':World} {b o:Nat} {cs:List Value} (h:zcq w b o cs) (hb:w'.heap[b]?=w.heap[b]?):zcq w' b o cs:=
 fun j u hu=>by rw [World.cell?_of_block (w:=w) hb];exact h j u hu
theorem zd6 (b o j:Nat):(⟨b,o,none⟩:Addr).add j=⟨b,o+j,none⟩:=by unfold Addr.add;split <;> simp_all
def Pd.ptr {α:Type} (E:En α) (x:α):Pd:=
 ⟨fun s v=>∃b o cs,v = .pointer (some ⟨b,o,none⟩)∧ze4 s b∧zcq s.w b o cs∧E.R s.w (ze4 s) cs x,fun _=>False,
  fun {T s s' v} h _ ⟨b,o,cs,hv,hb,hc,hR⟩=>⟨b,o,cs,hv,
   ⟨Nat.lt_of_lt_of_le hb.1 h.size,fun hx=>(h.xx b hx).elim hb.2 (fun hk=>by have:=hb.1;omega)⟩,
   hc.same (h.blk b hb.1 (fun ht=>hb.2 (h.tx b ht))),E.go h hR⟩⟩
def Pd.optr {α:Type} (E:En α) (N:Nat) (og:Option Nat) (o:Nat) (x:α):Pd:=
 ⟨fun s v=>∃g,og=some g∧v = .pointer (some ⟨g,o,none⟩)∧N≤g∧g<s.w.heap.size∧s.X g∧∃cs,zcq s.w g o cs∧E.R s.w (ze4 s) cs x,fun b=>og=some b,
  fun {T s s' v} h hb ⟨g,ho,hv,hN,hg,hx,cs,hc,hR⟩=>⟨g,ho,hv,hN,Nat.lt_of_lt_of_le hg h.size,(hb g ho).2 hx,cs,hc.same (h.blk g hg (hb g ho).1),E.go h hR⟩⟩
def Pd.box {α:Type} (E:En α) (N g:Nat) (x:α):Pd:=
 ⟨fun s v=>v = .pointer (some ⟨g,0,none⟩)∧N≤g∧s.X g∧∃cs t,s.w.heap[g]?=some (.cells cs.toArray t (0,0))∧E.R s.w (ze4 s) cs x,fun b=>b=g,
  fun {T s s' v} h hb ⟨hv,hN,hx,cs,t,hc,hR⟩=>⟨hv,hN,(hb g rfl).2 hx,cs,t,by
   rw [h.blk g (Array.getElem?_eq_some_iff.1 hc).1 (hb g rfl).1];exact hc,E.go h hR⟩⟩
def InR (k:IntKind) (x:Int):Prop:=k.min≤x∧x≤k.max
instance (k : IntKind) (x : Int) : Decidable (InR k x):=by unfold InR; infer_instance
def En.int (k:IntKind):En Int where
 sz:=1
 agg:=false
 R:=fun _ _ cs x=>cs=[.int k x]∧InR k x
 sc:=fun _=>rfl
 pos:=Nat.one_pos
 len:=by rintro _ _ _ _ ⟨rfl,_⟩;rfl
 one:=by rintro _ _ _ _ ⟨rfl,_⟩ u hu;simp at hu;subst hu;rfl
 mono:=fun _ h=>h
 move:=fun _ h=>h
def En.bool:En Bool where
 sz:=1
 agg:=false
 R:=fun _ _ cs x=>cs=[.bool x]
 sc:=fun _=>rfl
 pos:=Nat.one_pos
 len:=by rintro _ _ _ _ rfl;rfl
 one:=by rintro _ _ _ _ rfl u hu;simp at hu;subst hu;rfl
 mono:=fun _ h=>h
 move:=fun _ h=>h
theorem zz {k:IntKind} {x:Int} {s:St} {v:Value}:(Pd.rep (En.int k) x).p s v↔v = .int k x∧InR k x:=
 ⟨fun ⟨_,hv,hc,hr⟩=>by subst hc;exact ⟨hv,hr⟩,fun ⟨hv,hr⟩=>⟨[.int k x],hv,rfl,hr⟩⟩
theorem zb6 {x:Bool} {s:St} {v:Value}:(Pd.rep En.bool x).p s v↔v = .bool x:=
 ⟨fun ⟨_,hv,hc⟩=>by cases hc;exact hv,fun hv=>⟨[.bool x],hv,rfl⟩⟩
def Opn (L:Lst) (x:Operand) (q:Pd):Prop:=∀M n s0 a s,Has M n s0 a s L→q.p s (a.eval x)
theorem o_t {L:Lst} (t:Nat) {q:Pd} (h:lk L t=some q):Opn L (.tmp t) q:=fun _ _ _ _ _ hL=>hL.get t h
theorem O {L:Lst}(t:Nat){q:Pd}(h:lk L t=some q):Opn L (.tmp t) q:=o_t t h
theorem o_c {L:Lst} {v:Value} {q:Pd} (h:∀s,q.p s v):Opn L (.const v) q:=fun _ _ _ _ s _=>h s
theorem o_i {L:Lst} {k:IntKind} {x:Int} (h:InR k x):Opn L (.const (.int k x)) (Pd.rep (En.int k) x):=o_c fun _=>zz.2 ⟨rfl,h⟩
abbrev U3:=Tryz.underlying3
abbrev U5:=Tryz.underlying5
abbrev U9:=Tryz.underlying9
abbrev U22:=Tryz.underlying22
abbrev U24:=Tryz.underlying24
abbrev U25:=Tryz.underlying25
abbrev U26:=Tryz.underlying26
abbrev U36:=Tryz.underlying36
abbrev U46:=Tryz.underlying46
abbrev U47:=Tryz.underlying47
abbrev U68:=Tryz.underlying68
abbrev U77:=Tryz.underlying77
abbrev U78:=Tryz.underlying78
abbrev U82:=Tryz.underlying82
abbrev U91:=Tryz.underlying91
abbrev U108:=Tryz.underlying108
abbrev U114:=Tryz.underlying114
abbrev U117:=Tryz.underlying117
abbrev U167:=Tryz.underlying167
abbrev U170:=Tryz.underlying170
theorem oI {L:Lst}{x:Int}(h:InR .i64 x:=by decide):Opn L (.const (.int .i64 x)) (Pd.rep (En.int .i64) x):=o_i h
abbrev Pi (x:Int):Pd:=Pd.rep (En.int .i64) x
theorem o_b {L:Lst} {x:Bool}:Opn L (.const (.bool x)) (Pd.rep En.bool x):=o_c fun _=>zb6.2 rfl
section
variable {P : Program} {ops : Array Oper} {o : Oper} {L : Lst}
theorem T.mk {q:Pd} (hg:o.guard=none) (h:∀M n s0 a s,Has M n s0 a s L→∃v s',(execOp a.eval o).run P s.w = .ok (.value v) s'.w∧Ex s s'∧q.p s' v):T P ops o L q:=
 fun M n s0 a s hL=>by
  obtain ⟨v,s',h1,h2,h3⟩:=h M n s0 a s hL;exact OpR.of_run hg h1 ⟨h2,h3⟩
theorem T.pure {q:Pd} (hg:o.guard=none) (h:∀M n s0 a s,Has M n s0 a s L→∃v,(execOp a.eval o).run P s.w = .ok (.value v) s.w∧q.p s v):T P ops o L q:=
 T.mk hg fun M n s0 a s hL=>let ⟨v,h1,h2⟩:=h M n s0 a s hL;⟨v,s,h1,Ex.refl s,h2⟩
theorem zn {x:Operand} {q:Pd} (h:Opn L x q) (ho:o.op = .move x) (hg:o.guard=none):T P ops o L q:=
 T.pure hg fun M n s0 a s hL=>⟨a.eval x,by unfold execOp;rw [ho];rfl,h M n s0 a s hL⟩
theorem zw {x:Operand} {q:Pd} (h:Opn L x q) (ho:o.op = .assign x) (hg:o.guard=none):T P ops o L q:=
 T.pure hg fun M n s0 a s hL=>⟨a.eval x,by unfold execOp;rw [ho];rfl,h M n s0 a s hL⟩
theorem zha {k:IntKind} {x:Int} (h:InR k x):k.wrap x=x:=by
 unfold InR at h;cases k <;> simp [IntKind.min,IntKind.max,IntKind.signed,IntKind.bits] at h <;> simp [IntKind.wrap,IntKind.signed,IntKind.bits] <;> omega
theorem zno {k:IntKind} {x y:Operand} {a b:Int} (op:BinOp) (f:Int→Int→Int) (hf:∀a b,(Op.intArith op k a b:Sem Value)=Pure.pure (.int k (k.wrap (f a b)))) (hop:op = .add∨op = .sub∨op = .mul)
  (hx:Opn L x (Pd.rep (En.int k) a)) (hy:Opn L y (Pd.rep (En.int k) b)) (hr:InR k (f a b)) {t u:TypeId} (ho:o.op = .binOp op t x y u) (hg:o.guard=none):
  T P ops o L (Pd.rep (En.int k) (f a b)):=
 T.pure hg fun M n s0 ac s hL=>by
  have h1:=(zz.1 (hx M n s0 ac s hL)).1;have h2:=(zz.1 (hy M n s0 ac s hL)).1;refine ⟨.int k (f a b), ?_,zz.2 ⟨rfl,hr⟩⟩;unfold execOp;rw [ho];simp only [h1,h2];rcases hop with rfl | rfl | rfl <;> simp [eqGuard,binOp,hf,zha hr]
theorem zo8 {k:IntKind} {x y:Operand} {a b:Int} (hx:Opn L x (Pd.rep (En.int k) a)) (hy:Opn L y (Pd.rep (En.int k) b)) (hr:InR k (a+b)) {t u:TypeId} (ho:o.op = .binOp .add t x y u) (hg:o.guard=none):
  T P ops o L (Pd.rep (En.int k) (a+b)):=zno .add (· + ·) (fun _ _=>rfl) (.inl rfl) hx hy hr ho hg
theorem znn {k:IntKind} {x y:Operand} {a b:Int} (op:BinOp) (f:Int→Int→Bool) (hf:(fun a b=>(Op.intCmp op a b:Sem Value))=fun a b=>Pure.pure (.bool (f a b)))
  (hop:op = .lss∨op = .leq∨op = .gtr∨op = .geq∨op = .eql∨op = .neq)
  (hx:Opn L x (Pd.rep (En.int k) a)) (hy:Opn L y (Pd.rep (En.int k) b)) {t u:TypeId} (ho:o.op = .binOp op t x y u) (hg:o.guard=none):
  T P ops o L (Pd.rep En.bool (f a b)):=
 T.pure hg fun M n s0 ac s hL=>by
  have h1:=(zz.1 (hx M n s0 ac s hL)).1;have h2:=(zz.1 (hy M n s0 ac s hL)).1;have hf':(Op.intCmp op a b:Sem Value)=Pure.pure (.bool (f a b)):=congrFun (congrFun hf a) b;refine ⟨.bool (f a b), ?_,zb6.2 rfl⟩;unfold execOp;rw [ho];simp only [h1,h2];rcases hop with rfl | rfl | rfl | rfl | rfl | rfl <;> simp [eqGuard,binOp,hf']
theorem zmm {k:IntKind} {x y:Operand} {a b:Int} (hx:Opn L x (Pd.rep (En.int k) a)) (hy:Opn L y (Pd.rep (En.int k) b)) {t u:TypeId} (ho:o.op = .binOp .lss t x y u) (hg:o.guard=none):
  T P ops o L (Pd.rep En.bool (decide (a<b))):=znn .lss (fun a b=>decide (a<b)) rfl (.inl rfl) hx hy ho hg
theorem t_gtr {k:IntKind} {x y:Operand} {a b:Int} (hx:Opn L x (Pd.rep (En.int k) a)) (hy:Opn L y (Pd.rep (En.int k) b)) {t u:TypeId} (ho:o.op = .binOp .gtr t x y u) (hg:o.guard=none):
  T P ops o L (Pd.rep En.bool (decide (b<a))):=znn .gtr (fun a b=>decide (b<a)) rfl (.inr (.inr (.inl rfl))) hx hy ho hg
theorem t_geq {k:IntKind} {x y:Operand} {a b:Int} (hx:Opn L x (Pd.rep (En.int k) a)) (hy:Opn L y (Pd.rep (En.int k) b)) {t u:TypeId} (ho:o.op = .binOp .geq t x y u) (hg:o.guard=none):
  T P ops o L (Pd.rep En.bool (decide (b≤a))):=znn .geq (fun a b=>decide (b≤a)) rfl (.inr (.inr (.inr (.inl rfl)))) hx hy ho hg
theorem t_nei {k:IntKind} {x y:Operand} {a b:Int} (hx:Opn L x (Pd.rep (En.int k) a)) (hy:Opn L y (Pd.rep (En.int k) b)) {t u:TypeId} (ho:o.op = .binOp .neq t x y u) (hg:o.guard=none):
  T P ops o L (Pd.rep En.bool (a != b)):=znn .neq (fun a b=>a != b) rfl (.inr (.inr (.inr (.inr (.inr rfl))))) hx hy ho hg
structure Ty {α:Type} (P:Program) (t:TypeId) (E:En α):Prop where
 info:∃i z,P.info? t=some i∧i.size=E.sz∧i.zero=some z∧z.cells.size=E.sz∧i.bytes≤65536
 agg:∃d,P.underlying t=some d∧(match d with | .struct _ | .array _ _=>true | _=>false)=E.agg
theorem zhr {α:Type} {t:TypeId} {E:En α} (h:Ty P t E) (w:World):(isAgg t).run P w = .ok E.agg w:=by
 obtain ⟨d,hd,he⟩:=h.agg;unfold isAgg;simp only [Sem.run_bind,run_underlying hd,Result.andThen_ok];rw [← he];cases d <;> rfl
theorem zbg {α:Type} {t:TypeId} {E:En α} (h:Ty P t E) (w:World):(sizeOf t).run P w = .ok E.sz w:=by
 obtain ⟨i,z,hi,he,_⟩:=h.info;simp [sizeOf,typeInfo,hi,he]
theorem zee {α:Type} {t:TypeId} {E:En α} (h:Ty P t E) {w w':World} {S:Nat→Prop} {cs:List Value} {x:α} (hR:E.R w' S cs x) {b o:Nat} (hc:zcq w b o cs):
  (loadVar t ⟨b,o,none⟩).run P w = .ok (E.val cs) w:=by
 unfold loadVar;simp only [Sem.run_bind,zhr h,Result.andThen_ok];have hl:=E.len hR;cases ha:E.agg
 ·have h1:=E.sc ha;rw [h1] at hl
  match cs,hl with
  | [u],_=>
   have:=hc 0 u rfl;simp [En.val,ha,show w.cell? ⟨b,o,none⟩=some u from this]
 ·simp only [if_true,Sem.run_bind,zbg h,Result.andThen_ok];have:(loadCells ⟨b,o,none⟩ E.sz).run P w = .ok cs.toArray w:=by
   rw [← hl];exact run_loadCells_list w ⟨b,o,none⟩ cs (fun j v hv=>by rw [zd6];exact hc j v hv)
  simp [this,En.val,ha]
theorem zb2 {α:Type} {E:En α} {x:α} {y:Operand} {t:TypeId} (ht:Ty P t E) (hy:Opn L y (Pd.ptr E x)) (ho:o.op = .load t y) (hg:o.guard=none):T P ops o L (Pd.rep E x):=
 T.pure hg fun M n s0 ac s hL=>by
  obtain ⟨b,off,cs,hv,hb,hc,hR⟩:=hy M n s0 ac s hL;refine ⟨E.val cs, ?_,cs,rfl,hR⟩;unfold execOp;rw [ho];simp [hv,Instr.loadAt,Instr.sureAddr,zee ht hR hc]
theorem zb9 {w:World} {g:Nat} {cs:List Value} {t:TypeId} {fr:Nat × Nat} (h:w.heap[g]?=some (.cells cs.toArray t fr)):zcq w g 0 cs:=
 fun j u hu=>by rw [Nat.zero_add,cell_of_row w g j cs.toArray t fr h];simpa using hu
theorem ziq {α:Type} {E:En α} {x:α} {y:Operand} {t:TypeId} {N g:Nat} (ht:Ty P t E) (hy:Opn L y (Pd.box E N g x)) (ho:o.op = .load t y) (hg:o.guard=none):T P ops o L (Pd.rep E x):=
 T.pure hg fun M n s0 ac s hL=>by
  obtain ⟨hv,_,_,cs,t',hc,hR⟩:=hy M n s0 ac s hL;refine ⟨E.val cs, ?_,cs,rfl,hR⟩;unfold execOp;rw [ho];simp [hv,Instr.loadAt,Instr.sureAddr,zee ht hR (zb9 hc)]
def St.push (s:St) (ob:Obj):St:=⟨s.w.alloc ob,s.X,fun b hb=>Nat.lt_of_lt_of_le (s.lt b hb) (by simp)⟩
theorem Ex.push (s:St) (ob:Obj):Ex s (s.push ob):=
 ⟨⟨DR.eq rfl,rfl,rfl,rfl,by simp [St.push],fun b hb _=>Go.RowKit.Below.heap_alloc s.w ob b hb,fun _ h=>h.elim,fun _ h=>.inl h⟩,fun _ h=>h⟩
end
end Go.Proofs.YtahgmdbioafmbaaGreatDoor.VD
namespace Go.Proofs.YtahgmdbioafmbaaGreatDoor.VD
open Go
set_option linter.unusedVariables false
def at? {α:Type} (xs:List α) (i:Int):Option α:=if 0≤i then xs[i.toNat]? else none
def Els {α:Type} (E:En α) (w:World) (S:Nat→Prop) (css:List (List Value)) (xs:List α):Prop:=
 css.length=xs.length∧∀(i:Nat) (cs:List Value) (x:α),css[i]?=some cs→xs[i]?=some x→E.R w S cs x
theorem Els.lens {α:Type} {E:En α} {w S css} {xs:List α} (h:Els E w S css xs):∀cs∈css,cs.length=E.sz:=by
 intro cs hcs;obtain ⟨i,hi⟩:=List.getElem?_of_mem hcs;have hlt:i<css.length:=(List.getElem?_eq_some_iff.1 hi).1;have hx:xs[i]?=some (xs[i]'(h.1 ▸ hlt)):=by simp
 exact E.len (h.2 i cs _ hi hx)
theorem zg8 {css:List (List Value)} {n:Nat} (h:∀cs∈css,cs.length=n):∀{i:Nat} {cs:List Value} {j:Nat} {u:Value},css[i]?=some cs→cs[j]?=some u→css.flatten[i*n+j]?=some u:=by
 induction css with
 | nil=>intro i cs j u hi;simp at hi
 | cons c r ih=>
  intro i cs j u hi hj;have hc:c.length=n:=h c (by simp);cases i with
  | zero=>
   simp at hi;subst hi;rw [List.flatten_cons,Nat.zero_mul,Nat.zero_add,List.getElem?_append_left (List.getElem?_eq_some_iff.1 hj).1];exact hj
  | succ i=>
   simp at hi;rw [List.flatten_cons,List.getElem?_append_right (by rw [hc,Nat.succ_mul];omega)];rw [show (i+1)*n+j-c.length=i*n+j by rw [hc,Nat.succ_mul];omega];exact ih (fun x hx=>h x (by simp [hx])) hi hj
def lim:Nat:=9223372036854775807
def SlV {α:Type} (E:En α) (w:World) (S:Nat→Prop) (v:Value) (xs:List α):Prop:=
 ∃ad cap,v = .slice ad xs.length cap∧xs.length≤cap∧(ad=none→cap=0)∧xs.length≤lim ∧
  (xs≠[]→∃b off css,ad=some ⟨b,off,none⟩∧S b∧Els E w S css xs∧zcq w b off css.flatten)
def En.slice {α:Type} (E:En α):En (List α) where
 sz:=1
 agg:=false
 R:=fun w S cs xs=>∃v,cs=[v]∧SlV E w S v xs
 sc:=fun _=>rfl
 pos:=Nat.one_pos
 len:=by rintro _ _ _ _ ⟨v,rfl,_⟩;rfl
 one:=by rintro _ _ _ _ ⟨v,rfl,ad,cap,rfl,_⟩ u hu;simp at hu;subst hu;rfl
 mono:=by
  rintro w S S' cs xs h ⟨v,rfl,ad,cap,hv,h1,h2,h3,h4⟩
  refine ⟨v,rfl,ad,cap,hv,h1,h2,h3,fun hne=>?_⟩
  obtain ⟨b,off,css,e,hb,hE,hc⟩:=h4 hne
  exact ⟨b,off,css,e,h b hb,⟨hE.1,fun i cs x a b=>E.mono h (hE.2 i cs x a b)⟩,hc⟩
 move:=by
  rintro w w' S cs xs h ⟨v,rfl,ad,cap,hv,h1,h2,h3,h4⟩
  refine ⟨v,rfl,ad,cap,hv,h1,h2,h3,fun hne=>?_⟩
  obtain ⟨b,off,css,e,hb,hE,hc⟩:=h4 hne
  exact ⟨b,off,css,e,hb,⟨hE.1,fun i cs x a b=>E.move h (hE.2 i cs x a b)⟩,hc.same (h b hb)⟩
theorem zbs {α:Type} {E:En α} {xs:List α} {s:St} {v:Value}:(Pd.rep (En.slice E) xs).p s v↔SlV E s.w (ze4 s) v xs:=
 ⟨fun ⟨_,hv,u,hc,h⟩=>by subst hc;subst hv;exact h,fun h=>⟨[v],rfl,v,rfl,h⟩⟩
section
variable {P : Program} {ops : Array Oper} {o : Oper} {L : Lst}
theorem znk {α:Type} {E:En α} {xs:List α} {y:Operand} {t te:TypeId} (hy:Opn L y (Pd.rep (En.slice E) xs)) (ht:P.underlying t=some (.slice te)) (ho:o.op = .call { callee:=.builtin .len,args:=#[y],argTypes:=#[t] }) (hg:o.guard=none):
  T P ops o L (Pd.rep (En.int .i64) xs.length):=
 T.pure hg fun M n s0 ac s hL=>by
  obtain ⟨ad,cap,hv,h1,h2,h3,h4⟩:=zbs.1 (hy M n s0 ac s hL);refine ⟨.int .i64 xs.length, ?_,zz.2 ⟨rfl, ?_⟩⟩
  ·unfold execOp;rw [ho];simp [resolve,invoke,builtin,hv,Builtin.len_,run_underlying ht,goInt]
  ·simp only [lim] at h3;simp [InR,IntKind.min,IntKind.max,IntKind.signed,IntKind.bits];omega
theorem znl {α:Type} {E:En α} {xs:List α} {e:α} {k:IntKind} {i:Int} {x y:Operand} {t te:TypeId} (hx:Opn L x (Pd.rep (En.slice E) xs)) (hy:Opn L y (Pd.rep (En.int k) i)) (he:at? xs i=some e)
  (ht:P.underlying t=some (.slice te)) (hE:Ty P te E) (ho:o.op = .indexAddr t x y) (hg:o.guard=none):T P ops o L (Pd.ptr E e):=
 T.pure hg fun M n s0 ac s hL=>by
  obtain ⟨ad,cap,hv,h1,h2,h3,h4⟩:=zbs.1 (hx M n s0 ac s hL);have hi:=(zz.1 (hy M n s0 ac s hL)).1;unfold at? at he;split at he
  case isFalse=>cases he
  rename_i h0
  have hlt:i.toNat<xs.length:=(List.getElem?_eq_some_iff.1 he).1;obtain ⟨b,off,css,e1,hb,hEl,hc⟩:=h4 (by intro h;simp [h] at hlt);obtain ⟨cs,hcs⟩:∃cs,css[i.toNat]?=some cs:=⟨css[i.toNat]'(by rw [hEl.1];exact hlt),by simp⟩;refine ⟨.pointer (some ⟨b,off+i.toNat*E.sz,none⟩), ?_,b,off+i.toNat*E.sz,cs,rfl,hb, ?_,hEl.2 _ _ _ hcs he⟩
  ·unfold execOp;rw [ho];simp only [hv,hi,Instr.indexAt,asIntOf,Sem.run_bind,Sem.run_pure,Result.andThen_ok,run_underlying ht,e1];rw [if_pos (by omega)];simp [zbg hE,zd6]
  ·intro j u hu;rw [Nat.add_assoc];exact hc _ u (zg8 hEl.lens hcs hu)
theorem En.psh {α:Type} (E:En α) {s:St} {ob:Obj} {cs:List Value} {x:α} (h:E.R s.w (ze4 s) cs x):E.R (s.push ob).w (ze4 (s.push ob)) cs x:=E.go (Ex.push s ob).mv h
theorem zgv (s:St) (cs:List Value) (t:TypeId):zcq (s.push (.cells cs.toArray t)).w s.w.heap.size 0 cs:=
 zb9 (w:=(s.push (.cells cs.toArray t)).w) (t:=t) (fr:=(0,0)) (heap_alloc_new s.w _)
theorem zo7 {α:Type} {E:En α} {x:α} {y:Operand} {t:TypeId} (hy:Opn L y (Pd.rep E x)) (ho:o.op = .box t y) (hg:o.guard=none):T P ops o L (Pd.ptr E x):=
 T.mk hg fun M n s0 ac s hL=>by
  obtain ⟨cs,hv,hR⟩:=hy M n s0 ac s hL;refine ⟨.pointer (some ⟨s.w.heap.size,0,none⟩),s.push (.cells cs.toArray t), ?_,Ex.push s _,s.w.heap.size,0,cs,rfl,⟨by simp [St.push],fun h=>by have:=s.lt _ h;omega⟩,zgv s cs t,E.psh hR⟩;unfold execOp;rw [ho];simp only [hv,Instr.box,newVar,newRow,En.val_cells hR,Sem.run_bind,run_newObj,Result.andThen_ok,Sem.run_pure];rfl
end
end Go.Proofs.YtahgmdbioafmbaaGreatDoor.VD
namespace Go.Proofs.YtahgmdbioafmbaaGreatDoor.VD
open Go
set_option linter.unusedVariables false
structure Ef (T:Nat→Prop) (s s':St):Prop where
 mv:Mv T s s'
 keep:∀b,s.X b→¬ T b→s'.X b
theorem Ef.ex {M T:Nat→Prop} {s0 s s':St} (h:Fr M s0 s) (e:Ef T s s') (hT:∀b,T b→s0.w.heap.size≤b):Fr M s0 s':=
 ⟨⟨h.mv.dr.trans e.mv.dr,e.mv.os.trans h.mv.os,e.mv.tape.trans h.mv.tape,e.mv.output.trans h.mv.output,Nat.le_trans h.mv.size e.mv.size,
  fun b hb hn=>(e.mv.blk b (Nat.lt_of_lt_of_le hb h.mv.size) (fun ht=>by have:=hT b ht;omega)).trans (h.mv.blk b hb hn),h.mv.tx,
  fun b hb=>(e.mv.xx b hb).elim (fun j=>h.mv.xx b j) (fun j=>.inr (Nat.le_trans h.mv.size j))⟩,
  fun b hb=>e.keep b (h.keep b hb) (fun ht=>by have:=hT b ht;have:=s0.lt b hb;omega)⟩
def Kp (T:Nat→Prop) (L L':Lst):Prop:=∀t q,lk L' t=some q→q=Pd.any∨lk L t=some q∧∀b,q.own b→¬ T b
theorem zhi {d:Nat} {q:Pd} {L:Lst} {t:Nat}:lk ((d,q)::L) t=if d=t then some q else lk L t:=by
 rw [lk]
 by_cases h:d=t
 ·subst h;simp
 ·rw [zf8 h,if_neg h];rfl
theorem Kp.nil {T:Nat→Prop} {L:Lst}:Kp T L []:=fun t q h=>by cases h
theorem Kp.cons {T:Nat→Prop} {L:Lst} {t:Nat} {q:Pd} {r:Lst} (hl:lk L t=some q) (hq:∀b,q.own b→¬ T b) (hr:Kp T L r):Kp T L ((t,q)::r):=fun d p h=>by
 rw [zhi] at h;split at h
 ·rename_i e;cases h;subst e;exact .inr ⟨hl,hq⟩
 ·exact hr d p h
theorem Kp.k {T:Nat→Prop}{L:Lst}(t:Nat){q:Pd}{r:Lst}(hr:Kp T L r)(hl:lk L t=some q:=by exact rfl)(hq:∀b,q.own b→¬T b:=by exact nE):Kp T L ((t,q)::r):=.cons hl hq hr
theorem Kp.p {T:Nat→Prop} {L L':Lst} (h:Kp T L L') {s s':St} {a:Act} (hL:∀t q,lk L t=some q→q.p s (a.eval (.tmp t))) (m:∀(q:Pd) v,(∀b,q.own b→¬ T b)→q.p s v→q.p s' v):∀t q,lk L' t=some q→q.p s' (a.eval (.tmp t)):=fun t q hl=>
 (h t q hl).elim (fun e=>by subst e;trivial) fun ⟨h1,h2⟩=>m q _ h2 (hL t q h1)
theorem Has.ef {M:Nat→Prop} {n:Nat} {s0:St} {a:Act} {s s':St} {L L':Lst} {T:Nat→Prop} (h:Has M n s0 a s L) (e:Ef T s s') (hT:∀b,T b→s0.w.heap.size≤b) (hk:Kp T L L'):Has M n s0 a s' L' where
 size:=h.size
 defers:=h.defers
 ent:=e.ex h.ent hT
 gl:=h.gl
 at_:=hk.p h.at_ fun q v h2=>q.mv e.mv fun b hb=>⟨h2 b hb,fun hx=>e.keep b hx (h2 b hb)⟩
section
variable {T : Nat → Prop} {L : Lst} {q q' : Pd} {t : Nat} {r : Pd} {l : Lst}
end
theorem Has.keep {M:Nat→Prop} {n:Nat} {s0:St} {a:Act} {s:St} {L L':Lst} (h:Has M n s0 a s L) (hk:Kp (fun _=>False) L L'):Has M n s0 a s L':=h.sub (hk.p h.at_ fun _ _ _ h=>h)
section
variable {P : Program} {ops : Array Oper} {o : Oper} {L : Lst}
def spl (cells:List Value) (off:Nat) (cs:List Value):List Value:=cells.take off++cs++cells.drop (off+cs.length)
theorem zlr {cells cs:List Value} {off:Nat} (h:off+cs.length≤cells.length):(spl cells off cs).length=cells.length:=by simp [spl];omega
theorem zk7 {place:Nat→Option (Nat × Nat)} {cells cs:List Value} {v:Value} {i off size:Nat} {rest:List (Nat × Value)} (hp:place i=some (off,size)) (hv:v.cells=cs.toArray) (hs:cs.length=size)
  (hl:off+size≤cells.length):Instr.fill place cells.toArray ((i,v)::rest)=Instr.fill place (spl cells off cs).toArray rest:=by
 conv=>lhs;unfold Instr.fill
 simp only [hp,hv];rw [if_neg (by simp [hs];omega)]
 congr 1
 apply Array.ext_getElem?;intro j;rw [← Array.foldl_toList,Array.toList_zipIdx];have key:∀(l:List Value) (k:Nat) (acc:Array Value),off+k+l.length≤acc.size→(List.foldl (fun cs (x:Value × Nat)=>match x with | (c,j)=>cs.setIfInBounds (off+j) c) acc (l.zipIdx k))[j]?=if off+k≤j∧j<off+k+l.length then l[j-(off+k)]? else acc[j]?:=by
  intro l
  induction l with
  | nil=>intro k acc _;simp;omega
  | cons u r ih=>
   intro k acc hk;simp only [List.zipIdx_cons,List.foldl_cons];rw [ih (k+1) _ (by simp at hk ⊢;omega)]
   by_cases h1:off+(k+1)≤j∧j<off+(k+1)+r.length
   ·rw [if_pos h1,if_pos (by simp;omega),show j-(off+k)=(j-(off+(k+1)))+1 by omega];simp
   ·rw [if_neg h1]
    by_cases h2:j=off+k
    ·subst h2;rw [if_pos (by simp)];simp at hk;simp [show off+k<acc.size by omega]
    ·rw [if_neg (by simp;omega),Array.getElem?_setIfInBounds_ne (Ne.symm h2)]
 rw [key cs 0 cells.toArray (by simp;omega)];simp only [Nat.add_zero,spl,List.getElem?_toArray]
 by_cases h1:j<off
 ·rw [if_neg (by omega),List.append_assoc,List.getElem?_append_left (by simp;omega),List.getElem?_take,if_pos h1]
 ·by_cases h2:j<off+cs.length
  ·rw [if_pos (by omega),List.append_assoc,List.getElem?_append_right (by simp;omega),List.getElem?_append_left (by simp;omega)]
   congr 1;simp;omega
  ·rw [if_neg (by omega),List.getElem?_append_right (by simp;omega),List.getElem?_drop]
   congr 1;simp;omega
inductive OpL {α:Type} (E:En α) (L:Lst):List Operand→List α→Prop
 | nil:OpL E L [] []
 | cons {x:Operand} {e:α} {xs:List Operand} {es:List α}:Opn L x (Pd.rep E e)→OpL E L xs es→OpL E L (x::xs) (e::es)
theorem zr9 {α:Type} {E:En α} {M:Nat→Prop} {n:Nat} {s0:St} {ac:Act} {s:St} {L:Lst} (hL:Has M n s0 ac s L):∀{xs:List Operand} {es:List α},OpL E L xs es→∀(k:Nat) (pre:List Value) (cells:List Value),pre.length=k*E.sz→cells.length=(k+xs.length)*E.sz→cells.take (k*E.sz)=pre →
  ∃css,Els E s.w (ze4 s) css es∧Instr.fill (fun i=>some (i*E.sz,E.sz)) cells.toArray ((xs.zipIdx k).map fun (x,i)=>(i,ac.eval x))=some (pre++css.flatten).toArray:=by
 intro xs es h
 induction h with
 | nil=>
  intro k pre cells hp hc ht;refine ⟨[],⟨rfl,by simp⟩, ?_⟩;simp only [List.zipIdx_nil,List.map_nil,Instr.fill,List.flatten_nil,List.append_nil];rw [← ht,List.take_of_length_le (by simp at hc;omega)]
 | cons hx _ ih=>
  rename_i x e xs es _
  intro k pre cells hp hc ht;obtain ⟨cs,hv,hR⟩:=hx M n s0 ac s hL;have hlen:=E.len hR;have hsz:k*E.sz+E.sz≤cells.length:=by rw [hc,← Nat.succ_mul];exact Nat.mul_le_mul_right _ (by simp)
  obtain ⟨css,hE,hf⟩:=ih (k+1) (pre++cs) (spl cells (k*E.sz) cs) (by simp [hp,hlen,Nat.succ_mul]) (by rw [zlr (by omega),hc];congr 1;simp;omega) (by
   rw [spl,ht];rw [List.take_append_of_le_length (by simp [hp,hlen,Nat.succ_mul])];rw [List.take_of_length_le (by simp [hp,hlen,Nat.succ_mul])])
  refine ⟨cs::css,⟨by simp [hE.1], ?_⟩, ?_⟩
  ·intro i c y hi hy;cases i with
   | zero=>simp at hi hy;subst hi;subst hy;exact hR
   | succ i=>simp at hi hy;exact hE.2 i c y hi hy
  ·simp only [List.zipIdx_cons,List.map_cons];rw [zk7 (cs:=cs) (off:=k*E.sz) (size:=E.sz) rfl (by rw [hv];exact En.val_cells hR) hlen hsz,hf];simp
theorem zlx {α:Type} {E:En α} {t te:TypeId} {xs:List Operand} {es:List α} (hx:OpL E L xs es) (ht:P.underlying t=some (.slice te)) (hE:Ty P te E) {k:Nat} {parts:Array (Nat × Operand)} (hk:k=xs.length) (hp:parts=(xs.zipIdx.map fun (x,i)=>(i,x)).toArray)
  (hs:k*E.sz≤16777216) (ho:o.op = .buildSlice t k parts) {M:Nat→Prop} {n:Nat} {s0:St} {ac:Act} {s:St} (hL:Has M n s0 ac s L):es.length=xs.length∧∃css,Els E s.w (ze4 s) css es∧(execOp ac.eval o).run P s.w = .ok (.value (.slice (some ⟨s.w.heap.size,0,none⟩) es.length es.length)) (s.push (.cells css.flatten.toArray te)).w:=by
 obtain ⟨i,z,hi,he,hz,hzs,_⟩:=hE.info;have hlen:es.length=xs.length:=by clear hp hk hs ho;induction hx with | nil=>rfl | cons _ _ ih=>simp [ih]
 have hall:∀zero:Array Value,∃css,Els E s.w (ze4 s) css es∧Instr.fill (fun i=>some (i*E.sz,E.sz)) ((Array.range (k*E.sz)).map (zero[· % zero.size]!)) (parts.map fun (i,x)=>(i,ac.eval x)).toList=some css.flatten.toArray:=by
  intro zero;obtain ⟨css,hEl,hf⟩:=zr9 hL hx 0 [] ((Array.range (k*E.sz)).map (zero[· % zero.size]!)).toList (by simp) (by simp [hk]) (by simp)
  refine ⟨css,hEl, ?_⟩;have e1:(parts.map fun (i,x)=>(i,ac.eval x)).toList=(xs.zipIdx 0).map fun (x,i)=>(i,ac.eval x):=by rw [hp];simp
  rw [e1];rw [Array.toArray_toList,List.nil_append] at hf;exact hf
 have hfin:∃css,Els E s.w (ze4 s) css es∧(execOp ac.eval o).run P s.w = .ok (.value (.slice (some ⟨s.w.heap.size,0,none⟩) es.length es.length)) (s.push (.cells css.flatten.toArray te)).w:=by
  by_cases h:k*E.sz=0
  ·obtain ⟨css,hEl,hf⟩:=hall #[];refine ⟨css,hEl, ?_⟩;unfold execOp;rw [ho];simp only [Instr.buildSlice,Sem.run_bind,run_underlying ht,Result.andThen_ok,zbg hE];rw [if_neg (by omega),if_pos h];simp only [Sem.run_bind,Sem.run_pure,Result.andThen_ok];rw [hf];simp [newRow,St.push,hlen,hk]
  ·obtain ⟨css,hEl,hf⟩:=hall z.cells;refine ⟨css,hEl, ?_⟩;unfold execOp;rw [ho];simp only [Instr.buildSlice,Sem.run_bind,run_underlying ht,Result.andThen_ok,zbg hE];rw [if_neg (by omega),if_neg h];have hzr:(zeroValue te).run P s.w = .ok z s.w:=by simp [zeroValue,typeInfo,hi,hz]
   simp only [Sem.run_bind,hzr,Sem.run_pure,Result.andThen_ok];rw [hf];simp [newRow,St.push,hlen,hk]
 exact ⟨hlen,hfin⟩
theorem t_lit {α:Type} {E:En α} {t te:TypeId} {xs:List Operand} {es:List α} (hx:OpL E L xs es) (ht:P.underlying t=some (.slice te)) (hE:Ty P te E) {k:Nat} {parts:Array (Nat × Operand)} (hk:k=xs.length) (hp:parts=(xs.zipIdx.map fun (x,i)=>(i,x)).toArray)
  (hs:k*E.sz≤16777216) (ho:o.op = .buildSlice t k parts) (hg:o.guard=none):T P ops o L (Pd.rep (En.slice E) es):=
 T.mk hg fun M n s0 ac s hL=>by
  obtain ⟨hlen,css,hEl,hr⟩:=zlx hx ht hE hk hp hs ho hL;refine ⟨_,_,hr,Ex.push s _,zbs.2 ⟨some ⟨s.w.heap.size,0,none⟩,es.length,rfl,Nat.le_refl _,(fun h=>by cases h), ?_,fun _=>⟨s.w.heap.size,0,css,rfl,⟨by simp [St.push],fun h=>by have:=s.lt _ h;omega⟩,⟨hEl.1,fun i cs x a b=>E.psh (hEl.2 i cs x a b)⟩,zgv s _ te⟩⟩⟩;rw [hlen,← hk];have:k≤k*E.sz:=Nat.le_mul_of_pos_right k E.pos;simp only [lim];omega
end
end Go.Proofs.YtahgmdbioafmbaaGreatDoor.VD
namespace Go.Proofs.YtahgmdbioafmbaaGreatDoor.VD
open Go
set_option linter.unusedVariables false
def zo1 (s:St):List Pd→List Value→Prop
 | [],[]=>True
 | q::qs,v::vs=>q.p s v∧zo1 s qs vs
 | _,_=>False
structure Fn (P:Program) (f:FuncId) (qs:List Pd) (R:St→St→Value→Prop):Prop where
 call:∀(args:Array Value) (w:World),(callFunc f args).run P w = .ok (.enter f args) w
 run:∀s vs,Gl s→zo1 s qs vs→Calls P f vs.toArray s.w fun e w'=>∃v s',e = .returned v∧s'.w=w'∧Ex s s'∧R s s' v
def Rq (q:Pd):St→St→Value→Prop:=fun _ s' v=>q.p s' v
inductive zmr (L:Lst):List Operand→List Pd→Prop
 | nil:zmr L [] []
 | cons {x:Operand} {q:Pd} {xs:List Operand} {qs:List Pd}:Opn L x q→zmr L xs qs→zmr L (x::xs) (q::qs)
theorem zmr.vals {L:Lst} {xs:List Operand} {qs:List Pd} (h:zmr L xs qs) {M:Nat→Prop} {n:Nat} {s0:St} {a:Act} {s:St} (hL:Has M n s0 a s L):zo1 s qs (xs.map a.eval):=by
 induction h with
 | nil=>trivial
 | cons hx _ ih=>exact ⟨hx M n s0 a s hL,ih⟩
section
variable {P : Program} {ops : Array Oper} {o : Oper} {L : Lst}
theorem zhs {f:FuncId} {xs:List Operand} {ats:Array TypeId} {qs R} (hf:Fn P f qs R) (a:Act) (w:World) (ho:o.op = .call { callee:=.value (.func f),args:=xs.toArray,argTypes:=ats }):
  (execOp a.eval o).run P w = .ok (.enter f (xs.map a.eval).toArray) w:=by
 have h:=hf.call (xs.map a.eval).toArray w;have e:execOp a.eval o=callFunc f (#[]++(xs.toArray).map a.eval ++ #[]):=by unfold execOp;rw [ho];rfl
 rw [e];simpa using h
theorem zeu {f:FuncId} {xs:List Operand} {qs:List Pd} {q:Pd} {ats:Array TypeId} (hf:Fn P f qs (Rq q)) (hx:zmr L xs qs) (ho:o.op = .call { callee:=.value (.func f),args:=xs.toArray,argTypes:=ats }) (hg:o.guard=none):
  T P ops o L q:=fun M n s0 a s hL Q k hk=>by
 simp only [Region.wanted,hg,if_true];unfold Oper.wp;rw [zhs hf a s.w ho,Oper.upon_enter];refine (hf.run s _ hL.gls (hx.vals hL)).mono fun e w' ⟨v,s',he,hw,hx,hq⟩=>?_;subst he;subst hw;exact hk v s' ⟨hx,hq⟩
end
def num:Nat→List Pd→Lst
 | _,[]=>[]
 | k,q::qs=>(k,q)::num (k+1) qs
def Pst (M:Nat→Prop) (R:St→St→Value→Prop) (s0:St):Ending→World→Prop:=fun e w'=>∃v s',e = .returned v∧s'.w=w'∧Fr M s0 s'∧R s0 s' v
theorem zjr {s:St}:∀{qs:List Pd} {vs:List Value} (h:zo1 s qs vs) (k t:Nat) (q:Pd),lk (num k qs) t=some q→∃v,k≤t∧vs[t-k]?=some v∧q.p s v
 | [],_,_,k,t,q,hl=>by cases hl
 | q'::qs,[],h,_,_,_,_=>h.elim
 | q'::qs,v::vs,h,k,t,q,hl=>by
  unfold num lk at hl
  by_cases ht:k=t
  ·subst ht;simp at hl;subst hl;exact ⟨v,Nat.le_refl _,by simp,h.1⟩
  ·rw [zf8 ht] at hl;obtain ⟨u,h1,h2,h3⟩:=zjr h.2 (k+1) t q hl;refine ⟨u,by omega, ?_,h3⟩;rw [show t-k=(t-(k+1))+1 by omega];simpa using h2
theorem zje {s:St}:∀{qs:List Pd} {vs:List Value},zo1 s qs vs→vs.length=qs.length
 | [],[],_=>rfl
 | [],_::_,h=>h.elim
 | _::_,[],h=>h.elim
 | _::_,_::_,h=>by simp [zje h.2]
structure Fm (P:Program) (f:FuncId) (M:Nat→Prop) (qs:List Pd) (R:St→St→Value→Prop):Prop where
 call:∀(args:Array Value) (w:World),(callFunc f args).run P w = .ok (.enter f args) w
 run:∀s vs,Gl s→(∀b,M b→s.X b)→zo1 s qs vs→Calls P f vs.toArray s.w fun e w'=>∃v s',e = .returned v∧s'.w=w'∧Fr M s s'∧R s s' v
theorem zpq {P:Program} {f:FuncId} {fn:Func} {c:Code} {n:Nat} {M:Nat→Prop} {qs:List Pd} {R:St→St→Value→Prop} (hf:P.funcs[f]?=some fn) (hb:fn.body=some c) (hn:fn.ntmps=n) (hm:(fn.name == "runtime.NumGoroutine")=false) (hq:qs.length≤n)
  (h:∀s0 a,Has M n s0 a s0 (num 0 qs)→c.wp P (bodyPost P fn (Pst M R s0)) a s0.w):Fm P f M qs R where
 call:=fun args w=>by
  have hm':¬ fn.name = "runtime.NumGoroutine":=by simpa using hm
  simp [callFunc,hf,hm',hb]
 run:=fun s vs hg hM hv=>by
  refine calls_of_wp hf hb ?_;have hl:=zje hv;refine h s _ ⟨?_,rfl,Fr.refl hM,hg,fun t q ht=>?_⟩
  ·simp [hn,hl];omega
  ·obtain ⟨v,_,h2,h3⟩:=zjr hv 0 t q ht;have:(({ tmps:=vs.toArray++Array.replicate (fn.ntmps-vs.toArray.size) undef,defers:=[] }:Act).eval (.tmp t))=v:=by
    simp only [Nat.sub_zero] at h2;have hlt:t<vs.length:=(List.getElem?_eq_some_iff.1 h2).1;simp only [Act.eval];rw [Array.getD_eq_getD_getElem?,Array.getElem?_append_left (by simpa using hlt)];simp [h2]
   rw [this];exact h3
theorem Fm.fn {P:Program} {f:FuncId} {qs:List Pd} {R:St→St→Value→Prop} (h:Fm P f N0 qs R):Fn P f qs R:=
 ⟨h.call,fun s vs hg hv=>(h.run s vs hg (fun _ h=>h.elim) hv).mono fun e w' ⟨v,s',he,hw,hx,hr⟩=>⟨v,s',he,hw,hx.ex,hr⟩⟩
theorem zbo {P:Program} {f:FuncId} {fn:Func} {c:Code} {n:Nat} {qs:List Pd} {R:St→St→Value→Prop} (hf:P.funcs[f]?=some fn) (hb:fn.body=some c) (hn:fn.ntmps=n) (hm:(fn.name == "runtime.NumGoroutine")=false) (hq:qs.length≤n)
  (h:∀s0 a,Has N0 n s0 a s0 (num 0 qs)→c.wp P (bodyPost P fn (Pst N0 R s0)) a s0.w):Fn P f qs R:=(zpq hf hb hn hm hq h).fn
section
variable {P : Program} {fn : Func} {M : Nat → Prop} {n : Nat} {s0 : St} {a : Act} {s : St} {L : Lst} {R : St → St → Value → Prop}
theorem ret1 {t:Nat} (hr:fn.results = #[.tmp t]) (hL:Has M n s0 a s L) (hR:R s0 s (a.eval (.tmp t))):bodyPost P fn (Pst M R s0) .ret a s.w:=
 ⟨hL.defers,_,results_tmp hr a.tmps P s.w,_,s,rfl,rfl,hL.ent,hR⟩
theorem zdr {t:Nat} {q:Pd} (hr:fn.results = #[.tmp t]) (hL:Has M n s0 a s L) (hl:lk L t=some q):bodyPost P fn (Pst M (Rq q) s0) .ret a s.w:=ret1 hr hL (hL.get t hl)
end
section
variable {P : Program} {Q : Exit → Act → World → Prop} {M : Nat → Prop} {n : Nat} {s0 : St} {a : Act} {s : St} {L : Lst}
theorem cnd {t:Nat} {b:Bool} {x y:Code} (hL:Has M n s0 a s L) (hl:lk L t=some (Pd.rep En.bool b)) (h1:b=true→x.wp P Q a s.w) (h2:b=false→y.wp P Q a s.w):(Code.cond (.tmp t) x y).wp P Q a s.w:=
 wp_cond_split (zb6.1 (hL.get t hl)) h1 h2
theorem lpg {c:Code} (I:Nat→Act→St→Prop) (k0:Nat) (h0:I k0 a s)
  (round:∀k a s,I k a s→∀K:Act→World→Prop,(∀k' a' s',k' < k→I k' a' s'→K a' s'.w)→c.wp P (Exit.then K Q) a s.w):(Code.loop c).wp P Q a s.w:=by
 refine wp_loop_ghost (fun k a w=>∃s,s.w=w∧I k a s) k0 ⟨s,rfl,h0⟩ ?_;rintro k a w ⟨s,rfl,hI⟩;exact round k a s hI _ fun k' a' s' hk hI'=>⟨k',hk,s',rfl,hI'⟩
end
end Go.Proofs.YtahgmdbioafmbaaGreatDoor.VD
namespace Go.Proofs.YtahgmdbioafmbaaGreatDoor.VD
open Go
set_option linter.unusedVariables false
structure TyZ {α:Type} (P:Program) (t:TypeId) (E:En α) (z:α):Prop where
 zero:∃i v cs,P.info? t=some i∧i.zero=some v∧v.cells=cs.toArray∧∀w S,E.R w S cs z
def Sub {α β:Type} (E:En α) (off:Nat) (E':En β) (x x':α) (y:β):Prop:=
 off+E'.sz≤E.sz∧∀w S cs cs',E.R w S cs x→E'.R w S cs' y→E.R w S (spl cs off cs') x'
theorem zp {α:Type} (E:En α) (x y:α):Sub E 0 E x y y:=
 ⟨by simp,fun w S cs cs' h h'=>by
  have:spl cs 0 cs'=cs':=by
   have h1:=E.len h;have h2:=E.len h';simp [spl,List.drop_of_length_le (show cs.length≤cs'.length by omega)]
  rw [this];exact h'⟩
def St.pushX (s:St) (ob:Obj):St:=⟨s.w.alloc ob,fun b=>s.X b∨b=s.w.heap.size,fun b hb=>hb.elim (fun h=>Nat.lt_of_lt_of_le (s.lt b h) (by simp)) (fun h=>by subst h;simp)⟩
theorem Ex.pushX (s:St) (ob:Obj):Ex s (s.pushX ob):=
 ⟨⟨DR.eq rfl,rfl,rfl,rfl,by simp [St.pushX],fun b hb _=>Go.RowKit.Below.heap_alloc s.w _ b hb,fun _ h=>h.elim,fun b hb=>hb.imp id (fun h=>Nat.le_of_eq h.symm)⟩,fun b hb=>.inl hb⟩
section
variable {P : Program} {ops : Array Oper} {o : Oper} {L L' : Lst} {Q : Exit → Act → World → Prop} {rest : List Oper} {M : Nat → Prop} {n : Nat} {s0 : St} {a : Act} {s : St}
theorem zbb {α:Type} (E:En α) {z:α} {t:TypeId} (d:Nat) (hL:Has M n s0 a s L) (hz:TyZ P t E z) (ho:o.op = .alloc t) (hg:o.guard=none) (hd:o.dst=some d) (hn:Nat.blt d n=true)
  (k:∀a' s' g,s.w.heap.size≤g→Has M n s0 a' s' ((d,Pd.box E s0.w.heap.size g z)::L)→wpList P ops Q rest a' s'.w):wpList P ops Q (o::rest) a s.w:=by
 obtain ⟨i,v,cs,h1,h2,h3,h4⟩:=hz.zero;have hr:(execOp a.eval o).run P s.w = .ok (.value (.pointer (some ⟨s.w.heap.size,0,none⟩))) (s.pushX (.cells cs.toArray t)).w:=by
  unfold execOp;rw [ho];simp [Instr.alloc,zeroValue,typeInfo,h1,h2,newVar,newRow,h3,St.pushX]
 refine wpList_plain hg fun K hK=>?_;unfold Oper.wp;rw [hr];refine hK _ _ ?_;simp only [hd];exact k _ _ s.w.heap.size (Nat.le_refl _) (hL.put (Ex.pushX s _) hn ⟨rfl,hL.ent.mv.size,.inr rfl,cs,t,heap_alloc_new s.w _,h4 _ _⟩)
theorem zji {α:Type} {E:En α} {x:α} {t:TypeId} (ht:Ty P t E) {w w':World} {S:Nat→Prop} {cs:List Value} (hR:E.R w' S cs x) {g off:Nat} {cur:List Value} {te:TypeId} (hg:w.heap[g]?=some (.cells cur.toArray te (0,0))) (hl:off+E.sz≤cur.length):
  (Instr.storeAt t (.pointer (some ⟨g,off,none⟩)) (E.val cs)).run P w = .ok () (w.setRow g (spl cur off cs).toArray):=by
 have hlen:=E.len hR;have:=run_storeCells_at P g off te cs 0 cur.toArray w hg (by simp;omega) (E.one hR);simp only [Instr.storeAt,Instr.sureAddr,Sem.run_bind,Sem.run_pure,Result.andThen_ok,storeVar,zbg ht,En.val_cells hR];rw [if_neg (by simp [hlen])];simpa [spl] using this
def St.set (s:St) (g:Nat) (cs:List Value):St:=⟨s.w.setRow g cs.toArray,s.X,fun b hb=>by simpa [World.setRow] using s.lt b hb⟩
theorem Ef.set (s:St) {g:Nat} (cs:List Value) {T:Nat→Prop} (hT:∀b,T b↔b=g) (hx:s.X g):Ef T s (s.set g cs):=
 ⟨⟨DR.eq rfl,rfl,rfl,rfl,by simp [St.set,World.setRow],fun b _ hn=>setRow_other s.w g b _ (fun e=>hn ((hT b).2 e)),fun b hb=>by rw [(hT b).1 hb];exact hx,fun b hb=>.inl hb⟩,fun b hb _=>hb⟩
theorem zmv {t:TypeId} {x y:Operand} {w':World} (hr:(Instr.storeAt t (a.eval x) (a.eval y)).run P s.w = .ok () w') (ho:o.op = .store t x y) (hg:o.guard=none) (hd:o.dst=none) (k:wpList P ops Q rest a w'):wpList P ops Q (o::rest) a s.w:=by
 refine wpList_plain hg fun K hK=>?_;unfold Oper.wp execOp;simp only [ho,Sem.run_bind,hr,Result.andThen_ok,Sem.run_pure];refine hK _ _ ?_;simp only [hd];exact k
theorem zea {α β:Type} {E:En α} {E':En β} {x0 x1:α} {y0 y1:β} {g off:Nat} {x y:Operand} {t:TypeId} (c:Nat) (hL:Has M n s0 a s L) (hc:lk L c=some (Pd.box E s0.w.heap.size g x0)) (hx:Opn L x (Pd.optr E' s0.w.heap.size (some g) off y0)) (hy:Opn L y (Pd.rep E' y1))
  (hs:Sub E off E' x0 x1 y1) (ht:Ty P t E') (ho:o.op = .store t x y) (hg:o.guard=none) (hd:o.dst=none) (hk:Kp (fun b=>some g=some b) L L')
  (k:∀s',Has M n s0 a s' ((c,Pd.box E s0.w.heap.size g x1)::L')→wpList P ops Q rest a s'.w):wpList P ops Q (o::rest) a s.w:=by
 obtain ⟨hv,hN,hX,cur,te,hgb,hR⟩:=hL.get c hc;obtain ⟨g',hgg,hxv,_⟩:=hx M n s0 a s hL;cases hgg;obtain ⟨cs,hyv,hR'⟩:=hy M n s0 a s hL;have hlen:=E.len hR;have hr:=zji (P:=P) ht hR' (g:=g) (off:=off) hgb (by rw [hlen];exact hs.1);refine zmv (s:=s) (by rw [hxv,hyv];exact hr) ho hg hd ?_;have e:Ef (fun b=>some g=some b) s (s.set g (spl cur off cs)):=Ef.set s _ (fun b=>by simp [eq_comm]) hX;refine k (s.set g (spl cur off cs)) ((hL.ef e (fun b hb=>by cases hb;exact hN) hk).cons c ⟨hv,hN,hX,_,te,setRow_heap s.w g _ _ te (0,0) hgb, ?_⟩);exact E.go e.mv (hs.2 _ _ _ _ hR hR')
theorem zma {α:Type} {E:En α} {x0 x1:α} {g:Nat} {y:Operand} {t:TypeId} (c:Nat) (hL:Has M n s0 a s L) (hc:lk L c=some (Pd.box E s0.w.heap.size g x0)) (hy:Opn L y (Pd.rep E x1))
  (ht:Ty P t E) (ho:o.op = .store t (.tmp c) y) (hg:o.guard=none) (hd:o.dst=none) (hk:Kp (fun b=>some g=some b) L L')
  (k:∀s',Has M n s0 a s' ((c,Pd.box E s0.w.heap.size g x1)::L')→wpList P ops Q rest a s'.w):wpList P ops Q (o::rest) a s.w:=by
 refine zea (off:=0) (y0:=x0) (E':=E) c hL hc ?_ hy (zp E x0 x1) ht ho hg hd hk k;intro M' n' s0' a' s' hL';obtain ⟨hv,hN,hX,cur,te,hgb,hR⟩:=hL'.get c hc;exact ⟨g,rfl,hv,hN,(Array.getElem?_eq_some_iff.1 hgb).1,hX,cur,zb9 hgb,hR⟩
end
def Dis (a b:Option Nat):Prop:=∀k,a=some k→b=some k→False
theorem Dis.symm {a b:Option Nat} (h:Dis a b):Dis b a:=fun k h1 h2=>h k h2 h1
theorem Dis.bx {g:Nat} {b:Option Nat} (h:Dis (some g) b):∀k,k=g→¬ b=some k:=fun k h1 h2=>h k (by rw [h1]) h2
theorem Dis.newg {g:Nat} {b:Option Nat} {N:Nat} (h:N≤g) (hb:∀k,b=some k→k<N):Dis (some g) b:=fun k h1 h2=>by cases h1;have:=hb g h2;omega
theorem Has.blt {α:Type} {E:En α} {N g:Nat} {x:α} {M:Nat→Prop} {n:Nat} {s0:St} {a:Act} {s:St} {L:Lst} (h:Has M n s0 a s L) (t:Nat) (hl:lk L t=some (Pd.box E N g x)):∀k,some g=some k→k<s.w.heap.size:=fun k hk=>by
 cases hk;obtain ⟨_,_,_,_,_,hc,_⟩:=h.get t hl;exact (Array.getElem?_eq_some_iff.1 hc).1
theorem rdl {P:Program} {id:Nat} {l:List Oper} {Q:Exit→Act→World→Prop} {M:Nat→Prop} {n:Nat} {s0:St} {a:Act} {s:St} {L:Lst} (hf:P.follows .mixedOrders=true) (m:Nat) (qs:List Pd)
  (hL:Has M n s0 a s L) (hok:zdy l.toArray m n (L.map (·.1)) []=true) (hq:qs.length=m) (hm:m≤l.length)
  (hT:∀i o q,i<m→l[i]?=some o→qs[i]?=some q→T P l.toArray o (zh2 l.toArray qs o.after.toList L) q)
  (hB:∀a' s',Ex s s'→Has M n s0 a' s' (zkf l.toArray qs m L)→wpList P l.toArray Q (l.drop m) a' s'.w):(Code.region id l.toArray true).wp P Q a s.w:=by
 refine rd hf m qs hL hok hq (by simpa using hm) (fun i o q hi ho=>hT i o q hi (by simpa using ho)) fun a' s' e h=>?_;have:=hB a' s' e h;rw [← wpOps_eq_wpList (l.drop m) m (fun j=>by simp)] at this;simpa using this
def zbe (P:Program) (ops:Array Oper) (qs0:List Pd) (L:Lst):List Oper→List Pd→Prop
 | _,[]=>True
 | [],_::_=>False
 | o::l,q::qs=>T P ops o (zh2 ops qs0 o.after.toList L) q∧zbe P ops qs0 L l qs
theorem zbe.at {P:Program} {ops:Array Oper} {qs0:List Pd} {L:Lst}:∀(l:List Oper) (qs:List Pd),zbe P ops qs0 L l qs→∀(i:Nat) (o:Oper) (q:Pd),l[i]?=some o→qs[i]?=some q→T P ops o (zh2 ops qs0 o.after.toList L) q
 | _,[],_,i,o,q,_,hq=>by simp at hq
 | [],_::_,h,_,_,_,_,_=>h.elim
 | o'::l,q'::qs,h,i,o,q,ho,hq=>by
  cases i with
  | zero=>simp only [List.getElem?_cons_zero,Option.some.injEq] at ho hq;subst ho;subst hq;exact h.1
  | succ i=>simp only [List.getElem?_cons_succ] at ho hq;exact zbe.at l qs h.2 i o q ho hq
theorem zbe.cons {P:Program} {ops:Array Oper} {qs0:List Pd} {L:Lst} {o:Oper} {l:List Oper} {q:Pd} {qs:List Pd} (h:T P ops o (zh2 ops qs0 o.after.toList L) q) (h2:zbe P ops qs0 L l qs):zbe P ops qs0 L (o::l) (q::qs):=⟨h,h2⟩
theorem zbe.nil {P:Program} {ops:Array Oper} {qs0:List Pd} {L:Lst} {l:List Oper}:zbe P ops qs0 L l []:=by cases l <;> trivial
theorem rda {P:Program} {id:Nat} {l:List Oper} {Q:Exit→Act→World→Prop} {M:Nat→Prop} {n:Nat} {s0:St} {a:Act} {s:St} {L:Lst} (hf:P.follows .mixedOrders=true) (m:Nat) (qs:List Pd)
  (hL:Has M n s0 a s L) (hok:zdy l.toArray m n (L.map (·.1)) []=true) (hq:Nat.beq qs.length m=true) (hm:Nat.ble m l.length=true)
  (hT:zbe P l.toArray qs L l qs)
  (hB:∀a' s',Ex s s'→Has M n s0 a' s' (zkf l.toArray qs m L)→wpList P l.toArray Q (l.drop m) a' s'.w):(Code.region id l.toArray true).wp P Q a s.w:=
 rdl hf m qs hL hok (Nat.eq_of_beq_eq_true hq) (Nat.le_of_ble_eq_true hm) (fun i o q _ ho hq=>zbe.at l qs hT i o q ho hq) hB
section
variable {P : Program} {ops : Array Oper} {o : Oper} {L : Lst}
end
end Go.Proofs.YtahgmdbioafmbaaGreatDoor.VD
namespace Go.Proofs.YtahgmdbioafmbaaGreatDoor.VD
open Go
set_option linter.unusedVariables false
section
variable {P : Program} {ops : Array Oper} {o : Oper} {L L' : Lst} {Q : Exit → Act → World → Prop} {rest : List Oper} {M : Nat → Prop} {n : Nat} {s0 : St} {a : Act} {s : St}
end
def En.fun (P:Program) {β:Type} (qs:β→List Pd) (R:β→St→St→Value→Prop):En (β→Prop) where
 sz:=1
 agg:=false
 R:=fun w S cs F=>(cs=[.nilFunc]∧∀q,¬ F q)∨∃(f:FuncId) (first cap:Array Value),cs=[.func (.func f) first cap]∧(∀(args:Array Value) (w:World),(callFunc f args).run P w = .ok (.enter f args) w) ∧
  ∀s:St,Gl s→(∀b,S b→ze4 s b)→Same S w s.w→∀q,F q→∀vs,zo1 s (qs q) vs→Calls P f (first++vs.toArray++cap) s.w fun e w'=>∃(v:Value) (s':St),e = .returned v∧s'.w=w'∧Ex s s'∧R q s s' v
 sc:=fun _=>rfl
 pos:=Nat.one_pos
 len:=by rintro _ _ _ _ (⟨rfl,_⟩ | ⟨_,_,_,rfl,_⟩) <;> rfl
 one:=by rintro _ _ _ _ (⟨rfl,_⟩ | ⟨_,_,_,rfl,_⟩) u hu <;> (simp at hu;subst hu;rfl)
 mono:=by
  rintro w S S' cs F h (h0 | ⟨f,first,cap,hc,h1,h2⟩)
  ·exact .inl h0
  ·exact .inr ⟨f,first,cap,hc,h1,fun s hg ha hb=>h2 s hg (fun b hS=>ha b (h b hS)) fun b hS=>hb b (h b hS)⟩
 move:=by
  rintro w w' S cs F h (h0 | ⟨f,first,cap,hc,h1,h2⟩)
  ·exact .inl h0
  ·exact .inr ⟨f,first,cap,hc,h1,fun s hg ha hb=>h2 s hg ha fun b hS=>(hb b hS).trans (h b hS)⟩
section
variable {P : Program} {ops : Array Oper} {o : Oper} {L : Lst} {β : Type} {qs : β → List Pd} {R : β → St → St → Value → Prop} {F : β → Prop}
theorem o_fun {f:FuncId} (hc:∀(args:Array Value) (w:World),(callFunc f args).run P w = .ok (.enter f args) w) (h:∀q,F q→Fn P f (qs q) (R q)):Opn L (.func f) (Pd.rep (En.fun P qs R) F):=
 fun M n s0 a s hL=>⟨[.func (.func f) #[] #[]],rfl,.inr ⟨f,#[],#[],rfl,hc,fun s1 hgl _ _ q hq vs hv=>by simpa using (h q hq).run s1 vs hgl hv⟩⟩
theorem zfj {t:Nat} {xs:List Operand} {q:β} {q':Pd} {ats:Array TypeId} (hf:Opn L (.tmp t) (Pd.rep (En.fun P qs R) F)) (hq:F q) (hx:zmr L xs (qs q)) (hR:∀s s' v,R q s s' v→q'.p s' v)
  (ho:o.op = .call { callee:=.value (.tmp t),args:=xs.toArray,argTypes:=ats }) (hg:o.guard=none):T P ops o L q':=fun M n s0 a s hL Q k hk=>by
 simp only [Region.wanted,hg,if_true];obtain ⟨cs,hv,h⟩:=hf M n s0 a s hL;rcases h with ⟨_,h0⟩ | ⟨f,first,cap,hcs,hc,hr⟩
 ·exact (h0 q hq).elim
 subst hcs;have hv:a.eval (.tmp t) = .func (.func f) first cap:=hv
 have e:(execOp a.eval o).run P s.w = .ok (.enter f (first++(xs.map a.eval).toArray++cap)) s.w:=by
  have e1:execOp a.eval o=(do let d ← Deferred.ofValue (a.eval (.tmp t)) (xs.toArray.map a.eval);invoke d.target d.args):=by
   unfold execOp;rw [ho];rfl
  rw [e1,hv];have:=hc (first++(xs.map a.eval).toArray++cap) s.w;simpa [Deferred.ofValue,invoke] using this
 unfold Oper.wp;rw [e,Oper.upon_enter];refine (hr s hL.gls (fun _ h=>h) (fun _ _=>rfl) q hq _ (hx.vals hL)).mono fun e w' ⟨v,s',he,hw,hx,hq⟩=>?_;subst he;subst hw;exact hk v s' ⟨hx,hR _ _ _ hq⟩
end
theorem ze6 {P:Program} {f:FuncId} {fn:Func} {c:Code} (hf:P.funcs[f]?=some fn) (hb:fn.body=some c) (hm:(fn.name == "runtime.NumGoroutine")=false):∀(args:Array Value) (w:World),(callFunc f args).run P w = .ok (.enter f args) w:=fun args w=>by
 have hm':¬ fn.name = "runtime.NumGoroutine":=by simpa using hm
 simp [callFunc,hf,hm',hb]
theorem o_q {L:Lst} {x:Operand} (q:Pd) (h:Opn L x q):Opn L x q:=h
end Go.Proofs.YtahgmdbioafmbaaGreatDoor.VD
namespace Go.Proofs.YtahgmdbioafmbaaGreatDoor.V
open Go Go.Shelf Go.Sort
set_option linter.unusedVariables false
theorem grow_of {w w':World} (hd:w.drawn≤w'.drawn) (ho:w'.os=w.os) (ht:w'.tape=w.tape) (hu:w'.output=w.output) (hs:w.heap.size≤w'.heap.size) (hb:∀b,b<w.heap.size→w'.heap[b]?=w.heap[b]?):∃q os,w'=Sort.grow (w.drewN q) os:=by
 refine ⟨w'.drawn-w.drawn,w'.heap.extract w.heap.size w'.heap.size, ?_⟩;have hh:w'.heap=w.heap++w'.heap.extract w.heap.size w'.heap.size:=by
  apply Array.ext_getElem?;intro i;rw [Array.getElem?_append];split
  ·exact hb i ‹_›
  ·rw [Array.getElem?_extract]
   rename_i h
   by_cases hi:i<w'.heap.size
   ·rw [if_pos (by omega)];congr 1;omega
   ·rw [if_neg (by omega),Array.getElem?_eq_none (by omega)]
 have hd2:w'.drawn=w.drawn+(w'.drawn-w.drawn):=by omega
 obtain ⟨h1,t1,d1,o1,u1⟩:=w';obtain ⟨h0,t0,d0,o0,u0⟩:=w;simp only at *;subst ho ht hu;unfold Sort.grow World.drewN;simp only;rw [← hh,← hd2]
theorem cmp_grow {P:Program} {g:FuncId} {α:Type} {E':VD.En α} {x y:α} {c:Int} (hc:VD.Fn P g [VD.Pd.rep E' x,VD.Pd.rep E' y] (VD.Rq (VD.Pd.rep (VD.En.int .i64) c))) (s:VD.St) (hg:VD.Gl s) {cx cy:List Value} (hx:E'.R s.w (VD.ze4 s) cx x) (hy:E'.R s.w (VD.ze4 s) cy y):
  Calls P g #[E'.val cx,E'.val cy] s.w fun e w'=>e = .returned (.int .i64 c)∧∃q os',w'=Sort.grow (s.w.drewN q) os':=
 (hc.run s [E'.val cx,E'.val cy] hg ⟨⟨cx,rfl,hx⟩,⟨cy,rfl,hy⟩,trivial⟩).mono fun e w' ⟨v,s',he,hw,hX,hq⟩=>by
  subst he;subst hw;refine ⟨by rw [(VD.zz.1 hq).1],grow_of hX.mv.dr hX.mv.os hX.mv.tape hX.mv.output hX.mv.size fun b hb=>hX.mv.blk b hb id⟩
theorem swo_cmp {α:Type} {cf:α→α→Int} (h0:∀x,cf x x=0) (ha:∀x y,cf y x = -cf x y) (ht:∀x y z,cf x y≤0→cf y z≤0→cf x z≤0):SWO (Go.Proofs.ltOf cf) where
 irrefl x:=by unfold Go.Proofs.ltOf;rw [h0];rfl
 trans x y z h1 h2:=by
  unfold Go.Proofs.ltOf at *;simp only [decide_eq_true_eq] at *;have a1:=ha x y;have a2:=ha y z;have a3:=ha x z;rcases Int.lt_or_le (cf x z) 0 with h | h
  ·exact h
  ·have:=ht z x y (by omega) (by omega);omega
 ntrans x y z h1 h2:=by
  unfold Go.Proofs.ltOf at *;simp only [decide_eq_false_iff_not,Int.not_lt] at *;have a1:=ha x y;have a2:=ha y z;have a3:=ha x z;have:=ht z y x (by omega) (by omega);omega
theorem put_block {w:World} {b:Nat} {cur:Array Value} {te:TypeId} {F:Array Value} (m:Nat) (os:Array Obj) (hb:w.heap[b]?=some (.cells cur te (0,0))):
  (Sort.grow (putRow id (Sort.ahead w m) b 0 F) os).heap[b]?=some (.cells (putCells id 0 F cur) te (0,0)):=by
 have hlt:=(Array.getElem?_eq_some_iff.1 hb).1;unfold Sort.grow putRow mapBlock;simp only;rw [Array.getElem?_append_left (by simpa [Sort.ahead] using hlt),Array.getElem?_modify,if_pos rfl];show Option.map _ (w.heap[b]?)=_;rw [hb];rfl
theorem put_other {w:World} {b c:Nat} {F:Array Value} (m:Nat) (os:Array Obj) (hc:c<w.heap.size) (hne:c≠b):(Sort.grow (putRow id (Sort.ahead w m) b 0 F) os).heap[c]?=w.heap[c]?:=by
 unfold Sort.grow putRow mapBlock;simp only;rw [Array.getElem?_append_left (by simpa [Sort.ahead] using hc),Array.getElem?_modify,if_neg (Ne.symm hne)];rfl
theorem flat_idx {css:List (List Value)} {k:Nat} (hk:0<k) (h:∀cs∈css,cs.length=k) (j:Nat):css.flatten[j]?=(css[j / k]?).bind (fun cs=>cs[j % k]?):=by
 cases hi:css[j / k]? with
 | none=>
  rw [Option.bind_none,List.getElem?_eq_none];rw [zg7 h];have:=List.getElem?_eq_none_iff.1 hi;have h2:=Nat.div_add_mod j k;have h3:css.length*k≤(j / k)*k:=Nat.mul_le_mul_right _ this;rw [Nat.mul_comm] at h2;omega
 | some cs=>
  have hc:cs.length=k:=h cs (List.mem_of_getElem? hi);have hm:=Nat.mod_lt j hk;have e:cs[j % k]?=some cs[j % k]:=List.getElem?_eq_getElem (by omega);have:=zg8 h hi e;rw [Nat.mul_comm,Nat.div_add_mod] at this;rw [this,Option.bind_some,e]
theorem fm_sort {P:Program} {ρ:Ren} (L:Go.Proofs.SlLaysF0.n6 P ρ) {α:Type} {E:En α} {E':VD.En α} {te:TypeId} {g:FuncId} {cf:α→α→Int} (ht24:ρ.t 24=te) (hE:Ty P te E) (hA:E.agg=true) (hA':E'.agg=true) (hR:∀{w S cs x},E.R w S cs x→E'.R w S cs x)
  (hf:∀(args:Array Value) (w:World),(callFunc (ρ.f 6) args).run P w = .ok (.enter (ρ.f 6) args) w) (eg:∀(args:Array Value) (w:World),(callFunc g args).run P w = .ok (.enter g args) w) (hO:SWO (Go.Proofs.ltOf cf)) {xs:List α} (hlen:xs.length≤2147483648)
  (hc:∀x∈xs,∀y∈xs,VD.Fn P g [VD.Pd.rep E' x,VD.Pd.rep E' y] (VD.Rq (VD.Pd.rep (VD.En.int .i64) (cf x y)))) (v0:Value):
  Fm P (ρ.f 6) (fun b=>v0.ownBlock=some b) [Pd.prow E te v0 xs,Pd.is (.func (.func g) #[] #[])] (fun _ s' _=>∃ys:List α,ys.Perm xs∧ys.Pairwise (fun a b=>¬ cf b a<0)∧(Pd.prow E te v0 ys).p s' v0):=by
 refine ⟨hf,fun s vs hgl hX hv=>?_⟩
 match vs,hv with
 | [v,fv],⟨⟨hv0,hrow⟩,hfv,_⟩=>
 have hfv:fv = .func (.func g) #[] #[]:=hfv;subst hfv;subst hv0;obtain ⟨h1,h2,h3,css,hEl,how⟩:=hrow
 by_cases hx0:xs=[]
 ·subst hx0;obtain ⟨p,cap,rfl⟩:∃p cap,v = .slice p 0 cap:=by
   rcases how.2 with ⟨e,_⟩ | ⟨b,cap,cur,e,_⟩
   ·exact ⟨none,0,e⟩
   ·exact ⟨_,cap,e⟩
  refine (Go.Proofs.AnyF.slices_SortFunc_none L p cap _ s.w).mono fun e w' ⟨he,hw⟩=>?_;subst he;subst hw;exact ⟨_,s,rfl,rfl,Fr.refl hX,[],.refl _,List.Pairwise.nil,rfl,h1,h2,h3,css,hEl,how⟩
 have hpos:0<xs.length:=List.length_pos_iff.2 hx0;rcases how.2 with ⟨e,hn⟩ | ⟨b,cap,cur,hvb,hN,hgb,hnc,hcm,hcs,htk⟩
 ·omega
 subst hvb;have hlens:=hEl.lens;have hXb:s.X b:=h2 b rfl;have hblt:b<s.w.heap.size:=s.lt b hXb
 let α':={p:List Value × α // E.R s.w (ze4 s) p.1 p.2∧p.2∈xs}
 have hel:∀i:Fin xs.length,E.R s.w (ze4 s) (css[i.1]'(by rw [hEl.1];exact i.2)) xs[i.1]∧xs[i.1]∈xs:=fun i=>⟨hEl.2 i.1 _ _ (List.getElem?_eq_getElem _) (List.getElem?_eq_getElem _),List.getElem_mem _⟩
 let d:Array α':=Array.ofFn fun i:Fin xs.length=>⟨(css[i.1]'(by rw [hEl.1];exact i.2),xs[i.1]),hel i⟩
 have hdn:d.size=xs.length:=by simp [d]
 haveI:Inhabited α':=⟨d[0]'(by rw [hdn];exact hpos)⟩
 let enc:α'→List Value:=fun p=>p.1.1
 have hk:∀x:α',(enc x).length=E.sz:=fun x=>E.len x.2.1;have hone:∀x:α',∀u∈enc x,u.oneCell'=true:=fun x=>E.one x.2.1;have hdl:d.toList.map (fun p=>p.1.1)=css:=by
  apply List.ext_getElem?;intro i;simp only [d,List.getElem?_map,Array.toList_ofFn,List.getElem?_ofFn]
  by_cases hi:i<xs.length
  ·rw [dif_pos hi,Option.map_some,List.getElem?_eq_getElem (by rw [hEl.1];exact hi)]
  ·rw [dif_neg hi,Option.map_none,List.getElem?_eq_none (by rw [hEl.1];omega)]
 have hdx:d.toList.map (fun p=>p.1.2)=xs:=by
  apply List.ext_getElem?;intro i;simp only [d,List.getElem?_map,Array.toList_ofFn,List.getElem?_ofFn]
  by_cases hi:i<xs.length
  ·rw [dif_pos hi,Option.map_some,List.getElem?_eq_getElem hi]
  ·rw [dif_neg hi,Option.map_none,List.getElem?_eq_none (by omega)]
 have hflat:∀(q:Array α') (j:Nat),j<q.size*E.sz→(q.toList.map (fun p=>p.1.1)).flatten[j]?=some (flatK enc E.sz q)[j]!:=by
  intro q j hj;have hjk:j / E.sz<q.size:=Nat.div_lt_of_lt_mul (by rw [Nat.mul_comm];exact hj);rw [flat_idx E.pos (fun cs hcs=>by obtain ⟨p,hp,rfl⟩:=List.mem_map.1 hcs;exact E.len p.2.1),get_flatK _ _ _ _ hj,List.getElem?_map,Array.getElem?_toList,Array.getElem?_eq_getElem hjk];simp only [Option.map_some,Option.bind_some];rw [getElem!_pos q (j / E.sz) hjk];have hm:j % E.sz<(enc q[j / E.sz]).length:=by rw [hk];exact Nat.mod_lt _ E.pos
  rw [getElem!_pos (enc q[j / E.sz]) _ hm];exact List.getElem?_eq_getElem hm
 have hH:HoldsK enc E.sz s.w b 0 d:=by
  intro j hj;rw [size_flatK] at hj;have hf:=hflat d j hj;rw [hdl] at hf;have hcj:cur[j]?=some (flatK enc E.sz d)[j]!:=by
   rw [← htk,List.getElem?_take] at hf;split at hf
   ·simpa using hf
   ·cases hf
  refine ⟨?_, ?_⟩
  ·rw [Nat.zero_add,cell_of_row s.w b j cur te (0,0) hgb];exact hcj
  ·unfold World.frozen?;simp [hgb]
 have hO':SWO (Go.Proofs.ltOf fun p q:α'=>cf p.1.2 q.1.2):=⟨fun x=>hO.irrefl x.1.2,fun x y z=>hO.trans x.1.2 y.1.2 z.1.2,fun x y z=>hO.ntrans x.1.2 y.1.2 z.1.2⟩;have hcmp:Go.Proofs.CmpLays P g #[] enc E.sz (fun p q:α'=>cf p.1.2 q.1.2) b 0 d.size s.w:=by
  intro m os dk hdk x y;have hsz:s.w.heap.size≤(sortWorldK enc E.sz s.w b 0 m dk os).heap.size:=Go.Proofs.size_sortWorldK_c enc E.sz s.w b 0 m dk os;have hoth:∀c,c<s.w.heap.size→c≠b→(sortWorldK enc E.sz s.w b 0 m dk os).heap[c]?=s.w.heap[c]?:=fun c hc hne=>put_other m os hc hne
  let sd:VD.St:=⟨sortWorldK enc E.sz s.w b 0 m dk os,fun c=>c=b,fun c hc=>by subst hc;omega⟩
  have hgd:VD.Gl sd:=by
   have key:∀c o,¬ s.X c→s.w.heap[c]?=some o→c≠b∧sd.w.heap[c]?=some o:=fun c o k1 k2=>by
    have hpb:c≠b:=fun e=>k1 (e ▸ hXb);exact ⟨hpb,(hoth c (Array.getElem?_eq_some_iff.1 k2).1 hpb).trans k2⟩
   refine ⟨fun p hp=>?_,fun p hp=>?_⟩
   ·obtain ⟨k1,t,fr,k2⟩:=hgl.1 p hp;obtain ⟨k3,k4⟩:=key _ _ k1 k2;exact ⟨k3,t,fr,k4⟩
   ·obtain ⟨k1,m',t,fr,es,clock,ys,k2,k3,k4,k5,k6⟩:=hgl.2 p hp;obtain ⟨j1,j2⟩:=key _ _ k1 k2;obtain ⟨j3,j4⟩:=key _ _ k3 k4;exact ⟨j1,m',t,fr,es,clock,ys,j2,j3,j4,k5,k6⟩
  have hfoot:∀c,ze4 s c→VD.ze4 sd c:=fun c hc=>⟨Nat.lt_of_lt_of_le hc.1 hsz,fun e=>hc.2 (e ▸ hXb)⟩;have conv:∀z:α',E'.R sd.w (VD.ze4 sd) (enc z) z.1.2:=fun z=>E'.mono hfoot (E'.move (fun c hc=>hoth c hc.1 (fun e=>hc.2 (e ▸ hXb))) (hR z.2.1))
  have:=cmp_grow (hc _ x.2.2 _ y.2.2) sd hgd (conv x) (conv y);have hval:∀z:α',E'.val (enc z) = .agg (enc z).toArray:=fun z=>by unfold VD.En.val;rw [hA'];rfl
  rw [hval,hval] at this;exact this
 have hmain:=Go.Proofs.AnyQ.slices_SortFunc L E.sz (fun w=>by rw [ht24,← hA];exact zhr hE w) (fun w=>by rw [ht24];exact zbg hE w) enc hk hone (fun p q:α'=>cf p.1.2 q.1.2) hO' g #[] b 0 cap d s.w eg hcmp hH hblt (by rw [hdn];omega);rw [hdn] at hmain;refine hmain.mono fun e w' ⟨he,d',m,os,hP,hS,hw⟩=>?_;subst he;subst hw;have hd'n:d'.size=xs.length:=hP.1.trans hdn;have hsz:s.w.heap.size≤(sortWorldK enc E.sz s.w b 0 m d' os).heap.size:=Go.Proofs.size_sortWorldK_c enc E.sz s.w b 0 m d' os
 let s':St:=⟨sortWorldK enc E.sz s.w b 0 m d' os,s.X,fun c hc=>Nat.lt_of_lt_of_le (s.lt c hc) hsz⟩
 have hmv:Mv (fun c=>(Value.slice (some ⟨b,0,none⟩) xs.length cap).ownBlock=some c) s s':=
  ⟨trivial,rfl,rfl,rfl,hsz,fun c hc hne=>put_other m os hc (fun e=>hne (by rw [e];rfl)),fun c hc=>hX c hc,fun c hc=>.inl hc⟩
 refine ⟨_,s',rfl,rfl,⟨hmv,fun c hc=>hc⟩,d'.toList.map (fun p=>p.1.2), ?_, ?_,rfl,rfl,fun c hc=>h2 c hc,by simp [hd'n];exact h3,d'.toList.map (fun p=>p.1.1),⟨by simp,fun i cs x hi hx=>?_⟩, ?_⟩
 ·have hp:=(hP.2.2).map (fun p:α'=>p.1.2);have e1:(d'.extract 0 xs.length).toList=d'.toList:=by rw [← hd'n];simp
  have e2:(d.extract 0 xs.length).toList=d.toList:=by rw [← hdn];simp
  rw [e1,e2,hdx] at hp;exact hp
 ·rw [List.pairwise_iff_getElem];intro i j hi hj hij;simp only [List.length_map,Array.length_toList] at hi hj;have:=hS i j (Nat.zero_le _) hij (by omega);unfold Go.Proofs.ltOf at this;rw [getElem!_pos d' i hi,getElem!_pos d' j hj] at this;simpa using this
 ·simp only [List.getElem?_map,Array.getElem?_toList] at hi hx;cases hq:d'[i]? with
  | none=>rw [hq] at hi;cases hi
  | some q=>
   rw [hq] at hi hx;simp only [Option.map_some,Option.some.injEq] at hi hx;subst hi;subst hx;exact E.go hmv q.2.1
 ·have hfl:(d'.toList.map (fun p=>p.1.1)).flatten.length=d'.size*E.sz:=by
   rw [zg7 (fun cs hcs=>by obtain ⟨p,hp,rfl⟩:=List.mem_map.1 hcs;exact E.len p.2.1)];simp
  have hle:d'.size*E.sz≤cur.size:=by rw [hcs,hd'n];exact Nat.mul_le_mul_right _ hnc
  refine ⟨by rw [hfl];simp,.inr ⟨b,cap,_,by simp [hd'n],Nat.zero_le _,put_block m os hgb,by simp [hd'n];exact hnc,hcm,by simp [putCells];exact hcs, ?_⟩⟩;apply List.ext_getElem?;intro j;rw [List.getElem?_take];simp only [List.length_map,Array.length_toList];split
  ·rename_i hj
   rw [hflat d' j hj,Array.getElem?_toList];unfold putCells;rw [Array.getElem?_mapIdx,Array.getElem?_eq_getElem (by omega)];simp only [Option.map_some,id];rw [if_pos ⟨Nat.zero_le _,by rw [size_flatK];omega⟩,Nat.sub_zero]
  ·rename_i hj
   rw [List.getElem?_eq_none (by rw [hfl];omega)]
end Go.Proofs.YtahgmdbioafmbaaGreatDoor.V
namespace Go.Proofs.YtahgmdbioafmbaaGreatDoor.V
open Go
set_option linter.unusedVariables false
theorem dt {p:Prop} [Decidable p] (h:decide p=true):p:=of_decide_eq_true h
theorem df {p:Prop} [Decidable p] (h:decide p=false):¬ p:=of_decide_eq_false h
theorem zgx {σ:Type} {P:Nat→σ→Int→Prop} (n:Nat) (I:Nat→σ→Prop)
  (hs:∀i s,i<n→I i s→(∀k,P (k+1) s (i:Int))∨∃s',I (i+1) s'∧∀k,P k s' ((i:Int)+1)→P (k+1) s (i:Int))
  (hx:∀s,I n s→∀k,P (k+1) s (n:Int)) (s:σ) (h:I 0 s):∃k,P k s 0:=by
 have:∀m i s,i+m=n→I i s→∃k,P k s (i:Int):=by
  intro m
  induction m with
  | zero=>intro i s hi hI;have:i=n:=by omega
          subst this;exact ⟨1,hx s hI 0⟩
  | succ m ih=>
   intro i s hi hI;rcases hs i s (by omega) hI with h | ⟨s',h1,h2⟩
   ·exact ⟨1,h 0⟩
   ·obtain ⟨k,hk⟩:=ih (i+1) s' (by omega) h1;exact ⟨k+1,h2 k (by simpa using hk)⟩
 simpa using this n 0 s (by omega) h
theorem run {σ:Type} {P:Nat→σ→Prop} (I:σ→Prop) (μ:σ→Nat) (h:∀s,I s→(∀k,P (k+1) s)∨∃s',I s'∧μ s' < μ s∧∀k,P k s'→P (k+1) s) (s:σ) (hI:I s):∃k,P k s:=by
 have:∀m s,μ s<m→I s→∃k,P k s:=by
  intro m
  induction m with
  | zero=>intro s hs;omega
  | succ m ih=>
   intro s hs hI;rcases h s hI with h1 | ⟨s',h1,h2,h3⟩
   ·exact ⟨1,h1 0⟩
   ·obtain ⟨k,hk⟩:=ih s' (by omega) h1;exact ⟨k+1,h3 k hk⟩
 exact this (μ s+1) s (by omega) hI
theorem zh {x:Int} (h1:-9223372036854775808≤x) (h2:x≤9223372036854775807):InR .i64 x:=zi6.2 ⟨h1,h2⟩
theorem zbq {α:Type} {xs:List α} {i:Nat}:at? xs (i:Int)=xs[i]?:=by
 unfold at?;rw [if_pos (by omega)];simp
def Cl.put (a:Cl) (n:Nat):Cl:=a ||| BitVec.twoPow 256 n
theorem has_put {a:Cl} {n m:Nat} (hn:n<256):(a.put n).has m=(a.has m||decide (n=m)):=by
 unfold Cl.put Cl.has;rw [BitVec.getLsbD_or,BitVec.getLsbD_twoPow];simp [hn]
theorem zki {a b:Cl} {m:Nat}:(a &&& b).has m=(a.has m&&b.has m):=BitVec.getLsbD_and
theorem zon {a:Cl} {m:Nat} (h:m<256):(~~~ a).has m = !a.has m:=by
 unfold Cl.has;rw [BitVec.getLsbD_not];simp [h]
theorem has_zero {m:Nat}:Cl.has (0#256) m=false:=by simp [Cl.has]
theorem w_nat (a:Cl) (i:Int):(Cl.w a i).toNat=a.word i.toNat:=by simp [Cl.w]
theorem has_w {a:Cl} {n:Nat} (h:n<256):a.has n=(a.word (n / 64)).testBit (n % 64):=by
 rw [Cl.word_bit];simp [Nat.mod_lt,Nat.div_add_mod]
theorem znv {a:Cl} {i:Nat} {v:Int} (hv:v.toNat<2 ^ 64) (j:Nat) (hj:j<4):(a.setw (i:Int) v).word j=if j=i then v.toNat else a.word j:=by
 unfold Cl.setw;have hw:∀k,a.word k<2 ^ 64:=a.word_lt;have hb:∀(c:Prop) [Decidable c] (k:Nat),(if c then v.toNat else a.word k)<2 ^ 64:=fun c _ k=>by split <;> simp_all
 obtain ⟨h0,h1,h2,h3⟩:=Cl.ofWords_word (hb ((i:Int)=0) 0) (hb ((i:Int)=1) 1) (hb ((i:Int)=2) 2) (hb ((i:Int)=3) 3)
 match j,hj with
 | 0,_=>rw [h0];split <;> split <;> first | rfl | omega
 | 1,_=>rw [h1];split <;> split <;> first | rfl | omega
 | 2,_=>rw [h2];split <;> split <;> first | rfl | omega
 | 3,_=>rw [h3];split <;> split <;> first | rfl | omega
theorem has_setw {a:Cl} {i:Nat} {v:Int} (hv:v.toNat<2 ^ 64) {n:Nat} (hn:n<256):(a.setw (i:Int) v).has n=if n / 64=i then v.toNat.testBit (n % 64) else a.has n:=by
 rw [has_w hn,znv hv _ (by omega),has_w hn];split <;> rfl
theorem shr_bit {w k:Nat} (hk:k<64):(andI (zp4 (w:Int) (k:Int)) 1==1)=w.testBit k:=by
 unfold andI zp4;rw [show min ((k:Int)).toNat 64=k by simp;omega];have h:((w:Int) / 2 ^ k).toNat=w / 2 ^ k:=by
  rw [show ((2:Int) ^ k)=((2 ^ k:Nat):Int) by simp,← Int.natCast_ediv];exact Int.toNat_natCast _
 rw [h];simp only [Int.toNat_one,Nat.and_one_is_mod,Nat.testBit_eq_decide_div_mod_eq];have:=Nat.mod_two_eq_zero_or_one (w / 2 ^ k);rcases this with h | h <;> rw [h] <;> rfl
theorem shl_one {k:Nat} (hk:k<64):shlI 1 (k:Int)=((2 ^ k:Nat):Int):=by
 unfold shlI;rw [show min ((k:Int)).toNat 64=k by simp;omega,Int.one_mul];have:2 ^ k<2 ^ 64:=Nat.pow_lt_pow_right (by omega) hk;rw [show ((2:Int) ^ k)=((2 ^ k:Nat):Int) by simp];generalize 2 ^ k=q at *;omega
theorem put_words {a:Cl} {n:Nat} (hn:n<256):a.setw ((n / 64:Nat):Int) (orI (Cl.w a ((n / 64:Nat):Int)) (shlI 1 ((n % 64:Nat):Int)))=a.put n:=by
 apply Cl.ext;intro c hc;have hlt:(orI (Cl.w a ((n / 64:Nat):Int)) (shlI 1 ((n % 64:Nat):Int))).toNat=a.word (n / 64) ||| 2 ^ (n % 64):=by
  rw [shl_one (Nat.mod_lt _ (by omega))];unfold orI;rw [w_nat,Int.toNat_natCast,Int.toNat_natCast,Int.toNat_natCast]
 have hb:a.word (n / 64) ||| 2 ^ (n % 64)<2 ^ 64:=Nat.or_lt_two_pow (a.word_lt _) (Nat.pow_lt_pow_right (by omega) (Nat.mod_lt _ (by omega)))
 rw [has_setw (by rw [hlt];exact hb) hc,hlt,has_put hn];split
 ·rename_i h
  rw [Nat.testBit_or,Nat.testBit_two_pow,← h,← has_w hc]
  congr 1
  apply decide_eq_decide.2;omega
 ·rename_i h
  rw [show decide (n=c)=false by simp;intro e;subst e;exact h rfl];simp
def Cl.row (f t:Int):Cl:=Cl.of fun n=>decide (f≤(n:Int))&&decide ((n:Int)≤t)
theorem zkh {f t:Int} {n:Nat} (h:n<256):(Cl.row f t).has n=(decide (f≤(n:Int))&&decide ((n:Int)≤t)):=Cl.of_has _ h
def Cl.least (a:Cl):Int × Bool:=match (List.range 256).find? a.has with
 | some n=>((n:Int),true)
 | none=>(0,false)
def Cl.count (a:Cl):Nat:=(List.range 256).countP a.has
def Cl.addL (a:Cl) (l:List Int):Cl:=l.foldl (fun a c=>a.put c.toNat) a
theorem u8_of {c:Int} (h:InR .u8 c):∃n:Nat,n<256∧c=n:=by
 rw [zcy] at h;exact ⟨c.toNat,by omega,by omega⟩
theorem u8_nat {n:Nat} (h:n<256):InR .u8 (n:Int):=zcy.2 ⟨by omega,by omega⟩
theorem least_some {a:Cl} {n:Nat} (h:a.least=((n:Int),true)):n<256∧a.has n=true∧∀m,m<n→a.has m=false:=by
 unfold Cl.least at h;split at h
 ·rename_i k hk
  have e:k=n:=by have h2:=(Prod.mk.inj h).1;omega
  subst e;rw [List.find?_eq_some_iff_getElem] at hk;obtain ⟨h1,i,h2,h3,h4⟩:=hk;simp at h2 h3;subst h3;refine ⟨h2,h1,fun m hm=>?_⟩;have:=h4 m hm;simpa using this
 ·simp at h
theorem least_none {a:Cl} (h:a.least.2=false):∀m,m<256→a.has m=false:=by
 unfold Cl.least at h;split at h
 ·simp at h
 ·rename_i hk
  intro m hm;have:=List.find?_eq_none.1 hk m (by simpa using hm);simpa using this
theorem least_of {a:Cl} {n:Nat} (hn:n<256) (h1:a.has n=true) (h2:∀m,m<n→a.has m=false):a.least=((n:Int),true):=by
 have:(List.range 256).find? a.has=some n:=by
  rw [List.find?_eq_some_iff_getElem];exact ⟨h1,n,by simpa using hn,by simp,fun j hj=>by simp [h2 j hj]⟩
 simp [Cl.least,this]
theorem zid {a:Cl} (h:∀m,m<256→a.has m=false):a.least=(0,false):=by
 have:(List.range 256).find? a.has=none:=by
  rw [List.find?_eq_none];intro m hm;simp [h m (by simpa using hm)]
 simp [Cl.least,this]
def Cl.ofL (l:List Bool):Cl:=Cl.of fun n=>l.getD n false
theorem has_ofL {l:List Bool} {n:Nat} (h:n<256):(Cl.ofL l).has n=l.getD n false:=Cl.of_has _ h
theorem dig10:∀d:Fin 10,(UInt8.ofNat (48+d.1)).toNat=48+d.1:=by decide
theorem dec_ge (u:Nat):∀c∈Lib.decDigits u,48≤c.toNat∧c.toNat≤57:=by
 induction u using Nat.strongRecOn with
 | ind u ih=>
  intro c hc;have hd:∀d,d<10→(UInt8.ofNat (48+d)).toNat=48+d:=fun d hd=>dig10 ⟨d,hd⟩;rw [Lib.decDigits] at hc;split at hc
  ·rename_i h
   rw [List.mem_singleton.1 hc,hd u h];omega
  ·rename_i h
   rcases List.mem_append.1 hc with hc | hc
   ·exact ih (u / 10) (by omega) c hc
   ·rw [List.mem_singleton.1 hc,hd _ (Nat.mod_lt _ (by omega))];omega
def valD (l:List UInt8):Nat:=l.foldl (fun a c=>10*a+(c.toNat-48)) 0
theorem zmw (u:Nat):valD (Lib.decDigits u)=u:=by
 induction u using Nat.strongRecOn with
 | ind u ih=>
  have hd:∀d,d<10→(UInt8.ofNat (48+d)).toNat=48+d:=fun d hd=>dig10 ⟨d,hd⟩;rw [Lib.decDigits];split
  ·rename_i h
   simp only [valD,List.foldl_cons,List.foldl_nil,hd u h];omega
  ·rename_i h
   have:=ih (u / 10) (by omega);unfold valD at this ⊢;rw [List.foldl_append,this];simp only [List.foldl_cons,List.foldl_nil,hd _ (Nat.mod_lt u (show 10 > 0 by omega))];omega
theorem zqf (n:Int):∀c∈Lib.itoa n,c≠32:=by
 intro c hc he;subst he;unfold Lib.itoa at hc;split at hc
 ·rcases List.mem_cons.1 hc with h | h
  ·exact absurd h (by decide)
  ·have:=(dec_ge _ _ h).1;exact absurd this (by decide)
 ·have:=(dec_ge _ _ hc).1;exact absurd this (by decide)
theorem itoa_inj {n m:Int} (h:Lib.itoa n=Lib.itoa m):n=m:=by
 have no45:∀u (l:List UInt8),Lib.decDigits u≠45::l:=fun u l he=>by
  have:=(dec_ge u 45 (by rw [he];simp)).1;exact absurd this (by decide)
 unfold Lib.itoa at h;split at h <;> split at h
 ·have:=congrArg valD (List.cons.inj h).2;rw [zmw,zmw] at this;omega
 ·exact absurd h.symm (no45 _ _)
 ·exact absurd h (no45 _ _)
 ·have:=congrArg valD h;rw [zmw,zmw] at this;omega
theorem at_none {α:Type} {xs:List α} {i:Int} (h:i<0∨(xs.length:Int)≤i):at? xs i=none:=by
 unfold at?;split
 ·exact List.getElem?_eq_none (by omega)
 ·rfl
theorem zoz {α:Type} {xs:List α} {i:Int} (h0:0≤i) (h1:i<(xs.length:Int)):∃x,at? xs i=some x∧x∈xs:=by
 refine ⟨xs[i.toNat]'(by omega), ?_,List.getElem_mem _⟩;unfold at?;rw [if_pos h0];exact List.getElem?_eq_getElem _
theorem uptoK {σ:Type} {P:Nat→σ→Int→Prop} (n:Nat) (I:Nat→σ→Prop)
  (hs:∀i s k,i<n→I i s→(∀s',I (i+1) s'→P k s' ((i:Int)+1))→P (k+1) s (i:Int))
  (hx:∀s,I n s→∀k,P (k+1) s (n:Int)) (s:σ) (h:I 0 s):∃k,P k s 0:=by
 have:∀m i s,i+m=n→I i s→P (m+1) s (i:Int):=by
  intro m
  induction m with
  | zero=>intro i s hi hI;have:i=n:=by omega
          subst this;exact hx s hI 0
  | succ m ih=>
   intro i s hi hI;exact hs i s (m+1) (by omega) hI fun s' h'=>by simpa using ih (i+1) s' (by omega) h'
 exact ⟨n+1,by simpa using this n 0 s (by omega) h⟩
theorem zrs {κ ν:Type} [DecidableEq κ] (k:κ) (z:ν):zeg ([]:List (κ × ν)) k z=z:=rfl
theorem ziz {κ ν:Type} [DecidableEq κ] (p:κ × ν) (xs:List (κ × ν)) (k:κ) (z:ν):zeg (p::xs) k z=if p.1=k then p.2 else zeg xs k z:=by
 unfold zeg;rw [List.find?_cons]
 by_cases h:p.1=k
 ·subst h;simp
 ·have h':(p.1==k)=false:=by simpa using h
  rw [h',if_neg h]
theorem zog {κ ν:Type} [DecidableEq κ] (xs:List (κ × ν)) (k k':κ) (v z:ν):zeg (zfx xs k v) k' z=if k=k' then v else zeg xs k' z:=by
 have hmap:∀xs:List (κ × ν),zeg (xs.map (fun p=>bif p.1==k then (k,v) else p)) k' z=if k=k' then (if zhv xs k=true then v else z) else zeg xs k' z:=by
  intro xs
  induction xs with
  | nil=>simp [zrs,zhv]
  | cons p xs ih=>
   rw [List.map_cons,ziz,ih,ziz]
   by_cases hp:p.1=k
   ·subst hp
    by_cases hk:p.1=k' <;> simp [hk,zhv]
   ·have:(p.1==k)=false:=by simpa using hp
    rw [this]
    by_cases hk:k=k'
    ·subst hk;simp only [zhv,List.any_cons,this,Bool.false_or,cond_false,if_neg hp];rfl
    ·simp [hk]
 have happ:∀xs:List (κ × ν),zhv xs k=false→zeg (xs++[(k,v)]) k' z=if k=k' then v else zeg xs k' z:=by
  intro xs
  induction xs with
  | nil=>intro _;rw [List.nil_append,ziz,zrs]
  | cons p xs ih=>
   intro h;simp only [zhv,List.any_cons,Bool.or_eq_false_iff] at h;rw [List.cons_append,ziz,ih h.2,ziz];have hp:p.1≠k:=by simpa using h.1
   by_cases hk:k=k'
   ·subst hk;simp [hp]
   ·simp [hk]
 unfold zfx;cases h:zhv xs k
 ·exact happ xs h
 ·rw [cond_true,hmap,h];simp
theorem zok (x y:Int) (a b:List Int):zh1 (x::a) (y::b)=if sgnI x y≠0 then sgnI x y else zh1 a b:=by
 unfold sgnI;rw [zh1]
 by_cases h1:x<y
 ·simp [h1]
 ·by_cases h2:y<x
  ·simp [h1,h2]
  ·simp [h1,h2]
theorem zd0 (b:List Int):zh1 [] b=0:=by cases b <;> rfl
theorem zhj (a:List Int):zh1 a []=0:=by cases a <;> rfl
theorem cmpItem_lex (x y:SItem):cmpItem x y=zh1 (zdc x) (zdc y):=by
 unfold cmpItem zdc;simp only [zok,zr8,zd0]
theorem lexI_app {a b:List Int} (h:a.length=b.length) (u v:List Int):zh1 (a++u) (b++v)=if zh1 a b≠0 then zh1 a b else zh1 u v:=by
 induction a generalizing b with
 | nil=>
  cases b with
  | nil=>simp [zd0]
  | cons y b=>simp at h
 | cons x a ih=>
  cases b with
  | nil=>simp at h
  | cons y b=>
   simp only [List.cons_append,zok];rw [ih (by simpa using h)];split <;> simp_all
theorem lexI_self (a:List Int):zh1 a a=0:=by
 induction a with
 | nil=>rfl
 | cons x a ih=>rw [zh1,if_neg (by omega),if_neg (by omega),ih]
theorem lexI_anti (a b:List Int):zh1 b a = -zh1 a b:=by
 induction a generalizing b with
 | nil=>rw [zd0,zhj];rfl
 | cons x a ih=>
  cases b with
  | nil=>rw [zd0,zhj];rfl
  | cons y b=>
   rw [zh1,zh1]
   by_cases h1:x<y
   ·rw [if_neg (by omega),if_pos h1,if_pos h1];rfl
   ·by_cases h2:y<x
    ·rw [if_pos h2,if_neg h1,if_pos h2]
    ·rw [if_neg h2,if_neg h1,if_neg h1,if_neg h2,ih]
theorem lexI_zero {a b:List Int} (hl:a.length=b.length) (h:zh1 a b=0):a=b:=by
 induction a generalizing b with
 | nil=>cases b with
  | nil=>rfl
  | cons y b=>simp at hl
 | cons x a ih=>
  cases b with
  | nil=>simp at hl
  | cons y b=>
   rw [zh1] at h
   by_cases h1:x<y
   ·rw [if_pos h1] at h;cases h
   ·by_cases h2:y<x
    ·rw [if_neg h1,if_pos h2] at h;cases h
    ·rw [if_neg h1,if_neg h2] at h;rw [ih (by simpa using hl) h,show x=y by omega]
theorem lexI_trans {a b c:List Int} (h1:a.length=b.length) (h2:b.length=c.length) (h:zh1 a b<0) (k:zh1 b c<0):zh1 a c<0:=by
 induction a generalizing b c with
 | nil=>rw [zd0] at h;omega
 | cons x a ih=>
  cases b with
  | nil=>simp at h1
  | cons y b=>
   cases c with
   | nil=>simp at h2
   | cons z c=>
    rw [zh1] at h k ⊢
    by_cases e1:x<y
    ·by_cases e2:y<z
     ·rw [if_pos (by omega)];omega
     ·by_cases e3:z<y
      ·rw [if_neg e2,if_pos e3] at k;omega
      ·rw [if_pos (by omega)];omega
    ·by_cases e2:y<x
     ·rw [if_neg e1,if_pos e2] at h;omega
     ·rw [if_neg e1,if_neg e2] at h
      by_cases e3:y<z
      ·rw [if_pos (by omega)];omega
      ·by_cases e4:z<y
       ·rw [if_neg e3,if_pos e4] at k;omega
       ·rw [if_neg e3,if_neg e4] at k;rw [if_neg (by omega),if_neg (by omega)];exact ih (by simpa using h1) (by simpa using h2) h k
theorem zfn (x:SItem) (s:List SItem):zey (x::s)=zdc x++zey s:=by simp [zey]
theorem zdz (l:List SItem):(zey l).length=4*l.length:=by
 induction l with
 | nil=>rfl
 | cons x l ih=>rw [zfn,List.length_append,ih];simp [zdc];omega
theorem numsS_inj {s t:List SItem} (h:zey s=zey t):s=t:=by
 induction s generalizing t with
 | nil=>
  cases t with
  | nil=>rfl
  | cons y t=>rw [zfn] at h;simp [zey,zdc] at h
 | cons x s ih=>
  cases t with
  | nil=>rw [zfn] at h;simp [zey,zdc] at h
  | cons y t=>
   rw [zfn,zfn] at h;obtain ⟨x1,x2,x3,x4⟩:=x;obtain ⟨y1,y2,y3,y4⟩:=y;simp only [zdc,List.cons_append,List.nil_append,List.cons.injEq] at h;obtain ⟨rfl,rfl,rfl,rfl,h⟩:=h;rw [ih h]
theorem zel {a b:List SItem}:zez a b=0↔a=b:=by
 constructor
 ·intro h;unfold zez numsL at h;rw [zh1] at h
  by_cases h1:(a.length:Int)<(b.length:Int)
  ·rw [if_pos h1] at h;cases h
  ·by_cases h2:(b.length:Int)<(a.length:Int)
   ·rw [if_neg h1,if_pos h2] at h;cases h
   ·rw [if_neg h1,if_neg h2] at h;exact numsS_inj (lexI_zero (by rw [zdz,zdz];omega) h)
 ·rintro rfl;exact lexI_self _
theorem zf1 (a b:List SItem):zez b a = -zez a b:=lexI_anti _ _
theorem zgg {a b c:List SItem} (h:zez a b<0) (k:zez b c<0):zez a c<0:=by
 unfold zez numsL at *;rw [zh1] at h k ⊢
 by_cases e1:(a.length:Int)<(b.length:Int)
 ·by_cases e2:(b.length:Int)<(c.length:Int)
  ·rw [if_pos (by omega)];omega
  ·by_cases e3:(c.length:Int)<(b.length:Int)
   ·rw [if_neg e2,if_pos e3] at k;omega
   ·rw [if_pos (by omega)];omega
 ·by_cases e2:(b.length:Int)<(a.length:Int)
  ·rw [if_neg e1,if_pos e2] at h;omega
  ·rw [if_neg e1,if_neg e2] at h
   by_cases e3:(b.length:Int)<(c.length:Int)
   ·rw [if_pos (by omega)];omega
   ·by_cases e4:(c.length:Int)<(b.length:Int)
    ·rw [if_neg e3,if_pos e4] at k;omega
    ·rw [if_neg e3,if_neg e4] at k;rw [if_neg (by omega),if_neg (by omega)];exact lexI_trans (by rw [zdz,zdz];omega) (by rw [zdz,zdz];omega) h k
theorem cut32 {a b:List UInt8} (ha:∀c∈a,c≠32) (hb:∀c∈b,c≠32) {u v:List UInt8} (h:a++32::u=b++32::v):a=b∧u=v:=by
 induction a generalizing b with
 | nil=>
  cases b with
  | nil=>exact ⟨rfl,(List.cons.inj h).2⟩
  | cons y b=>exact absurd (List.cons.inj h).1.symm (hb y (by simp))
 | cons x a ih=>
  cases b with
  | nil=>exact absurd (List.cons.inj h).1 (ha x (by simp))
  | cons y b=>
   obtain ⟨h1,h2⟩:=List.cons.inj h;obtain ⟨h3,h4⟩:=ih (fun c hc=>ha c (by simp [hc])) (fun c hc=>hb c (by simp [hc])) h2;exact ⟨by rw [h1,h3],h4⟩
theorem zi3 (z:Int) (l:List Int):zk3 (z::l)=Lib.itoa z++32::zk3 l:=by simp [zk3]
theorem keyN_inj {l m:List Int} (h:zk3 l=zk3 m):l=m:=by
 induction l generalizing m with
 | nil=>
  cases m with
  | nil=>rfl
  | cons y m=>rw [zi3] at h;simp [zk3] at h
 | cons z l ih=>
  cases m with
  | nil=>rw [zi3] at h;simp [zk3] at h
  | cons y m=>
   rw [zi3,zi3] at h;obtain ⟨h1,h2⟩:=cut32 (zqf z) (zqf y) h;rw [itoa_inj h1,ih h2]
theorem zgd {s t:List SItem}:keyS s=keyS t↔s=t:=⟨fun h=>numsS_inj (keyN_inj h),fun h=>by rw [h]⟩
def zld (x:SItem):Bool:=x.1==5&&decide (x.2.2.1≤0)
def zlh (x:SItem):SItem:=if x.1=5 then (x.1,x.2.1,x.2.2.1-1,x.2.2.2) else x
def zds (s:List SItem):List SItem × Bool:=if s.any zld=true then ([],false) else (s.map zlh,true)
theorem zoh {α β:Type} {f g:α→Option β} (h:∀a b,f a=some b→g a=some b):∀(l:List α) (r:List β),l.mapM f=some r→l.mapM g=some r
 | [],r,hr=>by simpa using hr
 | a::l,r,hr=>by
  rw [List.mapM_cons] at hr ⊢;cases ha:f a with
  | none=>rw [ha] at hr;simp at hr
  | some b=>
   rw [ha] at hr;cases hl:l.mapM f with
   | none=>rw [hl] at hr;simp at hr
   | some bs=>
    rw [hl] at hr;rw [h a b ha,zoh h l bs hl];exact hr
theorem lv_mono1 (d:List SNode):∀(h:Nat) (s:List SItem) (l:List (List SItem)),lv d h s=some l→lv d (h+1) s=some l
 | 0,_,_,hl=>by simp [lv] at hl
 | h+1,s,l,hl=>by
  unfold lv at hl ⊢
  by_cases hr:rdy d s=true
  ·rw [if_pos hr] at hl ⊢;exact hl
  ·rw [if_neg hr] at hl ⊢;obtain ⟨ls,h1,h2⟩:=Option.map_eq_some_iff.1 hl;rw [zoh (lv_mono1 d h) _ _ h1,← h2];rfl
theorem zi0 {d:List SNode} {h h':Nat} (hh:h≤h') {s:List SItem} {l:List (List SItem)} (hl:lv d h s=some l):lv d h' s=some l:=by
 obtain ⟨k,rfl⟩:∃k,h'=h+k:=⟨h' - h,by omega⟩;clear hh
 induction k with
 | zero=>exact hl
 | succ k ih=>exact lv_mono1 d (h+k) s l ih
theorem nzL_aux (d:List SNode):∀(l:List Bool),(d.foldl (fun l n=>l++[nzN l n]) l).length=l.length+d.length∧l <+: d.foldl (fun l n=>l++[nzN l n]) l:=by
 induction d with
 | nil=>intro l;exact ⟨by simp,List.prefix_refl _⟩
 | cons n d ih=>
  intro l;obtain ⟨h1,h2⟩:=ih (l++[nzN l n]);exact ⟨by rw [List.foldl_cons,h1];simp;omega,(List.prefix_append _ _).trans h2⟩
theorem nzL_at {d:List SNode} {i:Nat} {n:SNode} (h:d[i]?=some n):(nzL d)[i]?=some (nzN ((nzL d).take i) n):=by
 have hi:=(List.getElem?_eq_some_iff.1 h).1;have hd:d=d.take i++n::d.drop (i+1):=by
  have hn:d[i]=n:=by rw [List.getElem?_eq_getElem hi] at h;exact Option.some.inj h
  rw [← hn,List.getElem_cons_drop,List.take_append_drop]
 have e:nzL d=(d.drop (i+1)).foldl (fun l n=>l++[nzN l n]) (nzL (d.take i)++[nzN (nzL (d.take i)) n]):=by
  unfold nzL
  conv=>lhs;rw [hd]
  rw [List.foldl_append,List.foldl_cons]
 have hl:(nzL (d.take i)).length=i:=by
  have:=(nzL_aux (d.take i) []).1;unfold nzL;rw [this];simp;omega
 have hp:=(nzL_aux (d.drop (i+1)) (nzL (d.take i)++[nzN (nzL (d.take i)) n])).2;rw [← e] at hp;obtain ⟨r,hr⟩:=hp;have ht:(nzL d).take i=nzL (d.take i):=by rw [← hr,List.append_assoc,List.take_append_of_le_length (by omega),List.take_of_length_le (by omega)]
 rw [ht,← hr,List.append_assoc,List.getElem?_append_right (by omega),hl];simp
theorem zhm {α:Type} {l:List α} {i:Nat} {k:Int} (h0:0≤k) (h1:k<(i:Int)):at? (l.take i) k=at? l k:=by
 unfold at?;rw [if_pos h0,if_pos h0,List.getElem?_take,if_pos (by omega)]
theorem zmq {α:Type} {l:List α} {i:Int} {x:α} (h:at? l i=some x):∃k:Nat,i=(k:Int)∧l[k]?=some x:=by
 unfold at? at h;split at h
 ·exact ⟨i.toNat,by omega,h⟩
 ·cases h
theorem nz_at {d:List SNode} (hd:ROk d) {i:Int} {n:SNode} (h:at? d i=some n):nz d i =
  (if n.1=1 then true else if n.1=4 then nz d n.2.1&&nz d n.2.2.1 else if n.1=5 then nz d n.2.1||nz d n.2.2.1 else if n.1=6 then true else if n.1=7 then decide (n.2.2.2.1=0) else false):=by
 obtain ⟨k,rfl,hk⟩:=zmq h;have e:=nzL_at hk;have e2:nz d (k:Int)=nzN ((nzL d).take k) n:=by unfold nz;rw [zbq,e];rfl
 rw [e2];unfold nzN
 by_cases h1:n.1=1
 ·simp [h1]
 ·by_cases h4:n.1=4
  ·obtain ⟨⟨a,b⟩,c,e⟩:=hd.two _ n h (.inl h4);rw [if_neg h1,if_pos h4,if_neg h1,if_pos h4,zhm a b,zhm c e];rfl
  ·by_cases h5:n.1=5
   ·obtain ⟨⟨a,b⟩,c,e⟩:=hd.two _ n h (.inr h5);rw [if_neg h1,if_neg h4,if_pos h5,if_neg h1,if_neg h4,if_pos h5,zhm a b,zhm c e];rfl
   ·by_cases h6:n.1=6
    ·simp [h6]
    ·by_cases h7:n.1=7
     ·obtain ⟨a,b⟩:=hd.one _ n h (.inr (.inl h7));have:=hd.nn _ n h (.inr h7);unfold nz at this;rw [if_neg h1,if_neg h4,if_neg h5,if_neg h6,if_pos h7,if_neg h1,if_neg h4,if_neg h5,if_neg h6,if_pos h7,zhm a b,this,Bool.or_false]
     ·simp [h1,h4,h5,h6,h7]
theorem zi8 (a:List SItem):zez a a=0:=zel.2 rfl
theorem zg9 {a:List SItem} (h:zez a a<0):False:=by rw [zi8] at h;omega
theorem Can.nil:Can (fun _=>0) []:=⟨List.Pairwise.nil,by simp⟩
theorem sat_ne {a b:Nat} (h:sat a=sat b):(a≠0↔b≠0):=by unfold sat at h;omega
theorem Can.congr {f g:List SItem→Nat} {B:List SBranch} (h:Can f B) (e:∀t,sat (f t)=sat (g t)):Can g B:=
 ⟨h.srt,fun t m=>by rw [h.mem,sat_ne (e t),e t]⟩
theorem zkp:∀{B C:List SBranch},B.Pairwise (fun a b=>zez a.1 b.1<0)→C.Pairwise (fun a b=>zez a.1 b.1<0)→(∀x,x∈B↔x∈C)→B=C
 | [],[],_,_,_=>rfl
 | [],c::C,_,_,h=>by have:=(h c).2 (by simp);cases this
 | b::B,[],_,_,h=>by have:=(h b).1 (by simp);cases this
 | b::B,c::C,hB,hC,h=>by
  rw [List.pairwise_cons] at hB hC;have e:b=c:=by
   rcases List.mem_cons.1 ((h b).1 (by simp)) with e | hb
   ·exact e
   ·rcases List.mem_cons.1 ((h c).2 (by simp)) with e | hc
    ·exact e.symm
    ·exact (zg9 (zgg (hB.1 c hc) (hC.1 b hb))).elim
  subst e
  congr 1
  refine zkp hB.2 hC.2 fun x=>⟨fun hx=>?_,fun hx=>?_⟩
  ·rcases List.mem_cons.1 ((h x).1 (by simp [hx])) with e | hh
   ·subst e;exact (zg9 (hB.1 _ hx)).elim
   ·exact hh
  ·rcases List.mem_cons.1 ((h x).2 (by simp [hx])) with e | hh
   ·subst e;exact (zg9 (hC.1 _ hx)).elim
   ·exact hh
theorem Can.uniq {f:List SItem→Nat} {B C:List SBranch} (hB:Can f B) (hC:Can f C):B=C:=zkp hB.srt hC.srt fun ⟨t,m⟩=>by rw [hB.mem,hC.mem]
theorem Can.keys {f:List SItem→Nat} {B:List SBranch} (h:Can f B) (t:List SItem):t∈B.map (·.1)↔f t≠0:=by
 rw [List.mem_map];exact ⟨fun ⟨⟨t',m⟩,h1,h2⟩=>by subst h2;exact ((h.mem _ _).1 h1).1,fun h1=>⟨(t,sat (f t)),(h.mem _ _).2 ⟨h1,rfl⟩,rfl⟩⟩
theorem Can.nodup {f:List SItem→Nat} {B:List SBranch} (h:Can f B):(B.map (·.1)).Nodup:=by
 unfold List.Nodup;rw [List.pairwise_map];exact h.srt.imp fun {a b} hab e=>by rw [e] at hab;exact zg9 hab
theorem Can.many {f:List SItem→Nat} {B:List SBranch} (h:Can f B) {b:SBranch} (hb:b∈B):b.2=sat (f b.1)∧f b.1≠0∧1≤b.2∧b.2≤2:=by
 obtain ⟨h1,h2⟩:=(h.mem b.1 b.2).1 hb;exact ⟨h2,h1,by unfold sat at h2;omega,by unfold sat at h2;omega⟩
def zml (s:List SItem) (many:Int):List SBranch→List SBranch
 | []=>[(s,many)]
 | b::l=>if zez s b.1=0 then (s,min 2 (b.2+many))::l else if zez s b.1<0 then (s,many)::b::l else b::zml s many l
theorem addB_mem {s:List SItem} {many:Int}:∀{l:List SBranch} {x:SBranch},x∈zml s many l→x.1=s∨x∈l
 | [],x,h=>by simp only [zml,List.mem_singleton] at h;subst h;exact .inl rfl
 | b::l,x,h=>by
  unfold zml at h;split at h
  ·rcases List.mem_cons.1 h with rfl | h
   ·exact .inl rfl
   ·exact .inr (by simp [h])
  ·split at h
   ·rcases List.mem_cons.1 h with rfl | h
    ·exact .inl rfl
    ·exact .inr h
   ·rcases List.mem_cons.1 h with rfl | h
    ·exact .inr (by simp)
    ·exact (addB_mem h).imp id fun h=>by simp [h]
theorem addB_len (s:List SItem) (many:Int) (l:List SBranch):(zml s many l).length≤l.length+1:=by
 induction l with
 | nil=>simp [zml]
 | cons b l ih=>unfold zml;split;· simp
                split <;> simp;omega
theorem addB_srt {s:List SItem} {many:Int}:∀{l:List SBranch},l.Pairwise (fun a b=>zez a.1 b.1<0)→(zml s many l).Pairwise (fun a b=>zez a.1 b.1<0)
 | [],_=>by simp [zml]
 | b::l,h=>by
  rw [List.pairwise_cons] at h;unfold zml;split
  ·rename_i h0
   have e:=zel.1 h0;subst e;exact List.pairwise_cons.2 ⟨h.1,h.2⟩
  ·split
   ·rename_i h1
    refine List.pairwise_cons.2 ⟨fun c hc=>?_,List.pairwise_cons.2 h⟩;rcases List.mem_cons.1 hc with rfl | hc
    ·exact h1
    ·exact zgg h1 (h.1 c hc)
   ·rename_i h0 h1
    refine List.pairwise_cons.2 ⟨fun c hc=>?_,addB_srt h.2⟩;rcases addB_mem hc with e | hc
    ·rw [e];have:=zf1 s b.1;omega
    ·exact h.1 c hc
theorem addB_no {s:List SItem} {many:Int}:∀{l:List SBranch},(∀b∈l,b.1≠s)→l.Pairwise (fun a b=>zez a.1 b.1<0)→∀x,x∈zml s many l↔x=(s,many)∨x∈l
 | [],_,_,x=>by simp [zml]
 | b::l,hn,h,x=>by
  rw [List.pairwise_cons] at h;unfold zml;rw [if_neg fun h0=>hn b (by simp) (zel.1 h0).symm];split
  ·simp
  ·rw [List.mem_cons,addB_no (fun c hc=>hn c (by simp [hc])) h.2,List.mem_cons];constructor
   ·rintro (h | h | h) <;> simp [h]
   ·rintro (h | h | h) <;> simp [h]
theorem addB_yes {s:List SItem} {many m:Int}:∀{l:List SBranch},(s,m)∈l→l.Pairwise (fun a b=>zez a.1 b.1<0)→∀x,x∈zml s many l↔x=(s,min 2 (m+many))∨(x∈l∧x.1≠s)
 | b::l,hm,h,x=>by
  rw [List.pairwise_cons] at h;unfold zml
  by_cases hb:zez s b.1=0
  ·rw [if_pos hb];have e:=zel.1 hb;have hbm:b=(s,m):=by
    rcases List.mem_cons.1 hm with e' | hm
    ·exact e'.symm
    ·have:=h.1 _ hm;rw [← e] at this;exact (zg9 this).elim
   subst hbm;rw [List.mem_cons,List.mem_cons];constructor
   ·rintro (h' | h')
    ·exact .inl h'
    ·refine .inr ⟨.inr h',fun e'=>?_⟩;have:=h.1 _ h';rw [e'] at this;exact zg9 this
   ·rintro (h' | ⟨h' | h',h''⟩)
    ·exact .inl h'
    ·subst h';exact absurd rfl h''
    ·exact .inr h'
  ·rw [if_neg hb];have hml:(s,m)∈l:=(List.mem_cons.1 hm).resolve_left fun e=>hb (by rw [← e];exact zi8 _);have hlt:=h.1 _ hml;rw [if_neg fun h'=>by have:=zf1 s b.1;have h2:zez b.1 s<0:=hlt;omega];rw [List.mem_cons,addB_yes hml h.2,List.mem_cons];have hne:b.1≠s:=fun e=>hb (by rw [e];exact zi8 _);constructor
   ·rintro (h' | h' | ⟨h',h''⟩)
    ·subst h';exact .inr ⟨.inl rfl,hne⟩
    ·exact .inl h'
    ·exact .inr ⟨.inr h',h''⟩
   ·rintro (h' | ⟨h' | h',h''⟩)
    ·exact .inr (.inl h')
    ·exact .inl h'
    ·exact .inr (.inr ⟨h',h''⟩)
theorem Can.add {f:List SItem→Nat} {B:List SBranch} (h:Can f B) (s:List SItem) {n:Nat} (h1:n≠0):Can (fun t=>f t+if t=s then n else 0) (zml s (sat n) B):=by
 refine ⟨addB_srt h.srt,fun t m=>?_⟩
 by_cases hs:f s=0
 ·rw [addB_no (fun b hb e=>by have:=(h.many hb).2.1;rw [e] at this;exact this hs) h.srt,h.mem,Prod.mk.injEq]
  by_cases ht:t=s
  ·subst ht;simp [hs,h1]
  ·simp [ht]
 ·rw [addB_yes ((h.mem s _).2 ⟨hs,rfl⟩) h.srt,h.mem,Prod.mk.injEq]
  by_cases ht:t=s
  ·subst ht;simp only [true_and,if_true,ne_eq,not_true_eq_false,and_false,or_false];have:min 2 (sat (f t)+sat n)=sat (f t+n):=by unfold sat;omega
   rw [this];exact ⟨fun e=>⟨by omega,e⟩,fun e=>e.2⟩
  ·simp [ht]
theorem zi2 {α:Type} [DecidableEq α]:∀{l U:List α},l.Nodup→(∀t∈l,t∈U)→l.length≤U.length
 | [],_,_,_=>Nat.zero_le _
 | x::l,U,hn,h=>by
  rw [List.nodup_cons] at hn;have hx:=h x (by simp);have:=zi2 (l:=l) (U:=U.erase x) hn.2 fun t ht=>(List.mem_erase_of_ne (fun e=>hn.1 (by rw [← e];exact ht))).2 (h t (by simp [ht]));rw [List.length_erase_of_mem hx] at this;have:=List.length_pos_of_mem hx;simp only [List.length_cons];omega
theorem zsh {f:List SItem→Nat} {B:List SBranch} (h:Can f B) {U:List (List SItem)} (hU:∀t,f t≠0→t∈U):B.length≤U.length:=by
 have:(B.map (·.1)).length≤U.length:=zi2 h.nodup fun t ht=>hU t ((h.keys t).1 ht);simpa using this
theorem cmp_in {x y:Int}:zcw x y (sgnI x y):=by
 refine ⟨false,by simp [zet],false,by simp [zet],(fun h=>by cases h),fun _=>⟨(fun h=>by cases h),fun _=>⟨fun h=>?_,fun h=>⟨fun h2=>?_,fun h2=>?_⟩⟩⟩⟩
 ·unfold sgnI;rw [if_pos (dt h)]
 ·unfold sgnI;rw [if_neg (df h),if_pos (dt h2)]
 ·unfold sgnI;rw [if_neg (df h),if_neg (df h2)]
theorem or_in {l:List Int} (hl:l.length<1000000):zcp l (zr8 l):=by
 refine zgx (P:=fun k (_:Unit) v=>zcp.l1 l (zr8 l) _ k v) l.length (fun i _=>zr8 l=zr8 (l.drop i)) ?_ ?_ () (by simp)
 ·intro i _ hi h;have hat:at? l (i:Int)=some l[i]:=by rw [zbq];simp [hi]
  rw [List.drop_eq_getElem_cons hi] at h
  by_cases hz:l[i]=0
  ·rw [zr8,if_neg (by simpa using hz)] at h;exact .inr ⟨(),h,fun k hk=>⟨fun _=>⟨_,hat,fun hb=>by simp [hz] at hb,fun _=>⟨zh (by omega) (by omega),hk⟩⟩,fun h=>absurd (by omega) (df h)⟩⟩
  ·rw [zr8,if_pos hz] at h;exact .inl fun k=>⟨fun _=>⟨_,hat,fun _=>h,fun hb=>by simp at hb;exact absurd hb hz⟩,fun h=>absurd (by omega) (df h)⟩
 ·intro _ h k;refine ⟨fun h=>absurd (dt h) (by omega),fun _=>?_⟩;rw [List.drop_length] at h;exact h
theorem cmp1_in {x y:SItem}:zdn x y (zh1 (zdc x) (zdc y)):=by
 rw [← cmpItem_lex];exact ⟨_,cmp_in,_,cmp_in,_,cmp_in,_,cmp_in,_,or_in (by simp),rfl⟩
theorem cmpFunc_in {a b:List SItem} (hl:a.length=b.length) (hs:a.length≤1000):ze a b (fun q_=>zdn q_.1 q_.2.1 q_.2.2) (zh1 (zey a) (zey b)):=by
 refine zgx (P:=fun k (_:Unit) v=>ze.l1 a b (fun q_=>zdn q_.1 q_.2.1 q_.2.2) (zh1 (zey a) (zey b)) _ k v) a.length (fun i _=>zh1 (zey a) (zey b)=zh1 (zey (a.drop i)) (zey (b.drop i))) ?_ ?_ () (by simp)
 ·intro i _ hi h;have ha:at? a (i:Int)=some a[i]:=by rw [zbq];simp [hi]
  have hb:at? b (i:Int)=some (b[i]'(by omega)):=by rw [zbq];simp [show i<b.length by omega]
  rw [List.drop_eq_getElem_cons hi,List.drop_eq_getElem_cons (show i<b.length by omega),zfn,zfn,lexI_app (by simp [zdc])] at h
  by_cases hz:zh1 (zdc a[i]) (zdc (b[i]'(by omega)))=0
  ·rw [if_neg (by simpa using hz)] at h;refine .inr ⟨(),h,fun k hk=>⟨fun _=>⟨_,ha,fun h2=>absurd (dt h2) (by omega),fun _=>⟨_,hb,zh1 (zdc a[i]) (zdc (b[i]'(by omega))),cmp1_in,fun h3=>?_,fun _=>⟨zh (by omega) (by omega),hk⟩⟩⟩,fun h=>absurd (by omega) (df h)⟩⟩;rw [hz] at h3;simp at h3
  ·rw [if_pos hz] at h;refine .inl fun k=>⟨fun _=>⟨_,ha,fun h2=>absurd (dt h2) (by omega),fun _=>⟨_,hb,zh1 (zdc a[i]) (zdc (b[i]'(by omega))),cmp1_in,fun _=>h,fun h3=>?_⟩⟩,fun h=>absurd (by omega) (df h)⟩;simp at h3;exact absurd h3 hz
 ·intro _ h k;refine ⟨fun h=>absurd (dt h) (by omega),fun _=>⟨fun h2=>absurd (dt h2) (by omega),fun _=>?_⟩⟩;rw [h,List.drop_length];exact zd0 _
theorem zgu {a b:List SItem} (hs:a.length≤1000):zfy a b (zez a b):=by
 have e:zez a b=if sgnI (a.length:Int) (b.length:Int)≠0 then sgnI (a.length:Int) (b.length:Int) else zh1 (zey a) (zey b):=by unfold zez numsL;rw [zok]
 refine ⟨_,cmp_in,fun h=>?_,fun h=>?_⟩
 ·rw [e,if_pos (by simpa using h)]
 ·have h0:sgnI (a.length:Int) (b.length:Int)=0:=by simpa using h
  have hl:a.length=b.length:=by
   unfold sgnI at h0
   by_cases h1:(a.length:Int)<(b.length:Int)
   ·rw [if_pos h1] at h0;cases h0
   ·by_cases h2:(b.length:Int)<(a.length:Int)
    ·rw [if_neg h1,if_pos h2] at h0;cases h0
    ·omega
  refine ⟨_,cmpFunc_in hl hs, ?_⟩;rw [e,if_neg (by simpa using h0)]
theorem numsS_snoc (s:List SItem) (x:SItem):zey (s++[x])=zey s++zdc x:=by simp [zey]
theorem zik {s:List SItem} (hs:s.length≤1000):zc6 s (numsL s):=by
 refine zgx (P:=fun k (t:List Int) v=>zc6.l1 s _ k t v) s.length (fun i t=>t=(s.length:Int)::zey (s.take i)) ?_ ?_ _ (by simp [zey])
 ·rintro i t hi rfl;have hat:at? s (i:Int)=some s[i]:=by rw [zbq];simp [hi]
  have hl:=zdz (s.take i);simp only [List.length_take] at hl;refine .inr ⟨_,rfl,fun k h=>⟨fun _=>⟨_,hat,_,hat,_,hat,_,hat,by simp only [List.length_cons,List.length_nil];omega,zh (by omega) (by omega), ?_⟩,fun h=>absurd (by omega) (df h)⟩⟩;rw [List.take_succ_eq_append_getElem hi,numsS_snoc] at h;exact h
 ·rintro t rfl k;refine ⟨fun h=>absurd (dt h) (by omega),fun _=>?_⟩;rw [List.take_length];rfl
theorem zmo {a b:List SItem} (ha:a.length≤1000) (hb:b.length≤1000):zcs a b (zez a b):=by
 refine ⟨_,zik ha,_,zik hb, ?_⟩;have la:(numsL a).length≤4001:=by unfold numsL;rw [List.length_cons,zdz];omega
 show ∃k,zcs.l1 (numsL a) (numsL b) (zez a b) (zcs.j1 (zez a b)) k 0;unfold zez;generalize numsL a=X at *;generalize numsL b=Y at *;refine zgx (P:=fun k (_:Unit) v=>zcs.l1 X Y (zh1 X Y) _ k v) (min X.length Y.length) (fun i _=>zh1 X Y=zh1 (X.drop i) (Y.drop i)) ?_ ?_ () (by simp)
 ·intro i _ hi h;have hx:i<X.length:=by omega
  have hy:i<Y.length:=by omega
  have hax:at? X (i:Int)=some X[i]:=by rw [zbq];simp [hx]
  have hay:at? Y (i:Int)=some Y[i]:=by rw [zbq];simp [hy]
  have hb:(true:Bool)=((decide ((i:Int)<(X.length:Int)))&&(decide ((i:Int)<(Y.length:Int)))):=by simp;omega
  rw [List.drop_eq_getElem_cons hx,List.drop_eq_getElem_cons hy,zh1] at h
  by_cases h1:X[i] < Y[i]
  ·rw [if_pos h1] at h;exact .inl fun k=>⟨true,hb,fun _=>⟨_,hax,_,hay,fun _=>h,fun h2=>absurd h1 (df h2)⟩,(fun h=>by cases h)⟩
  ·by_cases h2:Y[i] < X[i]
   ·rw [if_neg h1,if_pos h2] at h;exact .inl fun k=>⟨true,hb,fun _=>⟨_,hax,_,hay,fun h3=>absurd (dt h3) h1,fun _=>⟨_,hax,_,hay,fun _=>h,fun h3=>absurd h2 (df h3)⟩⟩,(fun h=>by cases h)⟩
   ·rw [if_neg h1,if_neg h2] at h;exact .inr ⟨(),h,fun k hk=>⟨true,hb,fun _=>⟨_,hax,_,hay,fun h3=>absurd (dt h3) h1,fun _=>⟨_,hax,_,hay,fun h3=>absurd (dt h3) h2,fun _=>⟨zh (by omega) (by omega),hk⟩⟩⟩,(fun h=>by cases h)⟩⟩
 ·intro _ h k;refine ⟨false,by simp;omega,(fun h=>by cases h),fun _=>?_⟩;show zh1 X Y=0;rw [h];rcases Nat.le_total X.length Y.length with hle | hle
  ·rw [Nat.min_eq_left hle,List.drop_length];exact zd0 _
  ·rw [Nat.min_eq_right hle,List.drop_length];exact zhj _
def ItR (x:SItem):Prop:=InR .i64 x.1∧InR .i64 x.2.1∧InR .i64 x.2.2.1∧InR .i64 x.2.2.2
theorem clone_in {s:List SItem} (hs:s.length≤1000):zb0 s s:=fun b hb=>⟨fun h=>hb h,fun _=>⟨by simp;omega,by simp⟩⟩
theorem zm9 {s:List SItem} {i:Nat} (hi:i<s.length):(s.take (i+1)).any zld=((s.take i).any zld||zld s[i]):=by
 rw [List.take_succ_eq_append_getElem hi,List.any_append];simp
theorem any_of {s:List SItem} {i:Nat} (hi:i<s.length) (h:zld s[i]=true):s.any zld=true:=List.any_eq_true.2 ⟨_,List.getElem_mem hi,h⟩
theorem zol {s:List SItem} (hs:s.length≤1000):zk5 s (keyS s):=⟨hs,rfl⟩
theorem at0 {α:Type} (x:α) (l:List α):at? (x::l) 0=some x:=rfl
theorem zqi {a b:List SItem} (ha:a.length≤100000) (hb:b.length≤100000):zg [a,b] (a++b):=by
 refine ⟨3,⟨fun _=>⟨a,rfl,zh (by omega) (by omega),fun h=>absurd (dt h) (by omega),fun _=>⟨zh (by omega) (by omega), ?_⟩⟩,fun h=>absurd h (by simp)⟩⟩;refine ⟨fun _=>⟨b,rfl,zh (by omega) (by omega),fun h=>absurd (dt h) (by omega),fun _=>⟨zh (by omega) (by omega), ?_⟩⟩,fun h=>absurd h (by simp)⟩;refine ⟨fun h=>absurd h (by simp),fun _=>?_⟩;refine ⟨[],⟨by omega,by omega,rfl⟩,3, ?_⟩;refine ⟨fun _=>⟨a,rfl,by simp;omega,zh (by omega) (by omega), ?_⟩,fun h=>absurd h (by simp)⟩;refine ⟨fun _=>⟨b,rfl,by simp;omega,zh (by omega) (by omega), ?_⟩,fun h=>absurd h (by simp)⟩;refine ⟨fun h=>absurd h (by simp),fun _=>?_⟩;show a++b=[]++a++b;simp
theorem with_in {rest list:List SItem} (ha:list.length≤100000) (hb:rest.length≤100000):zcl rest list (list++rest):=⟨_,zqi ha hb,rfl⟩
theorem zsi {rest list:List SItem} (ha:list.length≤100000) (hb:rest.length≤100000):zcd list rest (list++rest):=⟨by simp;omega,by simp;omega,by simp⟩
theorem zdp {d:List SNode} {x:SItem} {s:List SItem} (h:zd9 d (x::s)=true):zfb d x=true∧zd9 d s=true:=by simpa [zd9] using h
theorem zfz {d:List SNode} {x:SItem} (h:zfb d x=true) (h5:x.1≠5):∃n,at? d x.2.1=some n∧(x.1=1∨(x.1=2∧n.1=7)∨(x.1=3∧n.1=3)∨(x.1=4∧n.1=9)):=by
 unfold zfb at h;rw [if_neg h5] at h;cases hn:at? d x.2.1 with
 | none=>rw [hn] at h;cases h
 | some n=>
  rw [hn] at h;refine ⟨n,rfl, ?_⟩;simp only at h
  by_cases h1:x.1=1
  ·exact .inl h1
  ·rw [if_neg h1] at h
   by_cases h2:x.1=2
   ·rw [if_pos h2] at h;simp at h;exact .inr (.inl ⟨h2,h.1.1.1⟩)
   ·rw [if_neg h2] at h
    by_cases h3:x.1=3
    ·rw [if_pos h3] at h;simp at h;exact .inr (.inr (.inl ⟨h3,h.1.1.1⟩))
    ·rw [if_neg h3] at h
     by_cases h4:x.1=4
     ·rw [if_pos h4] at h;simp at h;exact .inr (.inr (.inr ⟨h4,h.1.1.1⟩))
     ·rw [if_neg h4] at h;cases h
theorem kinds9 {k:Int} (h:1≤k∧k≤9):k=1∨k=2∨k=3∨k=4∨k=5∨k=6∨k=7∨k=8∨k=9:=by omega
theorem zpp {d:List SNode} (hd:ROk d) {s:List SItem} (hf:zd9 d s=true):zkg d s (rdy d s):=by
 cases s with
 | nil=>exact ⟨fun _=>rfl,fun h=>absurd h (by simp)⟩
 | cons x s=>
  refine ⟨fun h=>absurd h (by simp;omega),fun _=>⟨x,at0 x s,fun h1=>?_,fun h1=>⟨fun h3=>⟨fun _=>by simp only [rdy,h3,Bool.true_or],fun h=>absurd h3 (by rw [h];simp)⟩,fun h3=>⟨fun h4=>by simp only [rdy,h4,Bool.true_or,Bool.or_true],fun h4=>by simp only [rdy,h1,h3,h4,Bool.false_and,Bool.or_false]⟩⟩⟩⟩;have e1:x.1=1:=by simpa using h1
  obtain ⟨n,hn,_⟩:=zfz (zdp hf).1 (by omega);have hk:=hd.kind _ n hn;refine ⟨n,hn,(n.1==2||n.1==8||n.1==9),fun _=>?_, ?_⟩
  ·rcases kinds9 hk with e | e | e | e | e | e | e | e | e <;> rw [e] <;> rfl
  ·simp only [rdy,hn,e1];have:decide (n.1<10)=true:=by simp;omega
   rw [this];simp
theorem zj5 {d:List SNode} {s:List SItem} (hf:zd9 d s=true) (hd0:∃n,at? d 0=some n):zn2 d s (rdy d s):=by
 cases s with
 | nil=>exact ⟨(0,0,0,0),fun h=>absurd h (by simp),(0,0,0,0),fun h=>absurd h (by simp),true,by simp,fun _=>rfl,fun h=>by cases h⟩
 | cons x s=>
  refine ⟨x,fun _=>at0 x s,x,fun _=>at0 x s,_,rfl,fun h=>?_,fun h=>?_⟩
  ·simp only [List.length_cons,Bool.or_eq_true,beq_iff_eq] at h;have:x.1=3∨x.1=4:=by omega
   rcases this with e | e <;> simp [rdy,e]
  ·simp only [List.length_cons,Bool.or_eq_false_iff] at h;have hnode:∃n,at? d x.2.1=some n:=by
    by_cases h5:x.1=5
    ·have:=(zdp hf).1;unfold zfb at this;rw [if_pos h5] at this;simp at this;rw [this.1.1];exact hd0
    ·obtain ⟨n,hn,_⟩:=zfz (zdp hf).1 h5;exact ⟨n,hn⟩
   obtain ⟨n,hn⟩:=hnode;refine ⟨x,at0 x s,n,hn,x,at0 x s,_,rfl, ?_⟩;simp only [rdy,hn,h.1.2,h.2,Bool.false_or]
theorem opn_len {d:List SNode} (s:List SItem):(opn d s).length≤2:=by
 cases s with
 | nil=>simp [opn]
 | cons x s=>
  simp only [opn]
  by_cases h5:x.1=5
  ·rw [if_pos h5];split <;> simp
  ·rw [if_neg h5];cases at? d x.2.1 with
   | none=>simp
   | some n=>
    simp only
    by_cases h2:x.1=2
    ·rw [if_pos h2];split <;> split <;> simp
    ·rw [if_neg h2]
     by_cases h1:n.1=1
     ·simp [h1]
     ·by_cases h3:n.1=3
      ·simp [h3]
      ·by_cases h4:n.1=4
       ·simp [h4]
       ·by_cases h5:n.1=5
        ·simp [h5]
        ·by_cases h6:n.1=6
         ·simp [h6]
         ·simp [h1,h3,h4,h5,h6]
theorem zr6 {d:List SNode} (hd:ROk d) {s:List SItem} (hf:zd9 d s=true) (hr:rdy d s=false) (hl:s.length≤10000) (hd0:∃n,at? d 0=some n):zcz d s (opn d s):=by
 cases s with
 | nil=>simp [rdy] at hr
 | cons x s=>
  simp only [List.length_cons] at hl;have hdrop:(x::s).drop (1:Int).toNat=s:=rfl;have w0:zcl s [] s:=with_in (by simp) (by omega);have wl:∀l:List SItem,l.length≤2→zcl s l (l++s):=fun l h=>with_in (by omega) (by omega);have hx:=(zdp hf).1
  by_cases h5:x.1=5
  ·obtain ⟨n0,hn0⟩:=hd0;have hx':=hx;unfold zfb at hx';rw [if_pos h5] at hx';simp at hx';refine ⟨x,at0 x s,⟨by omega,by simp;omega⟩,n0,by rw [hx'.1.1];exact hn0,fun h=>⟨s,w0, ?_⟩,fun h=>⟨fun _=>?_,fun h'=>absurd h' (by simp [h5])⟩⟩
   ·simp at h;simp [opn,h5,h.2]
   ·simp [h5] at h;simp [opn,h5,h]
  ·obtain ⟨n,hn,hk⟩:=zfz hx h5;refine ⟨x,at0 x s,⟨by omega,by simp;omega⟩,n,hn,fun h=>absurd h (by simp [h5]),fun _=>⟨fun h=>absurd h (by simp [h5]),fun _=>⟨fun h2=>?_,fun h2=>?_⟩⟩⟩
   ·have e2:x.1=2:=by simpa using h2
    have hlo:0≤x.2.2.1∧x.2.2.1≤x.2.2.2∧x.2.2.2≤255:=by
     have hx':=hx;unfold zfb at hx';rw [if_neg h5,hn] at hx';simp [e2] at hx';have:=hd.rep _ n hn hx'.1.1.1;omega
    have hj:∀out:List (List SItem),out.length≤1→∀r,r=out++(if 0<x.2.2.2 then [(1,n.2.1,0,0)::(2,x.2.1,max (x.2.2.1-1) 0,x.2.2.2-1)::s] else [])→zcz.j2 (x::s) r x n out:=by
     intro out hout r hrr;refine ⟨fun h=>⟨(1,n.2.1,0,0),rfl,zh (by omega) (by omega),zh (by omega) (by omega),_,wl _ (by simp),by simp;omega, ?_⟩,fun h=>?_⟩
     ·have:0<x.2.2.2:=dt h;show r=_;rw [hrr,if_pos this,e2];rfl
     ·have:¬ 0<x.2.2.2:=df h;show r=_;rw [hrr,if_neg this,List.append_nil]
    refine ⟨fun h=>⟨s,w0,by simp,hj _ (by simp) _ ?_⟩,fun h=>hj _ (by simp) _ ?_⟩
    ·have e0:x.2.2.1=0:=by simpa using h
     simp [opn,hn,e2,e0]
    ·have e0:¬ x.2.2.1=0:=by simpa using h
     simp [opn,hn,e2,e0]
   ·have e2:¬ x.1=2:=by simpa using h2
    have e1:x.1=1:=by
     rcases hk with h | ⟨h,_⟩ | ⟨h,_⟩ | ⟨h,_⟩
     ·exact h
     ·exact absurd h e2
     ·simp [rdy,h] at hr
     ·simp [rdy,h] at hr
    refine ⟨fun h=>⟨s,w0, ?_⟩,fun k1=>⟨fun h=>⟨_,wl _ (by simp), ?_⟩,fun k3=>⟨fun h=>⟨_,rfl,_,rfl,_,wl _ (by simp), ?_⟩,fun k4=>⟨fun h=>⟨_,rfl,_,wl _ (by simp),_,rfl,_,wl _ (by simp), ?_⟩,fun k5=>⟨fun h=>⟨s,w0,_,rfl,_,wl _ (by simp), ?_⟩,fun k6=>⟨_,wl _ (by simp), ?_⟩⟩⟩⟩⟩⟩
    all_goals simp only [opn,hn,if_neg h5,if_neg e2]
    all_goals simp_all
theorem zq4 {d:List SNode} (hd:ROk d) {s:List SItem} (hf:zd9 d s=true) (hr:rdy d s=false) (hl:s.length≤10000) (hd0:∃n,at? d 0=some n):zdg d s (opn d s):=by
 cases s with
 | nil=>simp [rdy] at hr
 | cons x s=>
  simp only [List.length_cons] at hl;have w0:zcd [] s s:=zsi (by simp) (by omega);have wl:∀l:List SItem,l.length≤2→zcd l s (l++s):=fun l h=>zsi (by omega) (by omega);have hx:=(zdp hf).1
  by_cases h5:x.1=5
  ·obtain ⟨n0,hn0⟩:=hd0;have hx':=hx;unfold zfb at hx';rw [if_pos h5] at hx';simp at hx';refine ⟨x,at0 x s,⟨by omega,by simp;omega⟩,n0,by rw [hx'.1.1];exact hn0,fun _=>⟨fun h=>⟨s,w0,by simp, ?_⟩,fun h=>?_⟩,fun h=>absurd h (by simp [h5])⟩
   ·simp at h;show opn d (x::s)=_;simp [opn,h5,h]
   ·simp at h;show opn d (x::s)=_;simp [opn,h5,h]
  ·obtain ⟨n,hn,hk⟩:=zfz hx h5;refine ⟨x,at0 x s,⟨by omega,by simp;omega⟩,n,hn,fun h=>absurd h (by simp [h5]),fun _=>⟨fun h2=>?_,fun h2=>?_⟩⟩
   ·have e2:x.1=2:=by simpa using h2
    have hlo:0≤x.2.2.1∧x.2.2.1≤x.2.2.2∧x.2.2.2≤255:=by
     have hx':=hx;unfold zfb at hx';rw [if_neg h5,hn] at hx';simp [e2] at hx';have:=hd.rep _ n hn hx'.1.1.1;omega
    have hj:∀out:List (List SItem),out.length≤1→∀r,r=out++(if 0<x.2.2.2 then [(1,n.2.1,0,0)::(2,x.2.1,max (x.2.2.1-1) 0,x.2.2.2-1)::s] else [])→zdg.j3 (x::s) r x n out:=by
     intro out hout r hrr;refine ⟨fun h=>⟨zh (by omega) (by omega),zh (by omega) (by omega),_,wl _ (by simp),by simp;omega, ?_⟩,fun h=>?_⟩
     ·have:0<x.2.2.2:=dt h;show r=_;rw [hrr,if_pos this,Int.max_comm];rfl
     ·have:¬ 0<x.2.2.2:=df h;show r=_;rw [hrr,if_neg this,List.append_nil]
    refine ⟨fun h=>⟨s,w0,by simp,hj _ (by simp) _ ?_⟩,fun h=>hj _ (by simp) _ ?_⟩
    ·have e0:x.2.2.1=0:=by simpa using h
     simp [opn,hn,e2,e0]
    ·have e0:¬ x.2.2.1=0:=by simpa using h
     simp [opn,hn,e2,e0]
   ·have e2:¬ x.1=2:=by simpa using h2
    have e1:x.1=1:=by
     rcases hk with h | ⟨h,_⟩ | ⟨h,_⟩ | ⟨h,_⟩
     ·exact h
     ·exact absurd h e2
     ·simp [rdy,h] at hr
     ·simp [rdy,h] at hr
    have h289:n.1≠2∧n.1≠8∧n.1≠9:=by
     simp only [rdy,hn,e1] at hr;simp at hr;omega
    have hk9:=hd.kind _ n hn;refine ⟨fun h=>⟨s,w0,by simp, ?_⟩,fun k1=>⟨fun h=>⟨_,wl _ (by simp),by simp, ?_⟩,fun k3=>⟨fun h=>⟨_,wl _ (by simp),by simp, ?_⟩,fun k4=>⟨fun h=>⟨_,wl _ (by simp),_,wl _ (by simp),by simp, ?_⟩,fun k5=>⟨fun h=>⟨s,w0,_,wl _ (by simp),by simp, ?_⟩,fun k6=>⟨fun h=>⟨_,wl _ (by simp),by simp, ?_⟩,fun k7=>?_⟩⟩⟩⟩⟩⟩
    ·simp only [opn,hn,if_neg h5,if_neg e2];simp_all
    ·simp only [opn,hn,if_neg h5,if_neg e2];simp_all
    ·simp only [opn,hn,if_neg h5,if_neg e2];simp_all
    ·simp only [opn,hn,if_neg h5,if_neg e2];simp_all
    ·simp only [opn,hn,if_neg h5,if_neg e2];simp_all
    ·simp only [opn,hn,if_neg h5,if_neg e2];simp_all
    ·exfalso;simp at k1 k3 k4 k5 k6 k7;omega
theorem zig {d:List SNode} {a:Int} (h:∃m,at? d a=some m):zfb d (1,a,0,0)=true:=by
 obtain ⟨m,hm⟩:=h;unfold zfb;simp [hm]
theorem zdu {d:List SNode} {i a:Int} {n:SNode} (hn:at? d i=some n) (h0:0≤a) (h1:a<i):∃m,at? d a=some m:=by
 obtain ⟨j,rfl,hj⟩:=zmq hn;have:=(List.getElem?_eq_some_iff.1 hj).1;obtain ⟨m,hm,_⟩:=zoz (xs:=d) h0 (by omega);exact ⟨m,hm⟩
theorem zbv {α:Type} {d:List α} {i:Int} {n:α} (hn:at? d i=some n):0≤i∧i<(d.length:Int):=by
 obtain ⟨j,rfl,hj⟩:=zmq hn;have:=(List.getElem?_eq_some_iff.1 hj).1;omega
theorem opn_cases {d:List SNode} (hd:ROk d) {x:SItem} {rest:List SItem} (hf:zd9 d (x::rest)=true) (hr:rdy d (x::rest)=false) {t:List SItem} (ht:t∈opn d (x::rest)):
  t=rest∨∃n,at? d x.2.1=some n∧x.1≠5∧((∃a,0≤a∧a<x.2.1∧t=(1,a,0,0)::rest)∨(∃a b,0≤a∧a<x.2.1∧0≤b∧b<x.2.1∧t=(1,a,0,0)::(1,b,0,0)::rest)∨(∃a lo hi k,0≤a∧a<x.2.1∧t=(1,a,0,0)::(k,x.2.1,lo,hi)::rest∧zfb d (k,x.2.1,lo,hi)=true)∨∃k lo hi,t=(k,x.2.1,lo,hi)::rest∧zfb d (k,x.2.1,lo,hi)=true):=by
 have hx:=(zdp hf).1
 by_cases h5:x.1=5
 ·simp only [opn] at ht;rw [if_pos h5] at ht;split at ht
  ·exact .inl (List.mem_singleton.1 ht)
  ·cases ht
 ·obtain ⟨n,hn,hk⟩:=zfz hx h5;simp only [opn,hn] at ht;rw [if_neg h5] at ht
  by_cases h2:x.1=2
  ·rw [if_pos h2] at ht;have hx':=hx;unfold zfb at hx';rw [if_neg h5,hn] at hx';simp [h2] at hx';obtain ⟨a0,a1⟩:=hd.one _ n hn (.inr (.inl hx'.1.1.1));rcases List.mem_append.1 ht with ht | ht
   ·split at ht
    ·exact .inl (List.mem_singleton.1 ht)
    ·cases ht
   ·split at ht
    ·rename_i hpos
     refine .inr ⟨n,hn,h5,.inr (.inr (.inl ⟨n.2.1,_,_,2,a0,a1,List.mem_singleton.1 ht, ?_⟩))⟩;unfold zfb;simp [hn,hx'.1.1.1];omega
    ·cases ht
  ·rw [if_neg h2] at ht;have e1:x.1=1:=by
    rcases hk with h | ⟨h,_⟩ | ⟨h,_⟩ | ⟨h,_⟩
    ·exact h
    ·exact absurd h h2
    ·simp [rdy,h] at hr
    ·simp [rdy,h] at hr
   have h289:n.1≠2∧n.1≠8∧n.1≠9:=by
    simp only [rdy,hn,e1] at hr;simp at hr;omega
   by_cases k1:n.1=1
   ·rw [if_pos k1] at ht;exact .inl (List.mem_singleton.1 ht)
   ·rw [if_neg k1] at ht
    by_cases k3:n.1=3
    ·rw [if_pos k3] at ht;refine .inr ⟨n,hn,h5,.inr (.inr (.inr ⟨3,0,0,List.mem_singleton.1 ht, ?_⟩))⟩;have:=hd.ntx _ n hn k3;unfold zfb;simp [hn,k3];exact List.length_pos_iff.2 this
    ·rw [if_neg k3] at ht
     by_cases k4:n.1=4
     ·rw [if_pos k4] at ht;obtain ⟨⟨a,b⟩,c,e⟩:=hd.two _ n hn (.inl k4);exact .inr ⟨n,hn,h5,.inr (.inl ⟨_,_,a,b,c,e,List.mem_singleton.1 ht⟩)⟩
     ·rw [if_neg k4] at ht
      by_cases k5:n.1=5
      ·rw [if_pos k5] at ht;obtain ⟨⟨a,b⟩,c,e⟩:=hd.two _ n hn (.inr k5);simp only [List.mem_cons,List.not_mem_nil,or_false] at ht;rcases ht with ht | ht
       ·exact .inr ⟨n,hn,h5,.inl ⟨_,a,b,ht⟩⟩
       ·exact .inr ⟨n,hn,h5,.inl ⟨_,c,e,ht⟩⟩
      ·rw [if_neg k5] at ht
       by_cases k6:n.1=6
       ·rw [if_pos k6] at ht;obtain ⟨a,b⟩:=hd.one _ n hn (.inl k6);simp only [List.mem_cons,List.not_mem_nil,or_false] at ht;rcases ht with ht | ht
        ·exact .inl ht
        ·obtain ⟨xk,xi,xl,xh⟩:=x;exact .inr ⟨n,hn,h5,.inr (.inr (.inl ⟨_,xl,xh,xk,a,b,ht,hx⟩))⟩
       ·rw [if_neg k6] at ht;have k7:n.1=7:=by have:=hd.kind _ n hn;omega
        refine .inr ⟨n,hn,h5,.inr (.inr (.inr ⟨2,_,_,List.mem_singleton.1 ht, ?_⟩))⟩;obtain ⟨b0,b1,b2⟩:=hd.rep _ n hn k7;unfold zfb;simp [hn,k7,b0,b1]
theorem zfp {d:List SNode} {x:SItem} {s:List SItem} (h:zfb d x=true) (k:zd9 d s=true):zd9 d (x::s)=true:=by
 simp only [zd9,List.all_cons,Bool.and_eq_true];exact ⟨h,k⟩
theorem form_opn {d:List SNode} (hd:ROk d) {s:List SItem} (hf:zd9 d s=true) (hr:rdy d s=false):∀t∈opn d s,zd9 d t=true:=by
 intro t ht;cases s with
 | nil=>simp [opn] at ht
 | cons x rest=>
  have hrest:=(zdp hf).2;rcases opn_cases hd hf hr ht with rfl | ⟨n,hn,h5,h⟩
  ·exact hrest
  ·rcases h with ⟨a,h0,h1,rfl⟩ | ⟨a,b,h0,h1,h2,h3,rfl⟩ | ⟨a,lo,hi,k,h0,h1,rfl,h2⟩ | ⟨k,lo,hi,rfl,h2⟩
   ·exact zfp (zig (zdu hn h0 h1)) hrest
   ·exact zfp (zig (zdu hn h0 h1)) (zfp (zig (zdu hn h2 h3)) hrest)
   ·exact zfp (zig (zdu hn h0 h1)) (zfp h2 hrest)
   ·exact zfp h2 hrest
def SufI (D:Nat):List SItem→Prop
 | []=>True
 | x::u=>(u.length:Int)+1+x.2.1≤(D:Int)∧0≤x.2.1∧SufI D u
theorem SufI.len {D:Nat}:∀{u:List SItem},SufI D u→u.length≤D
 | [],_=>Nat.zero_le _
 | x::u,h=>by
  have h1:=h.1;have h2:=h.2.1;simp only [List.length_cons];omega
structure Vs (d:List SNode) (n0:Nat) (t:List SItem):Prop where
 form:zd9 d t=true
 cut:∃u v,t=u++v∧SufI d.length u∧v.length≤n0
theorem Vs.len {d:List SNode} {n0:Nat} {t:List SItem} (h:Vs d n0 t):t.length≤n0+d.length:=by
 obtain ⟨u,v,rfl,h1,h2⟩:=h.cut;have:=h1.len;simp;omega
theorem Vs.start {d:List SNode} {s:List SItem} {n0:Nat} (hf:zd9 d s=true) (h:s.length≤n0):Vs d n0 s:=⟨hf,[],s,rfl,trivial,h⟩
theorem Vs.opn {d:List SNode} (hd:ROk d) {n0:Nat} {s:List SItem} (h:Vs d n0 s) (hr:rdy d s=false):∀t∈opn d s,Vs d n0 t:=by
 intro t ht;refine ⟨form_opn hd h.form hr t ht, ?_⟩;obtain ⟨u,v,hs,h1,h2⟩:=h.cut;cases s with
 | nil=>simp [V.opn] at ht
 | cons x rest=>
  have key:∃u' v',rest=u'++v'∧SufI d.length u'∧v'.length≤n0∧(x.1≠5→(u'.length:Int)+1+x.2.1≤(d.length:Int)∧0≤x.2.1):=by
   cases u with
   | nil=>
    simp at hs;refine ⟨[],rest,rfl,trivial,by rw [← hs] at h2;simp at h2;omega,fun h5=>?_⟩;obtain ⟨n,hn,_⟩:=zfz (zdp h.form).1 h5;have:=zbv hn;simp;omega
   | cons y u'=>
    simp at hs;obtain ⟨e1,e2⟩:=hs;subst e1;exact ⟨u',v,e2,h1.2.2,h2,fun _=>⟨h1.1,h1.2.1⟩⟩
  obtain ⟨u',v',rfl,k1,k2,k3⟩:=key;rcases opn_cases hd h.form hr ht with rfl | ⟨n,hn,h5,hc⟩
  ·exact ⟨u',v',rfl,k1,k2⟩
  ·obtain ⟨k4,k5⟩:=k3 h5;rcases hc with ⟨a,h0,h1,rfl⟩ | ⟨a,b,h0,h1,h2,h3,rfl⟩ | ⟨a,lo,hi,k,h0,h1,rfl,h2⟩ | ⟨k,lo,hi,rfl,h2⟩
   ·exact ⟨(1,a,0,0)::u',v',rfl,⟨by simp only;omega,h0,k1⟩,k2⟩
   ·exact ⟨(1,a,0,0)::(1,b,0,0)::u',v',rfl,⟨by simp only [List.length_cons];omega,h0,by simp only;omega,h2,k1⟩,k2⟩
   ·exact ⟨(1,a,0,0)::(k,x.2.1,lo,hi)::u',v',rfl,⟨by simp only [List.length_cons];omega,h0,by simp only;omega,k5,k1⟩,k2⟩
   ·exact ⟨(k,x.2.1,lo,hi)::u',v',rfl,⟨by simp only;omega,k5,k1⟩,k2⟩
section
variable {κ ν : Type} [DecidableEq κ]
theorem zrr {xs:List (κ × ν)} {k:κ} {v:ν} {p:κ × ν}:p∈zfx xs k v↔p=(k,v)∨(p.1≠k∧p∈xs):=by
 unfold zfx;cases h:zhv xs k
 ·rw [cond_false,List.mem_append,List.mem_singleton];constructor
  ·rintro (hp | hp)
   ·exact .inr ⟨fun e=>(by have:=zfh.2 ⟨p,hp,e⟩;rw [h] at this;cases this),hp⟩
   ·exact .inl hp
  ·rintro (hp | hp)
   ·exact .inr hp
   ·exact .inl hp.2
 ·rw [cond_true,List.mem_map];constructor
  ·rintro ⟨q,hq,e⟩
   by_cases hk:q.1=k
   ·simp [hk] at e;exact .inl e.symm
   ·have:(q.1==k)=false:=by simpa using hk
    rw [this] at e;simp at e;subst e;exact .inr ⟨hk,hq⟩
  ·rintro (hp | ⟨hk,hp⟩)
   ·obtain ⟨q,hq,e⟩:=zfh.1 h;exact ⟨q,hq,by simp [e,hp]⟩
   ·have:(p.1==k)=false:=by simpa using hk
    exact ⟨p,hp,by simp [this]⟩
theorem mput_kn {xs:List (κ × ν)} (hn:KN xs) (k:κ) (v:ν):KN (zfx xs k v):=by
 unfold zfx KN;cases h:zhv xs k
 ·rw [cond_false,List.map_append,List.nodup_append];refine ⟨hn,by simp,fun a ha b hb=>?_⟩;simp at hb;subst hb;intro e;subst e;obtain ⟨p,hp,e⟩:=List.mem_map.1 ha;have:=zfh.2 ⟨p,hp,e⟩;rw [h] at this;cases this
 ·rw [cond_true,List.map_map];have:(xs.map ((fun x=>x.1) ∘ fun p=>bif p.1==k then (k,v) else p))=xs.map (·.1):=by
   apply List.map_congr_left;intro p _;simp only [Function.comp]
   by_cases hk:p.1=k
   ·simp [hk]
   ·have:(p.1==k)=false:=by simpa using hk
    rw [this];rfl
  rw [this];exact hn
theorem mget_in {xs:List (κ × ν)} {k:κ} (h:zhv xs k=true) (z:ν):(k,zeg xs k z)∈xs:=by
 unfold zeg;cases hf:xs.find? (fun p=>p.1==k) with
 | none=>
  obtain ⟨p,hp,e⟩:=zfh.1 h;have:=List.find?_eq_none.1 hf p hp;simp [e] at this
 | some q=>
  have h1:=List.find?_some hf;have h2:=List.mem_of_find?_eq_some hf;have e:q.1=k:=by simpa using h1
  rw [← e];exact h2
end
structure zlj (f:List SItem→Nat) (m:List (Str × SBranch)):Prop where
 kn:KN m
 mem:∀k b,(k,b)∈m↔k=keyS b.1∧f b.1≠0∧b.2=sat (f b.1)
theorem zlj.nil:zlj (fun _=>0) []:=⟨List.nodup_nil,by simp⟩
theorem zlj.congr {f g:List SItem→Nat} {m} (h:zlj f m) (e:∀t,sat (f t)=sat (g t)):zlj g m:=⟨h.kn,fun k b=>by rw [h.mem,sat_ne (e b.1),e b.1]⟩
theorem zlj.get {f:List SItem→Nat} {m} (h:zlj f m) (u:List SItem):(zeg m (keyS u) (([],0):SBranch)).2=sat (f u):=by
 by_cases hu:f u=0
 ·rw [zhw fun p hp e=>?_]
  ·rw [hu];rfl
  ·obtain ⟨k,b⟩:=p;obtain ⟨h1,h2,_⟩:=(h.mem k b).1 hp;simp only at e;rw [e] at h1;rw [zgd.1 h1] at hu;exact h2 hu
 ·have hm:=(h.mem (keyS u) (u,sat (f u))).2 ⟨rfl,hu,rfl⟩;have:=zm1 h.kn hm (([],0):SBranch);simp only at this;rw [this]
theorem zlj.put {f:List SItem→Nat} {m} (h:zlj f m) (u:List SItem) {n:Nat} (hn:n≠0):zlj (fun t=>f t+if t=u then n else 0) (zfx m (keyS u) (u,min ((zeg m (keyS u) (([],0):SBranch)).2+sat n) 2)):=by
 refine ⟨mput_kn h.kn _ _,fun k b=>?_⟩;rw [zrr,h.get,h.mem];have e:min (sat (f u)+sat n) 2=sat (f u+n):=by unfold sat;omega
 rw [e]
 by_cases hb:b.1=u
 ·subst hb;simp only [if_true,Prod.mk.injEq];constructor
  ·rintro (⟨h1,h2⟩ | ⟨h1,h2,_⟩)
   ·exact ⟨h1,by omega,by rw [h2]⟩
   ·exact absurd h2 h1
  ·rintro ⟨h1,_,h2⟩;exact .inl ⟨h1,by rw [← h2]⟩
 ·simp only [if_neg hb,Nat.add_zero,Prod.mk.injEq];constructor
  ·rintro (⟨h1,h2⟩ | ⟨h1,h2⟩)
   ·rw [h2] at hb;exact absurd rfl hb
   ·exact h2
  ·rintro ⟨h1,h2⟩;exact .inr ⟨fun e=>hb (zgd.1 (h1.symm.trans e)),h1,h2⟩
theorem zlj.one (s:List SItem):zlj (fun t=>[s].count t) (zfx [] (keyS s) (s,1)):=by
 have:=zlj.nil.put s (n:=1) (by omega);have e:(zfx ([]:List (Str × SBranch)) (keyS s) (s,min ((zeg [] (keyS s) (([],0):SBranch)).2+sat 1) 2))=zfx [] (keyS s) (s,1):=rfl;rw [e] at this;refine this.congr fun t=>?_;simp only [List.count_singleton,Nat.zero_add,beq_iff_eq]
 by_cases ht:t=s
 ·subst ht;simp
 ·simp [ht,Ne.symm ht]
theorem zom (b:SBranch):∀l:List SBranch,(insB b l).Perm (b::l)
 | []=>.refl _
 | c::l=>by
  unfold insB;split
  ·exact .refl _
  ·exact ((zom b l).cons c).trans (List.Perm.swap _ _ _)
theorem zgl:∀l:List SBranch,(srtB l).Perm l
 | []=>.refl _
 | b::l=>(zom b _).trans ((zgl l).cons b)
theorem insB_srt {b:SBranch}:∀{l:List SBranch},(∀c∈l,c.1≠b.1)→l.Pairwise (fun a b=>zez a.1 b.1<0)→(insB b l).Pairwise (fun a b=>zez a.1 b.1<0)
 | [],_,_=>by simp [insB]
 | c::l,hn,h=>by
  rw [List.pairwise_cons] at h;unfold insB;split
  ·rename_i hlt
   refine List.pairwise_cons.2 ⟨fun x hx=>?_,List.pairwise_cons.2 h⟩;rcases List.mem_cons.1 hx with rfl | hx
   ·exact hlt
   ·exact zgg hlt (h.1 x hx)
  ·rename_i hge
   refine List.pairwise_cons.2 ⟨fun x hx=>?_,insB_srt (fun x hx=>hn x (by simp [hx])) h.2⟩;rcases List.mem_cons.1 ((zom b l).mem_iff.1 hx) with rfl | hx
   ·have h1:=zf1 x.1 c.1;have h2:zez x.1 c.1≠0:=fun e=>hn c (by simp) (zel.1 e).symm;omega
   ·exact h.1 x hx
theorem zmz:∀{l:List SBranch},(l.map (·.1)).Nodup→(srtB l).Pairwise (fun a b=>zez a.1 b.1<0)
 | [],_=>List.Pairwise.nil
 | b::l,h=>by
  rw [List.map_cons,List.nodup_cons] at h;refine insB_srt (fun c hc e=>h.1 ?_) (zmz h.2);rw [← e];exact List.mem_map.2 ⟨c,(zgl l).mem_iff.1 hc,rfl⟩
theorem zlj.can {f:List SItem→Nat} {m:List (Str × SBranch)} (h:zlj f m) {out:List SBranch} (hp:out.Perm (m.map (·.2))):(out.map (·.1)).Nodup∧Can f (srtB out):=by
 have hk:m.map (·.1)=(m.map (·.2)).map (fun b=>keyS b.1):=by
  rw [List.map_map];apply List.map_congr_left;rintro ⟨k,b⟩ hm;exact ((h.mem k b).1 hm).1
 have hn:((m.map (·.2)).map (·.1)).Nodup:=by
  have h1:=h.kn;unfold KN at h1;rw [hk] at h1;have e:(m.map (·.2)).map (fun b=>keyS b.1)=((m.map (·.2)).map (·.1)).map keyS:=by rw [List.map_map (f:=fun b:SBranch=>b.1)];rfl
  rw [e] at h1;exact List.Pairwise.imp (fun {a b} hab he=>hab (by rw [he])) (List.pairwise_map.1 h1)
 have hn2:(out.map (·.1)).Nodup:=(hp.map (·.1)).nodup_iff.2 hn;refine ⟨hn2,zmz hn2,fun t c=>?_⟩;rw [(zgl out).mem_iff,hp.mem_iff,List.mem_map];constructor
 ·rintro ⟨⟨k,b⟩,hm,e⟩;simp only at e;subst e;exact ((h.mem k _).1 hm).2
 ·rintro h1;exact ⟨(keyS t,(t,c)),(h.mem _ _).2 ⟨rfl,h1⟩,rfl⟩
end Go.Proofs.YtahgmdbioafmbaaGreatDoor.V
namespace Go.Proofs.YtahgmdbioafmbaaGreatDoor.VD
open Go
set_option linter.unusedVariables false
def En.cat {α β:Type} (E:En α) (F:En β):En (α × β) where
 sz:=E.sz+F.sz
 agg:=true
 R:=fun w S cs x=>∃a b,cs=a++b∧E.R w S a x.1∧F.R w S b x.2
 sc:=fun h=>by cases h
 pos:=Nat.add_pos_left E.pos _
 len:=by rintro _ _ _ _ ⟨a,b,rfl,h1,h2⟩;rw [List.length_append,E.len h1,F.len h2]
 one:=by
  rintro _ _ _ _ ⟨a,b,rfl,h1,h2⟩ u hu
  rcases List.mem_append.1 hu with h | h
  ·exact E.one h1 u h
  ·exact F.one h2 u h
 mono:=by rintro w S S' cs x h ⟨a,b,rfl,h1,h2⟩;exact ⟨a,b,rfl,E.mono h h1,F.mono h h2⟩
 move:=by rintro w w' S cs x h ⟨a,b,rfl,h1,h2⟩;exact ⟨a,b,rfl,E.move h h1,F.move h h2⟩
structure Prt {α β:Type} (E:En α) (off:Nat) (E':En β) (x:α) (y:β):Prop where
 le:off+E'.sz≤E.sz
 get:∀w S cs,E.R w S cs x→E'.R w S ((cs.drop off).take E'.sz) y
section
variable {α β γ : Type} {E : En α} {E' : En β} {F : En γ} {off off' : Nat} {y : β}
theorem z6 (E:En α) (x:α):Prt E 0 E x x:=⟨by simp,fun w S cs h=>by rw [List.drop_zero,List.take_of_length_le (by rw [E.len h];exact Nat.le_refl _)];exact h⟩
theorem zbi {x:α × γ} (h:Prt E off E' x.1 y):Prt (E.cat F) off E' x y:=
 ⟨Nat.le_trans h.le (Nat.le_add_right _ _),fun w S cs ⟨a,b,e,h1,h2⟩=>by
  subst e;have hl:=E.len h1;have:=h.le;have e:((a++b).drop off).take E'.sz=(a.drop off).take E'.sz:=by
   rw [List.drop_append_of_le_length (by omega),List.take_append_of_le_length (by simp;omega)]
  rw [e];exact h.get w S a h1⟩
theorem zq {x:γ × α} (h:Prt E off E' x.2 y) (ho:off'=F.sz+off):Prt (F.cat E) off' E' x y:=
 ⟨by rw [ho,Nat.add_assoc];exact Nat.add_le_add_left h.le _,fun w S cs ⟨a,b,e,h1,h2⟩=>by
  subst e;rw [ho,← F.len h1,List.drop_length_add_append];exact h.get w S b h2⟩
end
theorem zcq.sub {w:World} {b o:Nat} {cs:List Value} (h:zcq w b o cs) (off n:Nat):zcq w b (o+off) ((cs.drop off).take n):=fun j u hu=>by
 rw [Nat.add_assoc];refine h (off+j) u ?_;rw [List.getElem?_take] at hu;split at hu
 ·rwa [List.getElem?_drop] at hu
 ·cases hu
section
variable {P : Program} {ops : Array Oper} {o : Oper} {L : Lst}
theorem zgp {β:Type} {E':En β} {t:TypeId} {fs:Array Field} {f:Nat} {fd:Field} (ht:P.underlying t=some (.struct fs)) (hf:fs[f]?=some fd) (hE:Ty P fd.type E') (b o:Nat) (w:World):
  (Instr.fieldAt t (.pointer (some ⟨b,o,none⟩)) f).run P w = .ok (.pointer (some ⟨b,o+fd.offset,none⟩)) w:=by
 unfold Instr.fieldAt;simp only [Sem.run_bind,run_underlying ht,Result.andThen_ok,hf,Instr.sureAddr,Sem.run_pure,fieldPlace,zbg hE];rw [if_neg (by have:=E'.pos;omega)];simp [zd6]
theorem zir {α β:Type} {E:En α} {E':En β} {a:α} {y:β} {x:Operand} {t:TypeId} {fs:Array Field} {f off:Nat} {fd:Field} (hx:Opn L x (Pd.ptr E a)) (ht:P.underlying t=some (.struct fs)) (hf:fs[f]?=some fd) (hp:Prt E off E' a y) (hq:fd.offset=off) (hE:Ty P fd.type E')
  (ho:o.op = .fieldAddr t x f) (hg:o.guard=none):T P ops o L (Pd.ptr E' y):=
 T.pure hg fun M n s0 ac s hL=>by
  obtain ⟨b,o',cs,hv,hb,hc,hR⟩:=hx M n s0 ac s hL;refine ⟨.pointer (some ⟨b,o'+fd.offset,none⟩), ?_,b,o'+fd.offset,_,rfl,hb,hq ▸ hc.sub off E'.sz,hp.get _ _ _ hR⟩;unfold execOp;rw [ho];simp only [hv,Sem.run_bind,zgp ht hf hE,Result.andThen_ok,Sem.run_pure]
end
section
variable {P : Program} {ops : Array Oper} {o : Oper} {L : Lst}
end
end Go.Proofs.YtahgmdbioafmbaaGreatDoor.VD
namespace Go.Proofs.YtahgmdbioafmbaaGreatDoor.VD
open Go Go.Proofs.YtahgmdbioafmbaaGreatDoor.V
set_option linter.unusedVariables false
set_option maxRecDepth 100000
noncomputable abbrev En.SItem:En SItem:=(En.cat (En.int .i64) (En.cat (En.int .i64) (En.cat (En.int .i64) (En.int .i64))))
noncomputable abbrev EnF137:En (SItem × SItem × Int→Prop):=En.fun Tryz.prog (fun q=>[Pd.rep En.SItem q.1,Pd.rep En.SItem q.2.1]) (fun q=>Rq (Pd.rep (En.int .i64) q.2.2))
noncomputable abbrev En.SBranch:En SBranch:=(En.cat (En.slice En.SItem) (En.int .i64))
theorem ty3:Ty Tryz.prog 3 (En.int .i64):=⟨⟨_,_,rfl,rfl,rfl,rfl,by decide⟩,_,rfl,rfl⟩
theorem zqq:Ty Tryz.prog 47 (En.slice En.SItem):=⟨⟨_,_,rfl,rfl,rfl,rfl,by decide⟩,_,rfl,rfl⟩
theorem zlm:Ty Tryz.prog 77 En.SItem:=⟨⟨_,_,rfl,rfl,rfl,rfl,by decide⟩,_,rfl,rfl⟩
theorem zio:TyZ Tryz.prog 77 En.SItem ((0,0,0,0):SItem):=⟨_,_,([.int .i64 0]++([.int .i64 0]++([.int .i64 0]++[.int .i64 0]))),rfl,rfl,by rfl,fun _ _=>⟨_,_,rfl,⟨rfl,by decide⟩,⟨_,_,rfl,⟨rfl,by decide⟩,⟨_,_,rfl,⟨rfl,by decide⟩,⟨rfl,by decide⟩⟩⟩⟩⟩
end Go.Proofs.YtahgmdbioafmbaaGreatDoor.VD
namespace Go.Proofs.YtahgmdbioafmbaaGreatDoor.V
open Go
set_option linter.unusedVariables false
def zju (nv_:SNode) (ahead_:Int) (r_:(List SItem)):Prop:=r_=[(1,nv_.2.1,0,0),(5,0,ahead_,0)]
def zhg (s_:Sstep_next) (r_:((List SItem) × Bool)):Prop:=(((s_.1.1==8))=true→∃r2:(List SItem),zju s_.1 s_.2.2 r2∧r_=(r2,true))∧(((s_.1.1==8))=false→(((s_.1.1==9))=true→r_=([(4,s_.2.1.2.1,s_.2.2,0)],true))∧(((s_.1.1==9))=false→∃r6:Bool,zf2 s_.1.2.2.2.2.2.1 s_.2.2 r6∧r_=(([]:(List SItem)),r6)))
def zhf (s_:Sstep_next) (r_:((List SItem) × Bool)):Prop:=(InR .i64 (s_.2.1.2.2.1+1))∧∃b4:Bool,b4=((s_.2.1.2.2.1+1)==(s_.1.2.2.2.2.2.2.length:Int))∧((b4)=true→∃c6:Int,zd2 s_.1.2.2.2.2.2.2 s_.2.1.2.2.1=some c6∧r_=(([]:(List SItem)),(c6==s_.2.2)))∧((b4)=false→∃c10:Int,zd2 s_.1.2.2.2.2.2.2 s_.2.1.2.2.1=some c10∧r_=([(s_.2.1.1,s_.2.1.2.1,s_.2.1.2.2.1+1,s_.2.1.2.2.2)],(c10==s_.2.2)))
def zhh (s_:Sstep_next) (r_:((List SItem) × Bool)):Prop:=(InR .i64 (256*s_.2.1.2.2.1))∧(InR .i64 ((256*s_.2.1.2.2.1)+s_.2.2))∧∃r3:(List SItem),zju s_.1 ((256*s_.2.1.2.2.1)+s_.2.2) r3∧r_=(r3,true)
def next_On_1 (a_:SBranch) (b_:SBranch) (r_:Int):Prop:=∃r1:Int,zfy a_.1 b_.1 r1∧r_=r1
def dyn0 (f_:Option Nat) (x0_:Sstep_next) (r_:((List SItem) × Bool)):Prop:=(f_=some 209∧zhg x0_ r_)∨(f_=some 210∧zhf x0_ r_)∨(f_=some 207∧zhh x0_ r_)
def zk0 (d_:SDesc) (s_:(List SItem)) (cv_:Int) (r_:((List SItem) × Bool)):Prop:=((((s_.length:Int)==0))=true→r_=(([]:(List SItem)),false))∧((((s_.length:Int)==0))=false→((0:Int)≤1∧1≤(s_.length:Int))∧∃r3:((List SItem) × Bool),zck (s_.drop (1:Int).toNat) r3∧∃e5:SItem,at? s_ 0=some e5∧((((!r3.2)||(!(zhv gfm0 e5.1))))=true→r_=(([]:(List SItem)),false))∧((((!r3.2)||(!(zhv gfm0 e5.1))))=false→∃e8:SItem,at? s_ 0=some e8∧∃e10:SNode,at? d_ e8.2.1=some e10∧∃e12:SItem,at? s_ 0=some e12∧∃r14:((List SItem) × Bool),dyn0 (zeg gfm0 e5.1 none) (e10,e12,cv_) r14∧(((!r14.2))=true→r_=(([]:(List SItem)),false))∧(((!r14.2))=false→∃r17:(List SItem),zg [r14.1,r3.1] r17∧r_=(r17,true))))
def zbp.j1 (r_:(List SBranch)) (out12:(List SBranch)):Prop:=∃r15:(List SBranch),zj4 out12 r15∧r_=r15
def zbp.l1 (many5:(List (Str × Int))) (out7:(List SBranch)) (X1:(List SBranch)→Prop):Nat→(List SBranch)→Int→Prop
 | 0,_,_=>False
 | k_0+1,out17,v19=>((decide (v19<(out7.length:Int)))=true→∃e26:SBranch,at? out17 v19=some e26∧∃r28:Str,zk5 e26.1 r28∧∃e30:SBranch,at? out17 v19=some e30∧(InR .i64 (v19+1))∧zbp.l1 many5 out7 X1 k_0 (out17.set (v19:Int).toNat (e30.1,(zeg many5 r28 0))) (v19+1))∧((decide (v19<(out7.length:Int)))=false→X1 out17)
def zbp.j2 (r_:(List SBranch)) (many5:(List (Str × Int))) (out7:(List SBranch)):Prop:=∃k20,zbp.l1 many5 out7 (zbp.j1 r_) k20 out7 0
def zbp.j3 (L2_:(List (Str × Int))→(List SBranch)→Int→Prop) (many33:(List (Str × Int))) (v37:Int) (e44:SBranch) (r53:Str) (out56:(List SBranch)):Prop:=(InR .i64 ((zeg many33 r53 0)+e44.2))∧(InR .i64 (v37+1))∧L2_ (zfx many33 r53 (min ((zeg many33 r53 0)+e44.2) 2)) out56 (v37+1)
def zbp.l2 (d_:SDesc) (cv_:Int) (r3:(List SBranch)) (X2:(List (Str × Int))→(List SBranch)→Prop):Nat→(List (Str × Int))→(List SBranch)→Int→Prop
 | 0,_,_,_=>False
 | k_0+1,many33,out35,v37=>((decide (v37<(r3.length:Int)))=true→∃e44:SBranch,at? r3 v37=some e44∧∃r49:((List SItem) × Bool),zk0 d_ e44.1 cv_ r49∧(((!r49.2))=true→(InR .i64 (v37+1))∧zbp.l2 d_ cv_ r3 X2 k_0 many33 out35 (v37+1))∧(((!r49.2))=false→∃r53:Str,zk5 r49.1 r53∧((((zeg many33 r53 0)==0))=true→(out35.length+[(r49.1,0)].length≤2147483648)∧(zbp.j3 (zbp.l2 d_ cv_ r3 X2 k_0) many33 v37 e44 r53) (out35++[(r49.1,0)]))∧((((zeg many33 r53 0)==0))=false→(zbp.j3 (zbp.l2 d_ cv_ r3 X2 k_0) many33 v37 e44 r53) out35)))∧((decide (v37<(r3.length:Int)))=false→X2 many33 out35)
def zbp (d_:SDesc) (s_:(List SItem)) (cv_:Int) (r_:(List SBranch)):Prop:=∃r3:(List SBranch),zfo d_ s_ r3∧∃k38,zbp.l2 d_ cv_ r3 (zbp.j2 r_) k38 ([]:(List (Str × Int))) ([]:(List SBranch)) 0
def zcv.j1 (r_:Int):Prop:=r_=0
def zcv.l1 (r2:(List SBranch)) (r_:Int) (X1:Prop):Nat→Int→Prop
 | 0,_=>False
 | k_0+1,v5=>((decide (v5<(r2.length:Int)))=true→∃e11:SBranch,at? r2 v5=some e11∧((((e11.1.length:Int)==0))=true→r_=e11.2)∧((((e11.1.length:Int)==0))=false→(InR .i64 (v5+1))∧zcv.l1 r2 r_ X1 k_0 (v5+1)))∧((decide (v5<(r2.length:Int)))=false→X1)
def zcv (d_:SDesc) (s_:(List SItem)) (r_:Int):Prop:=∃r2:(List SBranch),zfo d_ s_ r2∧∃k6,zcv.l1 r2 r_ (zcv.j1 r_) k6 0
def zbt.j1 (r_:(List Cl)) (out2:(List Cl)):Prop:=r_=out2
def zbt.l1 (X1:(List Cl)→Prop):Nat→(List Cl)→Int→Prop
 | 0,_,_=>False
 | k_0+1,out5,v7=>((decide (v7<256))=true→∃r13:Cl,zdl (v7 % 256) (v7 % 256) r13∧(out5.length+[r13].length≤2147483648)∧(InR .i64 (v7+1))∧zbt.l1 X1 k_0 (out5++[r13]) (v7+1))∧((decide (v7<256))=false→X1 out5)
def zbt  (r_:(List Cl)):Prop:=∃k8,zbt.l1 (zbt.j1 r_) k8 ([]:(List Cl)) 0
def zbf.j1 (r_:(List Cl)) (out4:(List Cl)):Prop:=r_=out4
def zbf.l1 (d_:SDesc) (r2:(List SBranch)) (X1:(List Cl)→Prop):Nat→(List Cl)→Int→Prop
 | 0,_,_=>False
 | k_0+1,out7,v9=>((decide (v9<(r2.length:Int)))=true→∃e15:SBranch,at? r2 v9=some e15∧((((e15.1.length:Int)==0))=true→(InR .i64 (v9+1))∧zbf.l1 d_ r2 X1 k_0 out7 (v9+1))∧((((e15.1.length:Int)==0))=false→∃e21:SItem,at? e15.1 0=some e21∧∃e26:SNode,at? d_ e21.2.1=some e26∧(((e21.1==3))=true→∃c31:Int,zd2 e26.2.2.2.2.2.2 e21.2.2.1=some c31∧∃c33:Int,zd2 e26.2.2.2.2.2.2 e21.2.2.1=some c33∧∃r35:Cl,zdl c31 c33 r35∧(out7.length+[r35].length≤2147483648)∧(InR .i64 (v9+1))∧zbf.l1 d_ r2 X1 k_0 (out7++[r35]) (v9+1))∧(((e21.1==3))=false→(((e26.1==2))=true→(out7.length+[e26.2.2.2.2.2.1].length≤2147483648)∧(InR .i64 (v9+1))∧zbf.l1 d_ r2 X1 k_0 (out7++[e26.2.2.2.2.2.1]) (v9+1))∧(((e26.1==2))=false→∃r43:(List Cl),zbt  r43∧(out7.length+r43.length≤2147483648)∧(InR .i64 (v9+1))∧zbf.l1 d_ r2 X1 k_0 (out7++r43) (v9+1)))))∧((decide (v9<(r2.length:Int)))=false→X1 out7)
def zbf (d_:SDesc) (s_:(List SItem)) (r_:(List Cl)):Prop:=∃r2:(List SBranch),zfo d_ s_ r2∧∃k10,zbf.l1 d_ r2 (zbf.j1 r_) k10 ([]:(List Cl)) 0
def zp7 (d_:SDesc) (s_:(List SItem)) (cv_:Int) (r_:((List SItem) × Bool)):Prop:=((((s_.length:Int)==0))=true→r_=(([]:(List SItem)),false))∧((((s_.length:Int)==0))=false→((0:Int)≤1∧1≤(s_.length:Int))∧∃r3:((List SItem) × Bool),zbx (s_.drop (1:Int).toNat) r3∧(((!r3.2))=true→r_=(([]:(List SItem)),false))∧(((!r3.2))=false→∃e6:SItem,at? s_ 0=some e6∧∃e9:SNode,at? d_ e6.2.1=some e9∧(((e6.1==3))=true→∃c18:Int,zd2 e9.2.2.2.2.2.2 e6.2.2.1=some c18∧(((c18 != cv_))=true→r_=(([]:(List SItem)),false))∧(((c18 != cv_))=false→(InR .i64 (e6.2.2.1+1))∧∃b21:Bool,b21=(decide (e6.2.2.1+1<(e9.2.2.2.2.2.2.length:Int)))∧((b21)=true→(InR .i64 (e6.2.2.1+1))∧([(3,e6.2.1,e6.2.2.1+1,0)].length+r3.1.length≤2147483648)∧r_=([(3,e6.2.1,e6.2.2.1+1,0)]++r3.1,true))∧((b21)=false→(([]:(List SItem)).length+r3.1.length≤2147483648)∧r_=(([]:(List SItem))++r3.1,true))))∧(((e6.1==3))=false→(((e6.1==4))=true→(InR .i64 (256*e6.2.2.1))∧(InR .i64 ((256*e6.2.2.1)+cv_))∧([(1,e9.2.1,0,0),(5,0,(256*e6.2.2.1)+cv_,0)].length+r3.1.length≤2147483648)∧r_=([(1,e9.2.1,0,0),(5,0,(256*e6.2.2.1)+cv_,0)]++r3.1,true))∧(((e6.1==4))=false→(((e9.1==8))=true→([(1,e9.2.1,0,0),(5,0,cv_,0)].length+r3.1.length≤2147483648)∧r_=([(1,e9.2.1,0,0),(5,0,cv_,0)]++r3.1,true))∧(((e9.1==8))=false→(((e9.1==9))=true→([(4,e6.2.1,cv_,0)].length+r3.1.length≤2147483648)∧r_=([(4,e6.2.1,cv_,0)]++r3.1,true))∧(((e9.1==9))=false→∃r52:Bool,zcu e9.2.2.2.2.2.1 cv_ r52∧(((!r52))=true→r_=(([]:(List SItem)),false))∧(((!r52))=false→(([]:(List SItem)).length+r3.1.length≤2147483648)∧r_=(([]:(List SItem))++r3.1,true))))))))
def ze3.j1 (r_:(List SBranch)) (out4:(List SBranch)):Prop:=r_=out4
def ze3.l1 (d_:SDesc) (cv_:Int) (r1:(List SBranch)) (X1:(List SBranch)→Prop):Nat→(List SBranch)→Int→Prop
 | 0,_,_=>False
 | k_0+1,out7,i9=>((decide (i9<(r1.length:Int)))=true→∃e15:SBranch,at? r1 i9=some e15∧∃r17:((List SItem) × Bool),zp7 d_ e15.1 cv_ r17∧((r17.2)=true→∃e19:SBranch,at? r1 i9=some e19∧∃r21:(List SBranch),zdi out7 r17.1 e19.2 r21∧(InR .i64 (i9+1))∧ze3.l1 d_ cv_ r1 X1 k_0 r21 (i9+1))∧((r17.2)=false→(InR .i64 (i9+1))∧ze3.l1 d_ cv_ r1 X1 k_0 out7 (i9+1)))∧((decide (i9<(r1.length:Int)))=false→X1 out7)
def ze3 (d_:SDesc) (s_:(List SItem)) (cv_:Int) (r_:(List SBranch)):Prop:=∃r1:(List SBranch),zia d_ s_ r1∧∃k10,ze3.l1 d_ cv_ r1 (ze3.j1 r_) k10 ([]:(List SBranch)) 0
def zep.j1 (r_:Int):Prop:=r_=0
def zep.l1 (r1:(List SBranch)) (r_:Int) (X1:Prop):Nat→Int→Prop
 | 0,_=>False
 | k_0+1,i5=>((decide (i5<(r1.length:Int)))=true→∃e11:SBranch,at? r1 i5=some e11∧((((e11.1.length:Int)==0))=true→∃e13:SBranch,at? r1 i5=some e13∧r_=e13.2)∧((((e11.1.length:Int)==0))=false→(InR .i64 (i5+1))∧zep.l1 r1 r_ X1 k_0 (i5+1)))∧((decide (i5<(r1.length:Int)))=false→X1)
def zep (d_:SDesc) (s_:(List SItem)) (r_:Int):Prop:=∃r1:(List SBranch),zia d_ s_ r1∧∃k6,zep.l1 r1 r_ (zep.j1 r_) k6 0
def zbc.j1 (r_:(List Cl)) (out4:(List Cl)):Prop:=r_=out4
def zbc.j2 (L1_:(List Cl)→Int→Prop) (i9:Int) (out42:(List Cl)):Prop:=(InR .i64 (i9+1))∧L1_ out42 (i9+1)
def zbc.l2 (X2:(List Cl)→Prop):Nat→(List Cl)→Int→Prop
 | 0,_,_=>False
 | k_0+1,out46,c48=>((decide (c48<256))=true→∃r54:Cl,zct (c48 % 256) (c48 % 256) r54∧(out46.length+[r54].length≤2147483648)∧(InR .i64 (c48+1))∧zbc.l2 X2 k_0 (out46++[r54]) (c48+1))∧((decide (c48<256))=false→X2 out46)
def zbc.l1 (d_:SDesc) (r1:(List SBranch)) (X1:(List Cl)→Prop):Nat→(List Cl)→Int→Prop
 | 0,_,_=>False
 | k_0+1,out7,i9=>((decide (i9<(r1.length:Int)))=true→∃e16:SBranch,at? r1 i9=some e16∧((((e16.1.length:Int)==0))=true→(InR .i64 (i9+1))∧zbc.l1 d_ r1 X1 k_0 out7 (i9+1))∧((((e16.1.length:Int)==0))=false→∃e19:SBranch,at? r1 i9=some e19∧∃e21:SItem,at? e19.1 0=some e21∧∃e25:SNode,at? d_ e21.2.1=some e25∧(((e21.1==3))=true→∃c30:Int,zd2 e25.2.2.2.2.2.2 e21.2.2.1=some c30∧∃c32:Int,zd2 e25.2.2.2.2.2.2 e21.2.2.1=some c32∧∃r34:Cl,zct c30 c32 r34∧(out7.length+[r34].length≤2147483648)∧(InR .i64 (i9+1))∧zbc.l1 d_ r1 X1 k_0 (out7++[r34]) (i9+1))∧(((e21.1==3))=false→((((e21.1==1)&&(e25.1==2)))=true→(out7.length+[e25.2.2.2.2.2.1].length≤2147483648)∧(InR .i64 (i9+1))∧zbc.l1 d_ r1 X1 k_0 (out7++[e25.2.2.2.2.2.1]) (i9+1))∧((((e21.1==1)&&(e25.1==2)))=false→∃k49,zbc.l2 (zbc.j2 (zbc.l1 d_ r1 X1 k_0) i9) k49 out7 0))))∧((decide (i9<(r1.length:Int)))=false→X1 out7)
def zbc (d_:SDesc) (s_:(List SItem)) (r_:(List Cl)):Prop:=∃r1:(List SBranch),zia d_ s_ r1∧∃k10,zbc.l1 d_ r1 (zbc.j1 r_) k10 ([]:(List Cl)) 0
end Go.Proofs.YtahgmdbioafmbaaGreatDoor.V
namespace Go.Proofs.YtahgmdbioafmbaaGreatDoor.VD
open Go Go.Proofs.YtahgmdbioafmbaaGreatDoor.V
set_option linter.unusedVariables false
set_option maxRecDepth 100000
theorem zil {x_:Int} {r_:Bool} (h:zet x_ r_):Fn Tryz.prog 132 [(Pd.rep (En.int .i64) x_)] (Rq (Pd.rep En.bool r_)):=by
 unfold zet at h;refine zbo Tryz.func132 J Tryz.ntmps132 (by rfl) (by simp) fun s0 a L=>?_;refine wp_seq_k fun K1 H1=>rg (sw 2 (zw o_b J J) L fun a s L=>?_);refine en' (H1 _ _ ?_);refine wp_seq_k fun K2 H2=>rg (sw 3 (zn (O 0 J) J J) L fun a s L=>?_);refine sw 4 (zn (O 0 J) J J) L fun a s L=>?_;refine sw 5 (t_nei (O 3 J) (O 4 J) J J) L fun a s L=>?_;refine sw 2 (zw (O 5 J) J J) L fun a s L=>?_;refine en' (H2 _ _ ?_);subst h;exact wp_ret (zdr J L J)
theorem zdk {x_:Int} {y_:Int} {r_:Int} (h:zcw x_ y_ r_):Fn Tryz.prog 96 [(Pd.rep (En.int .i64) x_),(Pd.rep (En.int .i64) y_)] (Rq (Pd.rep (En.int .i64) r_)):=by
 unfold zcw at h;refine zbo Tryz.func96 J Tryz.ntmps96 (by rfl) (by simp) fun s0 a L=>?_;refine wp_seq_k fun K1 H1=>rg (sw 4 (zw oI J J) L fun a s L=>?_);refine en' (H1 _ _ ?_);refine wp_seq_k fun K2 H2=>?_;obtain ⟨r3,h4,h⟩:=h;refine rg (sw 7 (zn (O 0 J) J J) L fun a s L=>?_);refine sw 8 (zeu (zil h4) (xs:=[.tmp 7]) (.cons (O 7 J) .nil) J J) L fun a s L=>?_;refine sw 5 (zw (O 8 J) J J) L fun a s L=>?_;refine en' (H2 _ _ ?_);refine wp_seq_k fun K5 H5=>?_;obtain ⟨r6,h7,h⟩:=h;refine rg (sw 9 (zn (O 1 J) J J) L fun a s L=>?_);refine sw 10 (zeu (zil h7) (xs:=[.tmp 9]) (.cons (O 9 J) .nil) J J) L fun a s L=>?_;refine sw 6 (zw (O 10 J) J J) L fun a s L=>?_;refine en' (H5 _ _ ?_);refine wp_seq_k fun K8 H8=>wp_seq_k fun K9 H9=>rg (sw 11 (zn (O 5 J) J J) L fun a s L=>?_);refine en' (H9 _ _ ?_);refine cnd L J (fun hb_=>?_) (fun hb_=>?_)
 ·replace h:=h.1 hb_;refine wp_seq_k fun K10 H10=>wp_seq_k fun K11 H11=>rg (sw 12 (zn (O 6 J) J J) L fun a s L=>?_);refine en' (H11 _ _ ?_);refine cnd L J (fun hb_=>?_) (fun hb_=>?_)
  ·replace h:=h.1 hb_;refine wp_seq_k fun K12 H12=>rg (sw 4 (zw oI J J) L fun a s L=>?_);refine en' (H12 _ _ ?_);subst h;exact wp_ret (zdr J L J)
  ·replace h:=h.2 hb_;refine wp_skip (H10 _ _ ?_);refine wp_seq_k fun K13 H13=>rg (sw 4 (zw oI J J) L fun a s L=>?_);refine en' (H13 _ _ ?_);subst h;exact wp_ret (zdr J L J)
 ·replace h:=h.2 hb_;refine wp_skip (H8 _ _ ?_);refine wp_seq_k fun K14 H14=>wp_seq_k fun K15 H15=>rg (sw 13 (zn (O 6 J) J J) L fun a s L=>?_);refine en' (H15 _ _ ?_);refine cnd L J (fun hb_=>?_) (fun hb_=>?_)
  ·replace h:=h.1 hb_;refine wp_seq_k fun K16 H16=>rg (sw 4 (zw oI J J) L fun a s L=>?_);refine en' (H16 _ _ ?_);subst h;exact wp_ret (zdr J L J)
  ·replace h:=h.2 hb_;refine wp_skip (H14 _ _ ?_);refine wp_seq_k fun K17 H17=>wp_seq_k fun K18 H18=>rg (sw 14 (zn (O 0 J) J J) L fun a s L=>?_);refine sw 15 (zn (O 1 J) J J) L fun a s L=>?_;refine sw 16 (zmm (O 14 J) (O 15 J) J J) L fun a s L=>?_;refine en' (H18 _ _ ?_);refine cnd L J (fun hb_=>?_) (fun hb_=>?_)
   ·replace h:=h.1 hb_;refine wp_seq_k fun K19 H19=>rg (sw 4 (zw oI J J) L fun a s L=>?_);refine en' (H19 _ _ ?_);subst h;exact wp_ret (zdr J L J)
   ·replace h:=h.2 hb_;refine wp_skip (H17 _ _ ?_);refine wp_seq_k fun K20 H20=>wp_seq_k fun K21 H21=>rg (sw 17 (zn (O 0 J) J J) L fun a s L=>?_);refine sw 18 (zn (O 1 J) J J) L fun a s L=>?_;refine sw 19 (t_gtr (O 17 J) (O 18 J) J J) L fun a s L=>?_;refine en' (H21 _ _ ?_);refine cnd L J (fun hb_=>?_) (fun hb_=>?_)
    ·replace h:=h.1 hb_;refine wp_seq_k fun K22 H22=>rg (sw 4 (zw oI J J) L fun a s L=>?_);refine en' (H22 _ _ ?_);subst h;exact wp_ret (zdr J L J)
    ·replace h:=h.2 hb_;refine wp_skip (H20 _ _ ?_);refine wp_seq_k fun K23 H23=>rg (sw 4 (zw oI J J) L fun a s L=>?_);refine en' (H23 _ _ ?_);subst h;exact wp_ret (zdr J L J)
theorem zco {s1_:(List SItem)} {s2_:(List SItem)} {cmp_:(SItem × SItem × Int→Prop)} {r_:Int} (h:ze s1_ s2_ cmp_ r_):Fn Tryz.prog 97 [(Pd.rep (En.slice En.SItem) s1_),(Pd.rep (En.slice En.SItem) s2_),(Pd.rep EnF137 cmp_)] (Rq (Pd.rep (En.int .i64) r_)):=by
 unfold ze at h;refine zbo Tryz.func97 J Tryz.ntmps97 (by rfl) (by simp) fun s0 a L=>?_;refine wp_seq_k fun K1 H1=>rg (sw 6 (zw oI J J) L fun a s L=>?_);refine en' (H1 _ _ ?_);refine wp_seq_k fun K2 H2=>wp_seq_k fun K3 H3=>rg (sw 11 (zn (O 0 J) J J) L fun a s L=>?_);refine sw 12 (znk (O 11 J) U47 J J) L fun a s L=>?_;refine sw 13 (zn oI J J) L fun a s L=>?_;refine en' (H3 _ _ ?_);refine wp_block ?_;have J4:∀(a:Act) (s:St),Has N0 39 s0 a s [(0,(Pd.rep (En.slice En.SItem) s1_)),(1,(Pd.rep (En.slice En.SItem) s2_))]→((ze.j1 s1_ s2_ r_))→K2 a s.w:=by
  intro a s L h;unfold ze.j1 at h;show K2 a s.w;refine H2 _ _ (wp_seq_k fun K5 H5=>?_);refine wp_seq_k fun K6 H6=>rg (sw 34 (zn (O 0 J) J J) L fun a s L=>?_);refine sw 35 (znk (O 34 J) U47 J J) L fun a s L=>?_;refine sw 36 (zn (O 1 J) J J) L fun a s L=>?_;refine sw 37 (znk (O 36 J) U47 J J) L fun a s L=>?_;refine sw 38 (zmm (O 35 J) (O 37 J) J J) L fun a s L=>?_;refine en' (H6 _ _ ?_);refine cnd L J (fun hb_=>?_) (fun hb_=>?_)
  ·replace h:=h.1 hb_;refine wp_seq_k fun K7 H7=>rg (sw 6 (zw oI J J) L fun a s L=>?_);refine en' (H7 _ _ ?_);subst h;exact wp_ret (zdr J L J)
  ·replace h:=h.2 hb_;refine wp_skip (H5 _ _ ?_);refine wp_seq_k fun K8 H8=>rg (sw 6 (zw oI J J) L fun a s L=>?_);refine en' (H8 _ _ ?_);subst h;exact wp_ret (zdr J L J)
 obtain ⟨k10,h⟩:=h;refine lpg (fun k11 a s=>∃(v9:Int),Has N0 39 s0 a s [(0,(Pd.rep (En.slice En.SItem) s1_)),(1,(Pd.rep (En.slice En.SItem) s2_)),(2,(Pd.rep EnF137 cmp_)),(11,(Pd.rep (En.slice En.SItem) s1_)),(12,(Pd.rep (En.int .i64) (s1_.length:Int))),(13,(Pd.rep (En.int .i64) v9))]∧ze.l1 s1_ s2_ cmp_ r_ (ze.j1 s1_ s2_ r_) k11 v9) k10 ⟨0,L.keep (.k 0 (.k 1 (.k 2 (.k 11 (.k 12 (.k 13 .nil)))))),h⟩ ?_;rintro k11 a s ⟨v9,L,h⟩ KL12 hKL12;cases k11 with
 | zero=>exact h.elim
 | succ k11=>
 unfold ze.l1 at h;refine wp_seq_k fun K13 H13=>rg (sw 14 (zmm (O 13 J) (O 12 J) J J) L fun a s L=>?_);refine en' (H13 _ _ ?_);refine wp_seq_k fun K14 H14=>cnd L J (fun hb_=>?_) (fun hb_=>?_)
 ·replace h:=h.1 hb_;refine wp_skip (H14 _ _ ?_);refine wp_seq_k fun K15 H15=>wp_block (wp_seq_k fun K16 H16=>?_);obtain ⟨e17,h18,h⟩:=h;refine rg (sw 15 (zn (O 13 J) J J) L fun a s L=>?_);refine sw 16 (znl (O 11 J) (O 13 J) h18 U47 zlm J J) L fun a s L=>?_;refine sw 17 (zb2 zlm (O 16 J) J J) L fun a s L=>?_;refine zbb En.SItem (z:=(0,0,0,0)) 8 L zio J J J J fun a s g19 hg_ L=>?_;refine sw 7 (zw (O 15 J) J J) L fun a s L=>?_;refine zma (L':=[(0,(Pd.rep (En.slice En.SItem) s1_)),(1,(Pd.rep (En.slice En.SItem) s2_)),(2,(Pd.rep EnF137 cmp_)),(7,(Pd.rep (En.int .i64) v9)),(11,(Pd.rep (En.slice En.SItem) s1_)),(12,(Pd.rep (En.int .i64) (s1_.length:Int))),(13,(Pd.rep (En.int .i64) v9))]) 8 L J (O 17 J) zlm J J J (.k 0 (.k 1 (.k 2 (.k 7 (.k 11 (.k 12 (.k 13 .nil))))))) fun s L=>?_;refine en' (H16 _ _ ?_);refine wp_seq_k fun K20 H20=>wp_seq_k fun K21 H21=>rg (sw 18 (zn (O 7 J) J J) L fun a s L=>?_);refine sw 19 (zn (O 1 J) J J) L fun a s L=>?_;refine sw 20 (znk (O 19 J) U47 J J) L fun a s L=>?_;refine sw 21 (t_geq (O 18 J) (O 20 J) J J) L fun a s L=>?_;refine en' (H21 _ _ ?_);refine cnd L J (fun hb_=>?_) (fun hb_=>?_)
  ·replace h:=h.1 hb_;refine wp_seq_k fun K22 H22=>rg (sw 6 (zw oI J J) L fun a s L=>?_);refine en' (H22 _ _ ?_);subst h;exact wp_ret (zdr J L J)
  ·replace h:=h.2 hb_;refine wp_skip (H20 _ _ ?_);refine wp_seq_k fun K23 H23=>?_;obtain ⟨e24,h25,h⟩:=h;refine rg (sw 22 (zn (O 1 J) J J) L fun a s L=>?_);refine sw 23 (zn (O 7 J) J J) L fun a s L=>?_;refine sw 24 (znl (O 22 J) (O 23 J) h25 U47 zlm J J) L fun a s L=>?_;refine sw 25 (zb2 zlm (O 24 J) J J) L fun a s L=>?_;have lt_d27:=L.blt 8 rfl;refine zbb En.SItem (z:=(0,0,0,0)) 9 L zio J J J J fun a s g26 hg_ L=>?_;have d27:Dis (some g26) (some g19):=Dis.newg hg_ lt_d27;refine zma (L':=[(0,(Pd.rep (En.slice En.SItem) s1_)),(1,(Pd.rep (En.slice En.SItem) s2_)),(2,(Pd.rep EnF137 cmp_)),(8,(Pd.box En.SItem s0.w.heap.size g19 e17)),(11,(Pd.rep (En.slice En.SItem) s1_)),(12,(Pd.rep (En.int .i64) (s1_.length:Int))),(13,(Pd.rep (En.int .i64) v9))]) 9 L J (O 25 J) zlm J J J (.k 0 (.k 1 (.k 2 (.cons (t:=8) J (Dis.bx (Dis.symm d27)) (.k 11 (.k 12 (.k 13 .nil))))))) fun s L=>?_;refine en' (H23 _ _ ?_);refine wp_seq_k fun K28 H28=>?_;obtain ⟨r29,h30,h⟩:=h;refine rg (sw 26 (zn (O 2 J) J J) L fun a s L=>?_);refine sw 27 (ziq zlm (O 8 J) J J) L fun a s L=>?_;refine sw 28 (ziq zlm (O 9 J) J J) L fun a s L=>?_;refine sw 29 (zfj (q:=(e17,e24,r29)) (O 26 J) h30 (xs:=[.tmp 27,.tmp 28]) (.cons (O 27 J) (.cons (O 28 J) .nil)) (fun _ _ _ h_=>h_) J J) L fun a s L=>?_;refine sw 10 (zw (O 29 J) J J) L fun a s L=>?_;refine en' (H28 _ _ ?_);refine wp_seq_k fun K31 H31=>rg (sw 30 (zn (O 10 J) J J) L fun a s L=>?_);refine sw 31 (t_nei (O 30 J) oI J J) L fun a s L=>?_;refine en' (H31 _ _ ?_);refine cnd L J (fun hb_=>?_) (fun hb_=>?_)
   ·replace h:=h.1 hb_;refine wp_seq_k fun K32 H32=>rg (sw 32 (zn (O 10 J) J J) L fun a s L=>?_);refine sw 6 (zw (O 32 J) J J) L fun a s L=>?_;refine en' (H32 _ _ ?_);subst h;exact wp_ret (zdr J L J)
   ·replace h:=h.2 hb_;refine wp_skip (H15 _ _ ?_);obtain ⟨h33,h⟩:=h;refine rg (sw 33 (zo8 (O 13 J) oI h33 J J) L fun a s L=>?_);refine sw 13 (zn (O 33 J) J J) L fun a s L=>?_;refine en' ?_;exact hKL12 k11 a s (Nat.lt_succ_self _) ⟨(v9+1),L.keep (.k 0 (.k 1 (.k 2 (.k 11 (.k 12 (.k 13 .nil)))))),h⟩
 ·replace h:=h.2 hb_;refine wp_exit ?_;exact J4 a s (L.keep (.k 0 (.k 1 .nil))) h
theorem zse {vals_:(List Int)} {r_:Int} (h:zcp vals_ r_):Fn Tryz.prog 99 [(Pd.rep (En.slice (En.int .i64)) vals_)] (Rq (Pd.rep (En.int .i64) r_)):=by
 unfold zcp at h;refine zbo Tryz.func99 J Tryz.ntmps99 (by rfl) (by simp) fun s0 a L=>?_;refine wp_seq_k fun K1 H1=>rg (sw 2 (zw oI J J) L fun a s L=>?_);refine en' (H1 _ _ ?_);refine wp_seq_k fun K2 H2=>rg (sw 3 (zw oI J J) L fun a s L=>?_);refine en' (H2 _ _ ?_);refine wp_seq_k fun K3 H3=>wp_seq_k fun K4 H4=>rg (sw 6 (zn (O 0 J) J J) L fun a s L=>?_);refine sw 7 (znk (O 6 J) U91 J J) L fun a s L=>?_;refine sw 8 (zn oI J J) L fun a s L=>?_;refine en' (H4 _ _ ?_);refine wp_block ?_;have J5:∀(a:Act) (s:St),Has N0 18 s0 a s [(3,(Pd.rep (En.int .i64) 0))]→((zcp.j1 r_))→K3 a s.w:=by
  intro a s L h;unfold zcp.j1 at h;show K3 a s.w;refine H3 _ _ (wp_seq_k fun K6 H6=>?_);refine rg (sw 17 (zn (O 3 J) J J) L fun a s L=>?_);refine sw 2 (zw (O 17 J) J J) L fun a s L=>?_;refine en' (H6 _ _ ?_);subst h;exact wp_ret (zdr J L J)
 obtain ⟨k8,h⟩:=h;refine lpg (fun k9 a s=>∃(v7:Int),Has N0 18 s0 a s [(3,(Pd.rep (En.int .i64) 0)),(6,(Pd.rep (En.slice (En.int .i64)) vals_)),(7,(Pd.rep (En.int .i64) (vals_.length:Int))),(8,(Pd.rep (En.int .i64) v7))]∧zcp.l1 vals_ r_ (zcp.j1 r_) k9 v7) k8 ⟨0,L.keep (.k 3 (.k 6 (.k 7 (.k 8 .nil)))),h⟩ ?_;rintro k9 a s ⟨v7,L,h⟩ KL10 hKL10;cases k9 with
 | zero=>exact h.elim
 | succ k9=>
 unfold zcp.l1 at h;refine wp_seq_k fun K11 H11=>rg (sw 9 (zmm (O 8 J) (O 7 J) J J) L fun a s L=>?_);refine en' (H11 _ _ ?_);refine wp_seq_k fun K12 H12=>cnd L J (fun hb_=>?_) (fun hb_=>?_)
 ·replace h:=h.1 hb_;refine wp_skip (H12 _ _ ?_);refine wp_seq_k fun K13 H13=>wp_block (wp_seq_k fun K14 H14=>?_);obtain ⟨e15,h16,h⟩:=h;refine rg (sw 10 (znl (O 6 J) (O 8 J) h16 U91 ty3 J J) L fun a s L=>?_);refine sw 11 (zb2 ty3 (O 10 J) J J) L fun a s L=>?_;refine sw 5 (zw (O 11 J) J J) L fun a s L=>?_;refine en' (H14 _ _ ?_);refine wp_seq_k fun K17 H17=>rg (sw 12 (zn (O 5 J) J J) L fun a s L=>?_);refine sw 13 (zn (O 3 J) J J) L fun a s L=>?_;refine sw 14 (t_nei (O 12 J) (O 13 J) J J) L fun a s L=>?_;refine en' (H17 _ _ ?_);refine cnd L J (fun hb_=>?_) (fun hb_=>?_)
  ·replace h:=h.1 hb_;refine wp_seq_k fun K18 H18=>rg (sw 15 (zn (O 5 J) J J) L fun a s L=>?_);refine sw 2 (zw (O 15 J) J J) L fun a s L=>?_;refine en' (H18 _ _ ?_);subst h;exact wp_ret (zdr J L J)
  ·replace h:=h.2 hb_;refine wp_skip (H13 _ _ ?_);obtain ⟨h19,h⟩:=h;refine rg (sw 16 (zo8 (O 8 J) oI h19 J J) L fun a s L=>?_);refine sw 8 (zn (O 16 J) J J) L fun a s L=>?_;refine en' ?_;exact hKL10 k9 a s (Nat.lt_succ_self _) ⟨(v7+1),L.keep (.k 3 (.k 6 (.k 7 (.k 8 .nil)))),h⟩
 ·replace h:=h.2 hb_;refine wp_exit ?_;exact J5 a s (L.keep (.k 3 .nil)) h
theorem zl4 {x_:SItem} {y_:SItem} {r_:Int} (h:zdn x_ y_ r_):Fn Tryz.prog 98 [(Pd.rep En.SItem x_),(Pd.rep En.SItem y_)] (Rq (Pd.rep (En.int .i64) r_)):=by
 unfold zdn at h;refine zbo Tryz.func98 J Tryz.ntmps98 (by rfl) (by simp) fun s0 a L=>?_;refine wp_seq_k fun K1 H1=>rg (sw 2 (zo7 (O 0 J) J J) L fun a s L=>?_);refine sw 3 (zo7 (O 1 J) J J) L fun a s L=>?_;refine sw 4 (zw oI J J) L fun a s L=>?_;refine en' (H1 _ _ ?_);refine wp_seq_k fun K2 H2=>?_;obtain ⟨r3,h4,r5,h6,r7,h8,r9,h10,r11,h12,h⟩:=h;refine rda zdq 22 [(Pd.ptr (En.int .i64) x_.1),(Pd.rep (En.int .i64) x_.1),(Pd.ptr (En.int .i64) y_.1),(Pd.rep (En.int .i64) y_.1),(Pd.rep (En.int .i64) r3),(Pd.ptr (En.int .i64) x_.2.1),(Pd.rep (En.int .i64) x_.2.1),(Pd.ptr (En.int .i64) y_.2.1),(Pd.rep (En.int .i64) y_.2.1),(Pd.rep (En.int .i64) r5),(Pd.ptr (En.int .i64) x_.2.2.1),(Pd.rep (En.int .i64) x_.2.2.1),(Pd.ptr (En.int .i64) y_.2.2.1),(Pd.rep (En.int .i64) y_.2.2.1),(Pd.rep (En.int .i64) r7),(Pd.ptr (En.int .i64) x_.2.2.2),(Pd.rep (En.int .i64) x_.2.2.2),(Pd.ptr (En.int .i64) y_.2.2.2),(Pd.rep (En.int .i64) y_.2.2.2),(Pd.rep (En.int .i64) r9),(Pd.rep (En.slice (En.int .i64)) [r3,r5,r7,r9]),(Pd.rep (En.int .i64) r11)] L (by kernel_rfl) J J ?_ ?_
 ·refine zbe.cons (zir (off:=0) (O 2 J) U77 J (zbi (z6 _ _)) J ty3 J J) ?_;refine zbe.cons (zb2 ty3 (O 5 J) J J) ?_;refine zbe.cons (zir (off:=0) (O 3 J) U77 J (zbi (z6 _ _)) J ty3 J J) ?_;refine zbe.cons (zb2 ty3 (O 7 J) J J) ?_;refine zbe.cons (zeu (zdk h4) (xs:=[.tmp 6,.tmp 8]) (.cons (O 6 J) (.cons (O 8 J) .nil)) J J) ?_;refine zbe.cons (zir (off:=1) (O 2 J) U77 J (zq (zbi (z6 _ _)) J) J ty3 J J) ?_;refine zbe.cons (zb2 ty3 (O 10 J) J J) ?_;refine zbe.cons (zir (off:=1) (O 3 J) U77 J (zq (zbi (z6 _ _)) J) J ty3 J J) ?_;refine zbe.cons (zb2 ty3 (O 12 J) J J) ?_;refine zbe.cons (zeu (zdk h6) (xs:=[.tmp 11,.tmp 13]) (.cons (O 11 J) (.cons (O 13 J) .nil)) J J) ?_;refine zbe.cons (zir (off:=2) (O 2 J) U77 J (zq (zq (zbi (z6 _ _)) J) J) J ty3 J J) ?_;refine zbe.cons (zb2 ty3 (O 15 J) J J) ?_;refine zbe.cons (zir (off:=2) (O 3 J) U77 J (zq (zq (zbi (z6 _ _)) J) J) J ty3 J J) ?_;refine zbe.cons (zb2 ty3 (O 17 J) J J) ?_;refine zbe.cons (zeu (zdk h8) (xs:=[.tmp 16,.tmp 18]) (.cons (O 16 J) (.cons (O 18 J) .nil)) J J) ?_;refine zbe.cons (zir (off:=3) (O 2 J) U77 J (zq (zq (zq (z6 _ _) J) J) J) J ty3 J J) ?_;refine zbe.cons (zb2 ty3 (O 20 J) J J) ?_;refine zbe.cons (zir (off:=3) (O 3 J) U77 J (zq (zq (zq (z6 _ _) J) J) J) J ty3 J J) ?_;refine zbe.cons (zb2 ty3 (O 22 J) J J) ?_;refine zbe.cons (zeu (zdk h10) (xs:=[.tmp 21,.tmp 23]) (.cons (O 21 J) (.cons (O 23 J) .nil)) J J) ?_;refine zbe.cons (t_lit (xs:=[.tmp 9,.tmp 14,.tmp 19,.tmp 24]) (.cons (O 9 J) (.cons (O 14 J) (.cons (O 19 J) (.cons (O 24 J) .nil)))) U91 ty3 J J (by decide) J J) ?_
  refine zbe.cons (zeu (zse h12) (xs:=[.tmp 25]) (.cons (O 25 J) .nil) J J) ?_;exact zbe.nil
 intro a s _ L;refine sw 4 (zw (O 26 J) J J) L fun a s L=>?_;refine en' (H2 _ _ ?_);subst h;exact wp_ret (zdr J L J)
theorem zi4 {a_:(List SItem)} {b_:(List SItem)} {r_:Int} (h:zfy a_ b_ r_):Fn Tryz.prog 58 [(Pd.rep (En.slice En.SItem) a_),(Pd.rep (En.slice En.SItem) b_)] (Rq (Pd.rep (En.int .i64) r_)):=by
 unfold zfy at h;refine zbo Tryz.func58 J Tryz.ntmps58 (by rfl) (by simp) fun s0 a L=>?_;refine wp_seq_k fun K1 H1=>rg (sw 4 (zw oI J J) L fun a s L=>?_);refine en' (H1 _ _ ?_);refine wp_seq_k fun K2 H2=>wp_seq_k fun K3 H3=>?_;obtain ⟨r4,h5,h⟩:=h;refine rg (sw 6 (zn (O 0 J) J J) L fun a s L=>?_);refine sw 7 (znk (O 6 J) U47 J J) L fun a s L=>?_;refine sw 8 (zn (O 1 J) J J) L fun a s L=>?_;refine sw 9 (znk (O 8 J) U47 J J) L fun a s L=>?_;refine sw 10 (zeu (zdk h5) (xs:=[.tmp 7,.tmp 9]) (.cons (O 7 J) (.cons (O 9 J) .nil)) J J) L fun a s L=>?_;refine sw 5 (zw (O 10 J) J J) L fun a s L=>?_;refine en' (H3 _ _ ?_);refine wp_seq_k fun K6 H6=>rg (sw 11 (zn (O 5 J) J J) L fun a s L=>?_);refine sw 12 (t_nei (O 11 J) oI J J) L fun a s L=>?_;refine en' (H6 _ _ ?_);refine cnd L J (fun hb_=>?_) (fun hb_=>?_)
 ·replace h:=h.1 hb_;refine wp_seq_k fun K7 H7=>rg (sw 13 (zn (O 5 J) J J) L fun a s L=>?_);refine sw 4 (zw (O 13 J) J J) L fun a s L=>?_;refine en' (H7 _ _ ?_);subst h;exact wp_ret (zdr J L J)
 ·replace h:=h.2 hb_;refine wp_skip (H2 _ _ ?_);refine wp_seq_k fun K8 H8=>?_;obtain ⟨r9,h10,h⟩:=h;refine rg (sw 14 (zn (O 0 J) J J) L fun a s L=>?_);refine sw 15 (zn (O 1 J) J J) L fun a s L=>?_;refine sw 16 (zeu (zco h10) (xs:=[.tmp 14,.tmp 15,.func 98]) (.cons (O 14 J) (.cons (O 15 J) (.cons (o_q (Pd.rep EnF137 (fun q_=>zdn q_.1 q_.2.1 q_.2.2)) (o_fun (ze6 Tryz.func98 J (by rfl)) (fun q_ h_=>zl4 h_))) .nil))) J J) L fun a s L=>?_;refine sw 4 (zw (O 16 J) J J) L fun a s L=>?_;refine en' (H8 _ _ ?_);subst h;exact wp_ret (zdr J L J)
theorem heads_Heads_1_ok {a_:SBranch} {b_:SBranch} {r_:Int} (h:zk6 a_ b_ r_):Fn Tryz.prog 117 [(Pd.rep En.SBranch a_),(Pd.rep En.SBranch b_)] (Rq (Pd.rep (En.int .i64) r_)):=by
 unfold zk6 at h;refine zbo Tryz.func117 J Tryz.ntmps117 (by rfl) (by simp) fun s0 a L=>?_;refine wp_seq_k fun K1 H1=>rg (sw 2 (zo7 (O 0 J) J J) L fun a s L=>?_);refine sw 3 (zo7 (O 1 J) J J) L fun a s L=>?_;refine sw 4 (zw oI J J) L fun a s L=>?_;refine en' (H1 _ _ ?_);refine wp_seq_k fun K2 H2=>?_;obtain ⟨r3,h4,h⟩:=h;refine rg (sw 5 (zir (off:=0) (O 2 J) U82 J (zbi (z6 _ _)) J zqq J J) L fun a s L=>?_);refine sw 6 (zb2 zqq (O 5 J) J J) L fun a s L=>?_;refine sw 7 (zir (off:=0) (O 3 J) U82 J (zbi (z6 _ _)) J zqq J J) L fun a s L=>?_;refine sw 8 (zb2 zqq (O 7 J) J J) L fun a s L=>?_;refine sw 9 (zeu (zi4 h4) (xs:=[.tmp 6,.tmp 8]) (.cons (O 6 J) (.cons (O 8 J) .nil)) J J) L fun a s L=>?_;refine sw 4 (zw (O 9 J) J J) L fun a s L=>?_;refine en' (H2 _ _ ?_);subst h;exact wp_ret (zdr J L J)
theorem next_On_1_ok {a_:SBranch} {b_:SBranch} {r_:Int} (h:next_On_1 a_ b_ r_):Fn Tryz.prog 92 [(Pd.rep En.SBranch a_),(Pd.rep En.SBranch b_)] (Rq (Pd.rep (En.int .i64) r_)):=by
 unfold next_On_1 at h;refine zbo Tryz.func92 J Tryz.ntmps92 (by rfl) (by simp) fun s0 a L=>?_;refine wp_seq_k fun K1 H1=>rg (sw 2 (zo7 (O 0 J) J J) L fun a s L=>?_);refine sw 3 (zo7 (O 1 J) J J) L fun a s L=>?_;refine sw 4 (zw oI J J) L fun a s L=>?_;refine en' (H1 _ _ ?_);refine wp_seq_k fun K2 H2=>?_;obtain ⟨r3,h4,h⟩:=h;refine rg (sw 5 (zir (off:=0) (O 2 J) U82 J (zbi (z6 _ _)) J zqq J J) L fun a s L=>?_);refine sw 6 (zb2 zqq (O 5 J) J J) L fun a s L=>?_;refine sw 7 (zir (off:=0) (O 3 J) U82 J (zbi (z6 _ _)) J zqq J J) L fun a s L=>?_;refine sw 8 (zb2 zqq (O 7 J) J J) L fun a s L=>?_;refine sw 9 (zeu (zi4 h4) (xs:=[.tmp 6,.tmp 8]) (.cons (O 6 J) (.cons (O 8 J) .nil)) J J) L fun a s L=>?_;refine sw 4 (zw (O 9 J) J J) L fun a s L=>?_;refine en' (H2 _ _ ?_);subst h;exact wp_ret (zdr J L J)
end Go.Proofs.YtahgmdbioafmbaaGreatDoor.VD
namespace Go.Proofs.YtahgmdbioafmbaaGreatDoor.V
open Go Go.Shelf Go.Sort
set_option linter.unusedVariables false
theorem cmpS_le {x y z:List SItem} (h1:zez x y≤0) (h2:zez y z≤0):zez x z≤0:=by
 rcases Int.lt_or_le (zez x y) 0 with a | a
 ·rcases Int.lt_or_le (zez y z) 0 with b | b
  ·have:=zgg a b;omega
  ·have e:zez y z=0:=by omega
   rw [← zel.1 e];exact h1
 ·have e:zez x y=0:=by omega
  rw [zel.1 e];exact h2
theorem swo_branch:SWO (Go.Proofs.ltOf fun x y:SBranch=>zez x.1 y.1):=swo_cmp (fun x=>zi8 _) (fun x y=>zf1 _ _) fun x y z h1 h2=>cmpS_le h1 h2
theorem srtB_uniq {x y:List SBranch} (hn:(x.map (·.1)).Nodup) (hp:y.Perm x) (hs:y.Pairwise (fun a b=>¬ zez b.1 a.1<0)):y=srtB x:=by
 have hny:(y.map (·.1)).Nodup:=(hp.map (·.1)).nodup_iff.2 hn;refine zkp ?_ (zmz hn) fun b=>by rw [hp.mem_iff,(zgl x).mem_iff]
 have h2:y.Pairwise (fun a b=>a.1≠b.1):=List.pairwise_map.1 hny;refine (hs.and h2).imp fun {a b} h=>?_;have h3:=zf1 b.1 a.1;have h4:zez a.1 b.1≠0:=fun e=>h.2 (zel.1 e);omega
theorem fm_branch {g:FuncId} (eg:∀(args:Array Value) (w:World),(callFunc g args).run Tryz.prog w = .ok (.enter g args) w) {x r:List SBranch} (hn:(x.map (·.1)).Nodup) (hl:x.length≤2147483648) (hr:r=srtB x)
  (hc:∀a∈x,∀b∈x,VD.Fn Tryz.prog g [VD.Pd.rep VD.En.SBranch a,VD.Pd.rep VD.En.SBranch b] (VD.Rq (VD.Pd.rep (VD.En.int .i64) (zez a.1 b.1)))) (v0:Value):
  Fm Tryz.prog 91 (fun b=>v0.ownBlock=some b) [Pd.prow En.SBranch 82 v0 x,Pd.is (.func (.func g) #[] #[])] (fun _ s' _=>(Pd.prow En.SBranch 82 v0 r).p s' v0):=by
 have h:=fm_sort slsort (E:=En.SBranch) (E':=VD.En.SBranch) (te:=82) (g:=g) (cf:=fun a b:SBranch=>zez a.1 b.1) rfl ty82 rfl rfl (fun h=>h) (ze6 Tryz.func91 rfl (by rfl)) eg swo_branch hl hc v0;refine ⟨h.call,fun s vs hg hM hv=>(h.run s vs hg hM hv).mono fun e w' ⟨v,s',he,hw,hfr,ys,hp,hs,hrow⟩=>⟨v,s',he,hw,hfr, ?_⟩⟩;rw [hr,← srtB_uniq hn hp hs];exact hrow
theorem ziu (v0:Value) {x r:List SBranch} (h:zg1 x r):Fm Tryz.prog 91 (fun b=>v0.ownBlock=some b) [Pd.prow En.SBranch 82 v0 x,Pd.is (.func (.func 117) #[] #[])] (fun _ s' _=>(Pd.prow En.SBranch 82 v0 r).p s' v0):=fm_branch (ze6 Tryz.func117 rfl (by rfl)) h.1 h.2.2.1 h.2.2.2 (fun a ha b hb=>VD.heads_Heads_1_ok ⟨_,zgu (h.2.1 a ha),rfl⟩) v0
theorem o_isf {L:Lst} {f:FuncId}:Opn L (.func f) (Pd.is (.func (.func f) #[] #[])):=fun _ _ _ _ _ _=>rfl
end Go.Proofs.YtahgmdbioafmbaaGreatDoor.V
