/-
  The texts that the law's proof needs, part 2.
-/
import Derived.BigCall
import Derived.Lib.AppendIntMem
import Derived.Lib.ItoaLen
import Derived.Lib.ItoaNum
import Derived.Shelf.LaysM
import Derived.Shelf.SlLaysF0
import Derived.Shelf.SlSortCmp.NoneTotal
import Derived.Shelf.SlSortCmp.WholeK
import Derived.Shelf.Strconv.Itoa3
import Derived.Shelf.Strings.BuilderK
import Derived.WalkKit
import Derived.Test.YtaknifhhnhcchaaDoorHeadsKeepsP1

namespace Go.Proofs.YtaknifhhnhcchaaDoor.V
open Go
set_option linter.unusedVariables false
def zcr (d_:SDesc) (s_:(List SItem)) (r_:Bool):Prop:=((((s_.length:Int)==0))=true→r_=true)∧((((s_.length:Int)==0))=false→∃e3:SItem,at? s_ 0=some e3∧(((e3.1==1))=true→∃e6:SNode,at? d_ e3.2.1=some e6∧∃e8:Bool,(((decide (e6.1<10))=true)→at? gdat0 e6.1=some e8)∧r_=((decide (e6.1<10))&&e8))∧(((e3.1==1))=false→(((e3.1==3))=true→(((e3.1==3))=true→r_=true)∧(((e3.1==3))=false→r_=false))∧(((e3.1==3))=false→(((e3.1==4))=true→r_=true)∧(((e3.1==4))=false→r_=false))))
def zbb (rest_:(List SItem)) (list_:(List SItem)) (r_:(List SItem)):Prop:=∃r1:(List SItem),zb [list_,rest_] r1∧r_=r1
def zcd (i_:Int) (r_:SItem):Prop:=r_=(1,i_,0,0)
def zt.j1 (r_:(List (List SItem))) (out24:(List (List SItem))):Prop:=r_=out24
def zt.j2 (s_:(List SItem)) (r_:(List (List SItem))) (e2:SItem) (e6:SNode) (out17:(List (List SItem))):Prop:=((decide (0<e2.2.2.2))=true→∃r27:SItem,zcd e6.2.1 r27∧(InR .i64 (e2.2.2.1-1))∧(InR .i64 (e2.2.2.2-1))∧∃r31:(List SItem),zbb (s_.drop (1:Int).toNat) [r27,(e2.1,e2.2.1,(max (e2.2.2.1-1) 0),e2.2.2.2-1)] r31∧(out17.length+[r31].length≤2147483648)∧(zt.j1 r_) (out17++[r31]))∧((decide (0<e2.2.2.2))=false→(zt.j1 r_) out17)
def zt (d_:SDesc) (s_:(List SItem)) (r_:(List (List SItem))):Prop:=∃e2:SItem,at? s_ 0=some e2∧((0:Int)≤1∧1≤(s_.length:Int))∧∃e6:SNode,at? d_ e2.2.1=some e6∧((((e2.1==5)&&(e2.2.2.1==0)))=true→∃r11:(List SItem),zbb (s_.drop (1:Int).toNat) ([]:(List SItem)) r11∧r_=[r11])∧((((e2.1==5)&&(e2.2.2.1==0)))=false→(((e2.1==5))=true→r_=([]:(List (List SItem))))∧(((e2.1==5))=false→(((e2.1==2))=true→(((e2.2.2.1==0))=true→∃r35:(List SItem),zbb (s_.drop (1:Int).toNat) ([]:(List SItem)) r35∧(([]:(List (List SItem))).length+[r35].length≤2147483648)∧(zt.j2 s_ r_ e2 e6) (([]:(List (List SItem)))++[r35]))∧(((e2.2.2.1==0))=false→(zt.j2 s_ r_ e2 e6) ([]:(List (List SItem)))))∧(((e2.1==2))=false→(((e6.1==1))=true→∃r42:(List SItem),zbb (s_.drop (1:Int).toNat) ([]:(List SItem)) r42∧r_=[r42])∧(((e6.1==1))=false→(((e6.1==3))=true→∃r47:(List SItem),zbb (s_.drop (1:Int).toNat) [(3,e2.2.1,0,0)] r47∧r_=[r47])∧(((e6.1==3))=false→(((e6.1==4))=true→∃r52:SItem,zcd e6.2.1 r52∧∃r54:SItem,zcd e6.2.2.1 r54∧∃r56:(List SItem),zbb (s_.drop (1:Int).toNat) [r52,r54] r56∧r_=[r56])∧(((e6.1==4))=false→(((e6.1==5))=true→∃r61:SItem,zcd e6.2.1 r61∧∃r63:(List SItem),zbb (s_.drop (1:Int).toNat) [r61] r63∧∃r65:SItem,zcd e6.2.2.1 r65∧∃r67:(List SItem),zbb (s_.drop (1:Int).toNat) [r65] r67∧r_=[r63,r67])∧(((e6.1==5))=false→(((e6.1==6))=true→∃r72:(List SItem),zbb (s_.drop (1:Int).toNat) ([]:(List SItem)) r72∧∃r74:SItem,zcd e6.2.1 r74∧∃r76:(List SItem),zbb (s_.drop (1:Int).toNat) [r74,e2] r76∧r_=[r72,r76])∧(((e6.1==6))=false→∃r81:(List SItem),zbb (s_.drop (1:Int).toNat) [(2,e2.2.1,e6.2.2.2.1,e6.2.2.2.2.1)] r81∧r_=[r81]))))))))
def zey (a_:SBranch) (b_:SBranch) (r_:Int):Prop:=∃r1:Int,zc9 a_.1 b_.1 r1∧r_=r1
def zb1 (d_:SDesc) (r_:(List SItem)):Prop:=(InR .i64 ((d_.length:Int)-1))∧r_=[(1,(d_.length:Int)-1,0,0)]
def zdl  (r_:Bool):Prop:=∃r4:SDesc,zd5 6 0 0 [(2,0,0,0,0,(0#256),([]:Str))] r4∧∃r9:SDesc,zd6 5 [(1,0,0,0,0,(0#256),([]:Str))] [(1,0,0,0,0,(0#256),([]:Str))] r9∧∃r15:(List SItem),zb1 r4 r15∧∃r17:(List SBranch),zb2 r4 r15 r17∧∃r19:(List SItem),zb1 r9 r19∧∃r21:(List SBranch),zb2 r9 r19 r21∧∃r23:(List SItem),zb1 r4 r23∧∃r25:(List (List SItem)),zt r4 r23 r25∧∃r27:(List (List SItem)),zt r4 [(5,0,1,0)] r27∧∃b30:Bool,b30=(((r17.length:Int) != 2)||((r21.length:Int) != 1))∧(((b30||((r25.length:Int) != 2)))=true→r_=false)∧(((b30||((r25.length:Int) != 2)))=false→∃e32:SBranch,at? r17 0=some e32∧∃e34:SBranch,(((((e32.1.length:Int)==0))=true)→at? r17 0=some e34)∧∃e36:SBranch,((((((e32.1.length:Int)==0)&&(e34.2==1)))=true)→at? r17 1=some e36)∧∃b38:Bool,b38=((((e32.1.length:Int)==0)&&(e34.2==1))&&((e36.1.length:Int)==2))∧∃e40:SBranch,(((b38)=true)→at? r17 1=some e40)∧∃e42:SItem,(((b38)=true)→at? e40.1 0=some e42)∧∃e44:SBranch,((((b38&&(e42==(1,0,0,0))))=true)→at? r21 0=some e44)∧∃e46:(List SItem),(((((b38&&(e42==(1,0,0,0)))&&(e44.2==2)))=true)→at? r25 0=some e46)∧∃b48:Bool,b48=(((b38&&(e42==(1,0,0,0)))&&(e44.2==2))&&((e46.length:Int)==0))∧∃e50:(List SItem),(((b48)=true)→at? r25 1=some e50)∧∃e52:SBranch,(((b48)=true)→at? r17 1=some e52)∧∃r54:Bool,(((b48)=true)→zdg e50 e52.1 r54)∧∃r56:Bool,(((((b48&&r54)&&((r27.length:Int)==0)))=true)→zcr r4 ([]:(List SItem)) r56)∧∃b58:Bool,b58=(((b48&&r54)&&((r27.length:Int)==0))&&r56)∧∃r60:(List SItem),(((b58)=true)→zb1 r4 r60)∧∃r62:Bool,(((b58)=true)→zcr r4 r60 r62)∧∃r64:(List SItem),((((b58&&(!r62)))=true)→zb1 [(2,0,0,0,0,(0#256),([]:Str))] r64)∧∃r66:Bool,((((b58&&(!r62)))=true)→zcr [(2,0,0,0,0,(0#256),([]:Str))] r64 r66)∧r_=((b58&&(!r62))&&r66))
def zd3 (d_:SDesc) (s_:(List SItem)) (r_:Bool):Prop:=∃b1:Bool,b1=((decide ((d_.length:Int)≤24))&&(decide ((s_.length:Int)≤8)))∧∃r3:Bool,(((b1)=true)→zbg d_ s_ r3)∧r_=(b1&&r3)
def zcz (d_:SDesc) (s_:(List SItem)) (r_:Bool):Prop:=∃e2:SItem,(((((s_.length:Int)==0))=false)→at? s_ 0=some e2)∧∃e4:SItem,((((((s_.length:Int)==0)||(e2.1==3)))=false)→at? s_ 0=some e4)∧∃b6:Bool,b6=((((s_.length:Int)==0)||(e2.1==3))||(e4.1==4))∧((b6)=true→r_=true)∧((b6)=false→∃e8:SItem,at? s_ 0=some e8∧∃e10:SNode,at? d_ e8.2.1=some e10∧∃e12:SItem,at? s_ 0=some e12∧∃b14:Bool,b14=((e12.1==1)&&(((e10.1==2)||(e10.1==8))||(e10.1==9)))∧r_=b14)
set_option maxRecDepth 100000
set_option maxHeartbeats 2000000
set_option synthInstance.maxSize 100000
set_option synthInstance.maxHeartbeats 200000
section
variable {u : Bool} [Dr u]
theorem zdt {x_:Int} {r_:Bool} (h:zb4 x_ r_):Fn Tryd.prog 77 [(Pi x_)] (Rq (Pd.rep En.bool r_)):=by
 unfold zb4 at h;refine zby Tryd.func77 J Tryd.ntmps77 (by rfl) (by simp) fun s0 a L=>?_;refine rA 1 L fun a s L=>?_;refine rA 4 L fun a s L=>?_;subst h;exact wp_ret (zb5 J L J)
theorem zbq {x_:Int} {y_:Int} {r_:Int} (h:zbi x_ y_ r_):Fn Tryd.prog 53 [(Pi x_),(Pi y_)] (Rq (Pi r_)):=by
 unfold zbi at h;refine zby Tryd.func53 J Tryd.ntmps53 (by rfl) (by simp) fun s0 a L=>?_;refine rA 1 L fun a s L=>?_;obtain ⟨r1,h2,h⟩:=h;refine ra 3 (p1 (zdt h2)) L fun a s L=>?_;obtain ⟨r3,h4,h⟩:=h;refine ra 3 (p1 (zdt h4)) L fun a s L=>?_;refine wp_seq_k fun K5 H5=>rA 1 L fun a s L=>?_;refine cn L h (fun h=>?_) fun h=>?_
 ·refine wp_seq_k fun K6 H6=>?_;refine rA 1 L fun a s L=>?_;refine cn L h (fun h=>?_) fun h=>?_
  ·refine rA 1 L fun a s L=>?_;subst h;exact wp_ret (zb5 J L J)
  ·refine wp_skip (H6 _ _ ?_);refine rA 1 L fun a s L=>?_;subst h;exact wp_ret (zb5 J L J)
 ·refine wp_skip (H5 _ _ ?_);refine wp_seq_k fun K7 H7=>rA 1 L fun a s L=>?_;refine cn L h (fun h=>?_) fun h=>?_
  ·refine rA 1 L fun a s L=>?_;subst h;exact wp_ret (zb5 J L J)
  ·refine wp_skip (H7 _ _ ?_);refine wp_seq_k fun K8 H8=>rA 3 L fun a s L=>?_;refine cn L h (fun h=>?_) fun h=>?_
   ·refine rA 1 L fun a s L=>?_;subst h;exact wp_ret (zb5 J L J)
   ·refine wp_skip (H8 _ _ ?_);refine wp_seq_k fun K9 H9=>rA 3 L fun a s L=>?_;refine cn L h (fun h=>?_) fun h=>?_
    ·refine rA 1 L fun a s L=>?_;subst h;exact wp_ret (zb5 J L J)
    ·refine wp_skip (H9 _ _ ?_);refine rA 1 L fun a s L=>?_;subst h;exact wp_ret (zb5 J L J)
theorem zbe {s1_:(List SItem)} {s2_:(List SItem)} {cmp_:(SItem × SItem × Int→Prop)} {r_:Int} (h:za s1_ s2_ cmp_ r_):Fn Tryd.prog 54 [(Pd.rep (En.slice En.SItem) s1_),(Pd.rep (En.slice En.SItem) s2_),(Pd.rep EnF111 cmp_)] (Rq (Pi r_)):=by
 unfold za at h;refine zby Tryd.func54 J Tryd.ntmps54 (by rfl) (by simp) fun s0 a L=>?_;refine rA 1 L fun a s L=>?_;refine wp_seq_k fun K1 H1=>rA 3 L fun a s L=>?_;refine wp_block ?_;have J2:∀(a:Act) (s:St),Has N0 39 s0 a s [(0,(Pd.rep (En.slice En.SItem) s1_)),(1,(Pd.rep (En.slice En.SItem) s2_))]→((za.j1 s1_ s2_ r_))→K1 a s.w:=by
  intro a s L h;unfold za.j1 at h;show K1 a s.w;refine H1 _ _ (wp_seq_k fun K3 H3=>?_);refine rA 5 L fun a s L=>?_;refine cn L h (fun h=>?_) fun h=>?_
  ·refine rA 1 L fun a s L=>?_;subst h;exact wp_ret (zb5 J L J)
  ·refine wp_skip (H3 _ _ ?_);refine rA 1 L fun a s L=>?_;subst h;exact wp_ret (zb5 J L J)
 obtain ⟨k5,h⟩:=h;refine lpn (fun k6 a s=>∃(v4:Int),Has N0 39 s0 a s [(0,(Pd.rep (En.slice En.SItem) s1_)),(1,(Pd.rep (En.slice En.SItem) s2_)),(2,(Pd.rep EnF111 cmp_)),(11,(Pd.rep (En.slice En.SItem) s1_)),(12,(Pi (s1_.length:Int))),(13,(Pi v4))]∧za.l1 s1_ s2_ cmp_ r_ (za.j1 s1_ s2_ r_) k6 v4) k5 ⟨0,L.kk,h⟩ ?_;rintro k6 a s ⟨v4,L,h⟩ KL7 hKL7;unfold za.l1 at h;refine rA 1 L fun a s L=>?_;refine wp_seq_k fun K8 H8=>cn L h (fun h=>?_) fun h=>?_
 ·refine wp_skip (H8 _ _ ?_);refine wp_seq_k fun K9 H9=>wp_block ?_;obtain ⟨e10,h11,h⟩:=h;refine rs (sl 3 (p1 h11) L fun a s L=>?_);refine zbj En.SItem (z:=(0,0,0,0)) 8 L zdw J J J J fun a s g12 hg_ L=>?_;refine sA 1 L fun a s L=>?_;refine sB 8 L fun s L=>?_;refine es (wp_seq_k fun K13 H13=>?_);refine rA 4 L fun a s L=>?_;refine cn L h (fun h=>?_) fun h=>?_
  ·refine rA 1 L fun a s L=>?_;subst h;exact wp_ret (zb5 J L J)
  ·refine wp_skip (H13 _ _ ?_);obtain ⟨e14,h15,h⟩:=h;refine rs (sl 4 (p1 h15) L fun a s L=>?_);have lt_d17:=L.blt 8 rfl;refine zbj En.SItem (z:=(0,0,0,0)) 9 L zdw J J J J fun a s g16 hg_ L=>?_;have d17:=Dis.newg hg_ lt_d17;refine sB 9 L fun s L=>?_;refine es ?_;obtain ⟨r18,h19,h⟩:=h;refine rs (sA 3 L fun a s L=>?_);refine sv (t_callf (q:=(e10,e14,r18)) op h19 opz (fun _ _ _ h_=>h_) J J) L fun a s L=>?_;refine sA 1 L fun a s L=>?_;refine es (rA 2 L fun a s L=>?_);refine cn L h (fun h=>?_) fun h=>?_
   ·refine rA 2 L fun a s L=>?_;subst h;exact wp_ret (zb5 J L J)
   ·refine wp_skip (H9 _ _ ?_);obtain ⟨h20,h⟩:=h;refine rg (sA 2 L fun a s L=>?_);refine en' ?_;exact hKL7 a s ⟨(v4+1),L.kk,h⟩
 ·refine wp_exit ?_;exact J2 a s (L.kk) h
theorem zhj {vals_:(List Int)} {r_:Int} (h:zbh vals_ r_):Fn Tryd.prog 56 [(Pd.rep (En.slice (En.int .i64)) vals_)] (Rq (Pi r_)):=by
 unfold zbh at h;refine zby Tryd.func56 J Tryd.ntmps56 (by rfl) (by simp) fun s0 a L=>?_;refine rA 1 L fun a s L=>?_;refine rA 1 L fun a s L=>?_;refine wp_seq_k fun K1 H1=>rA 3 L fun a s L=>?_;refine wp_block ?_;have J2:∀(a:Act) (s:St),Has N0 18 s0 a s [(3,(Pi 0))]→((zbh.j1 r_))→K1 a s.w:=by
  intro a s L h;unfold zbh.j1 at h;show K1 a s.w;refine H1 _ _ (rA 2 L fun a s L=>?_);subst h;exact wp_ret (zb5 J L J)
 obtain ⟨k4,h⟩:=h;refine lpn (fun k5 a s=>∃(v3:Int),Has N0 18 s0 a s [(3,(Pi 0)),(6,(Pd.rep (En.slice (En.int .i64)) vals_)),(7,(Pi (vals_.length:Int))),(8,(Pi v3))]∧zbh.l1 vals_ r_ (zbh.j1 r_) k5 v3) k4 ⟨0,L.kk,h⟩ ?_;rintro k5 a s ⟨v3,L,h⟩ KL6 hKL6;unfold zbh.l1 at h;refine rA 1 L fun a s L=>?_;refine wp_seq_k fun K7 H7=>cn L h (fun h=>?_) fun h=>?_
 ·refine wp_skip (H7 _ _ ?_);refine wp_seq_k fun K8 H8=>wp_block ?_;obtain ⟨e9,h10,h⟩:=h;refine ra 3 (p1 h10) L fun a s L=>?_;refine rA 3 L fun a s L=>?_;refine cn L h (fun h=>?_) fun h=>?_
  ·refine rA 2 L fun a s L=>?_;subst h;exact wp_ret (zb5 J L J)
  ·refine wp_skip (H8 _ _ ?_);obtain ⟨h11,h⟩:=h;refine rg (sA 2 L fun a s L=>?_);refine en' ?_;exact hKL6 a s ⟨(v3+1),L.kk,h⟩
 ·refine wp_exit ?_;exact J2 a s (L.kk) h
theorem zfa {x_:SItem} {y_:SItem} {r_:Int} (h:zbr x_ y_ r_):Fn Tryd.prog 55 [(Pd.rep En.SItem x_),(Pd.rep En.SItem y_)] (Rq (Pi r_)):=by
 unfold zbr at h;refine zby Tryd.func55 J Tryd.ntmps55 (by rfl) (by simp) fun s0 a L=>?_;refine rA 3 L fun a s L=>?_;obtain ⟨r1,h2,r3,h4,r5,h6,r7,h8,r9,h10,h⟩:=h;refine wp_seq (rdx 22 (pp (zbq h2) (pp (zbq h4) (pp (zbq h6) (pp (zbq h8) (p1 (zhj h10)))))) L fun a s L=>?_);refine sA 1 L fun a s L=>?_;refine es ?_;subst h;exact wp_ret (zb5 J L J)
theorem zf4 {a_:(List SItem)} {b_:(List SItem)} {r_:Int} (h:zc9 a_ b_ r_):Fn Tryd.prog 34 [(Pd.rep (En.slice En.SItem) a_),(Pd.rep (En.slice En.SItem) b_)] (Rq (Pi r_)):=by
 unfold zc9 at h;refine zby Tryd.func34 J Tryd.ntmps34 (by rfl) (by simp) fun s0 a L=>?_;refine rA 1 L fun a s L=>?_;refine wp_seq_k fun K1 H1=>?_;obtain ⟨r2,h3,h⟩:=h;refine ra 6 (p1 (zbq h3)) L fun a s L=>?_;refine rA 2 L fun a s L=>?_;refine cn L h (fun h=>?_) fun h=>?_
 ·refine rA 2 L fun a s L=>?_;subst h;exact wp_ret (zb5 J L J)
 ·refine wp_skip (H1 _ _ ?_);obtain ⟨r4,h5,h⟩:=h;refine rs (sA 2 L fun a s L=>?_);refine sv (zx (zbe h5) (xs:=[.tmp 14,.tmp 15,.func 55]) (.cons op (.cons op (.cons (o_q (Pd.rep EnF111 (fun q_=>zbr q_.1 q_.2.1 q_.2.2)) (o_fun (zhk Tryd.func55 J (by rfl)) (fun q_ h_=>zfa h_))) .nil))) J J) L fun a s L=>?_;refine sA 1 L fun a s L=>?_;refine es ?_;subst h;exact wp_ret (zb5 J L J)
theorem zfl {a_:SBranch} {b_:SBranch} {r_:Int} (h:zey a_ b_ r_):Fn Tryd.prog 33 [(Pd.rep En.SBranch a_),(Pd.rep En.SBranch b_)] (Rq (Pi r_)):=by
 unfold zey at h;refine zby Tryd.func33 J Tryd.ntmps33 (by rfl) (by simp) fun s0 a L=>?_;refine rA 3 L fun a s L=>?_;obtain ⟨r1,h2,h⟩:=h;refine ra 6 (p1 (zf4 h2)) L fun a s L=>?_;subst h;exact wp_ret (zb5 J L J)
end
end Go.Proofs.YtaknifhhnhcchaaDoor.V
namespace Go.Proofs.YtaknifhhnhcchaaDoor.V
open Go
set_option linter.unusedVariables false
def Pd.zr (N te sz g len:Nat):Pd:=
 ⟨fun s v=>N≤g∧s.X g∧∃cap cur,v = .slice (some ⟨g,0,none⟩) len cap∧s.w.heap[g]?=some (.cells cur te (0,0))∧cur.size=cap*sz∧cap≤maxLen∧len≤cap,fun b=>some g=some b,
  fun {T s s' v} h hb ⟨h1,h2,cap,cur,h3,h4,h5⟩=>⟨h1,(hb g rfl).2 h2,cap,cur,h3,by rw [h.blk g (Array.getElem?_eq_some_iff.1 h4).1 (hb g rfl).1];exact h4,h5⟩⟩
section
variable {P : Program} {ops : Array Oper} {o : Oper} {L : Lst} {α : Type} {E : En α} {xs : List α}
theorem t_capn {y:Operand} {t te:TypeId} (hy:Opn L y (Pd.rep (En.nilv E) xs)) (ht:P.underlying t=some (.slice te)) (ho:o.op = .call { callee:=.builtin .cap,args:=#[y],argTypes:=#[t] }) (hg:o.guard=none):T P ops o L (Pd.rep (En.int .i64) 0):=
 T.pure hg fun M n s0 ac s hL=>by
  have hv:=(zc7.1 (hy M n s0 ac s hL)).1;refine ⟨.int .i64 0, ?_,z7.2 ⟨rfl,by decide⟩⟩;unfold execOp;rw [ho];simp [resolve,invoke,builtin,hv,Builtin.cap_,run_underlying ht,goInt]
theorem t_lenn {y:Operand} {t te:TypeId} (hy:Opn L y (Pd.rep (En.nilv E) xs)) (ht:P.underlying t=some (.slice te)) (ho:o.op = .call { callee:=.builtin .len,args:=#[y],argTypes:=#[t] }) (hg:o.guard=none):T P ops o L (Pd.rep (En.int .i64) 0):=
 T.pure hg fun M n s0 ac s hL=>by
  have hv:=(zc7.1 (hy M n s0 ac s hL)).1;refine ⟨.int .i64 0, ?_,z7.2 ⟨rfl,by decide⟩⟩;unfold execOp;rw [ho];simp [resolve,invoke,builtin,hv,Builtin.len_,run_underlying ht,goInt]
theorem t_to0 {y z:Operand} {t te:TypeId} (hy:Opn L y (Pd.rep (En.nilv E) xs)) (hz:Opn L z (Pd.rep (En.int .i64) 0)) (ht:P.underlying t=some (.slice te)) (hE:Ty P te E) (ho:o.op = .slice t y none (some z) none) (hg:o.guard=none):T P ops o L (Pd.rep (En.nilv E) xs):=
 T.pure hg fun M n s0 ac s hL=>by
  obtain ⟨hv,hxs⟩:=zc7.1 (hy M n s0 ac s hL);have hzv:=(z7.1 (hz M n s0 ac s hL)).1;refine ⟨.slice none 0 0, ?_,zc7.2 ⟨rfl,hxs⟩⟩;unfold execOp;rw [ho];simp [hv,hzv,Instr.sliceAt,run_underlying ht,Instr.slice,Instr.sliceBounds,Instr.sliceBound,asIntOf,z6 hE]
theorem st_zeros {Q:Exit→Act→World→Prop} {rest:List Oper} {M:Nat→Prop} {n:Nat} {s0:St} {a:Act} {s:St} {t u te:TypeId} {x y:Operand} {k:Int} (d:Nat) (hL:Has M n s0 a s L) (hx:Opn L x (Pd.rep (En.nilv E) xs)) (hy:Opn L y (Pd.rep (En.int .i64) k)) (hk0:0<k) (hk1:k≤2147483648)
  (ht:P.underlying t=some (.slice te)) (hu:P.underlying u=some (.int .i64)) (hE:Ty P te E) (ho:o.op = .call { callee:=.builtin .append,args:=#[x,y],argTypes:=#[t,u] }) (hg:o.guard=none) (hd:o.dst=some d) (hn:Nat.blt d n=true)
  (kk:∀a' s' g,Has M n s0 a' s' ((d,Pd.zr s0.w.heap.size te E.sz g k.toNat)::L)→wpList P ops Q rest a' s'.w):wpList P ops Q (o::rest) a s.w:=by
 obtain ⟨hv,_⟩:=zc7.1 (hx M n s0 a s hL);have hkv:=(z7.1 (hy M n s0 a s hL)).1;obtain ⟨i,z,hi,hsz,hz,hzs,hby⟩:=hE.info;obtain ⟨j,rfl⟩:∃j:Nat,k=(j:Int):=⟨k.toNat,by omega⟩;have hj:0<j:=by omega
 have hcap:j≤grownCap s.w j 0 te:=grownCap_ge _ _ _ _;have hr:(execOp a.eval o).run P s.w = .ok (.value (.slice (some ⟨s.w.heap.size,0,none⟩) j (grownCap s.w j 0 te))) (s.w.drew.alloc (.cells (Builtin.zeroCells z.cells j++Builtin.zeroCells z.cells (grownCap s.w j 0 te-j)) te)):=by
  unfold execOp;rw [ho];have h0:¬ ((j:Int)<0):=by omega
  have hw:IntKind.wrap .i64 (j:Int)=j:=wrap_in (zf7.2 ⟨by omega,by omega⟩);have hb:j*i.bytes≤140737488355328:=by
   have:=Nat.mul_le_mul (show j≤2147483648 by omega) hby;omega
  have hb2:¬ ((281474976710656:Int)<(j:Int)*(i.bytes:Int)):=by
   rw [← Int.natCast_mul];omega
  have h48:¬ (281474976710656<Builtin.nextslicecap j 0*i.bytes):=by rw [nextslicecap_zero hj];omega
  have h63:¬ (9223372036854775807<(j:Int)):=by omega
  have hjn:¬ j=0:=by omega
  have hs0:¬ (j*E.sz=0):=by have:=Nat.mul_pos hj E.pos;omega
  simp [resolve,invoke,builtin,hv,hkv,Builtin.append_,run_underlying ht,run_underlying hu,sizeOf,typeInfo,zeroValue,hi,hz,asInt,asIntOf,h0,hw,hjn,hb2,h48,h63,hs0,hsz,Question.forced,newRow,grownCap,run_firstCells_none]
 refine wpList_plain hg fun K hK=>?_;unfold Oper.wp;rw [hr];refine hK _ _ ?_;simp only [hd];have e:Ex s ⟨(s.w.drew.alloc (.cells (Builtin.zeroCells z.cells j++Builtin.zeroCells z.cells (grownCap s.w j 0 te-j)) te)),fun b=>s.X b∨b=s.w.heap.size,fun b hb=>hb.elim (fun h=>Nat.lt_of_lt_of_le (s.lt b h) (by simp)) (fun h=>by subst h;simp)⟩:=
  ⟨⟨DR.succ rfl,rfl,rfl,rfl,by simp,fun b hb _=>Go.RowKit.Below.heap_alloc s.w.drew _ b hb,fun _ h=>h.elim,fun b hb=>hb.imp id (fun h=>Nat.le_of_eq h.symm)⟩,fun b hb=>.inl hb⟩
 refine kk _ _ s.w.heap.size (hL.put e hn ⟨hL.ent.mv.size,.inr rfl,grownCap s.w j 0 te,_,rfl,heap_alloc_new s.w.drew _, ?_,grownCap_le_maxLen _ _ _ _ (by unfold maxLen;omega),hcap⟩);simp only [Array.size_append,size_zeroCells,hzs];rw [← Nat.add_mul]
 congr 1
 omega
theorem t_row0 {t te:TypeId} {x z:Operand} {N g len:Nat} (hx:Opn L x (Pd.zr N te E.sz g len)) (hz:Opn L z (Pd.rep (En.int .i64) 0)) (ht:P.underlying t=some (.slice te)) (hE:Ty P te E) (ho:o.op = .slice t x none (some z) none) (hg:o.guard=none):T P ops o L (Pd.row E N te (some g) []):=
 T.pure hg fun M n s0 a s hL=>by
  obtain ⟨hN,hX,cap,cur,hv,hgb,hcs,hcm,hlc⟩:=hx M n s0 a s hL;have hzv:=(z7.1 (hz M n s0 a s hL)).1;refine ⟨.slice (some ⟨g,0,none⟩) 0 cap, ?_,rfl,fun b hb=>by cases hb;exact hX,Nat.zero_le _,[],⟨rfl,by simp⟩,by simp,.inr ⟨g,cap,cur,rfl,hN,hgb,Nat.zero_le _,hcm,hcs,by simp⟩⟩;unfold execOp;rw [ho];simp [hv,hzv,Instr.sliceAt,run_underlying ht,Instr.slice,Instr.sliceBounds,Instr.sliceBound,asIntOf,z6 hE,Addr.add]
end
set_option maxRecDepth 100000
theorem zch {x_:List SItem} {n_:Int} {r_:List SItem} (h:zbv x_ n_ r_):Fn Tryd.prog 78 [(Pd.rep (En.nilv En.SItem) x_),(Pd.rep (En.int .i64) n_)] (Ro En.SItem 47 r_):=by
 obtain ⟨h0,h1,rfl⟩:=h;refine zby Tryd.func78 rfl Tryd.ntmps78 (by rfl) (by simp) fun s0 a hL=>?_;refine wp_seq_k fun K1 hK1=>?_;refine rg ?_;refine st 4 (zg (q:=Pd.any) (fun _ _ _ _ _ _=>trivial) rfl rfl) rfl rfl hL fun a s e_ hL=>?_;refine en' ?_;show K1 a s.w;refine hK1 _ _ ?_;refine wp_seq_k fun K2 hK2=>?_;refine wp_seq_k fun K3 hK3=>?_;refine rg ?_;refine st 5 (ze (o_t 1 rfl) rfl rfl) rfl rfl hL fun a s e_ hL=>?_;refine st 6 (t_lss (o_t 5 rfl) (o_i (by decide)) rfl rfl) rfl rfl hL fun a s e_ hL=>?_;refine en' ?_;show K3 a s.w;refine hK3 _ _ ?_;refine cnd hL rfl (fun hb_=>absurd hb_ (by simp;omega)) (fun _=>?_);refine wp_skip ?_;show K2 a s.w;refine hK2 _ _ ?_;refine wp_seq_k fun K4 hK4=>?_;refine wp_seq_k fun K5 hK5=>?_;refine rg ?_;refine st 8 (ze (o_t 1 rfl) rfl rfl) rfl rfl hL fun a s e_ hL=>?_;refine st 9 (ze (o_t 0 rfl) rfl rfl) rfl rfl hL fun a s e_ hL=>?_;refine st 10 (t_capn (o_t 9 rfl) Tryd.underlying43 rfl rfl) rfl rfl hL fun a s e_ hL=>?_;refine st 11 (ze (o_t 0 rfl) rfl rfl) rfl rfl hL fun a s e_ hL=>?_;refine st 12 (t_lenn (o_t 11 rfl) Tryd.underlying43 rfl rfl) rfl rfl hL fun a s e_ hL=>?_;refine st 13 (t_sub (o_t 10 rfl) (o_t 12 rfl) (by decide) rfl rfl) rfl rfl hL fun a s e_ hL=>?_;refine st 14 (t_sub (o_t 8 rfl) (o_t 13 rfl) (zf7.2 ⟨by omega,by omega⟩) rfl rfl) rfl rfl hL fun a s e_ hL=>?_;refine st 1 (zg (o_t 14 rfl) rfl rfl) rfl rfl hL fun a s e_ hL=>?_;refine en' ?_;show K5 a s.w;refine hK5 _ _ ?_;refine wp_seq_k fun K6 hK6=>?_;refine rg ?_;refine st 15 (ze (o_t 1 rfl) rfl rfl) rfl rfl hL fun a s e_ hL=>?_
 refine st 16 (t_gtr (o_t 15 rfl) (o_i (by decide)) rfl rfl) rfl rfl hL fun a s e_ hL=>?_;refine en' ?_;show K6 a s.w;refine hK6 _ _ ?_;have fin:∀(a:Act) (s:St) (L:Lst) (og:Option Nat),Has N0 27 s0 a s L→lk L 0=some (Pd.row En.SItem s0.w.heap.size 47 og [])→K4 a s.w:=fun a s L og hL h0=>by
  refine hK4 _ _ ?_;refine wp_seq_k fun K7 hK7=>?_;refine rg ?_;refine st 26 (ze (o_t 0 h0) rfl rfl) rfl rfl hL fun a s e_ hL=>?_;refine st 4 (zg (o_t 26 rfl) rfl rfl) rfl rfl hL fun a s e_ hL=>?_;refine en' ?_;show K7 a s.w;refine hK7 _ _ ?_;exact wp_ret (ze6 rfl hL rfl)
 refine cnd hL rfl (fun hb_=>?_) (fun hb_=>?_)
 ·have hpos:0<n_-(0-0):=by simpa using hb_
  refine rg ?_;refine st 17 (ze (o_t 0 rfl) rfl rfl) rfl rfl hL fun a s e_ hL=>?_;refine st 18 (ze (o_t 0 rfl) rfl rfl) rfl rfl hL fun a s e_ hL=>?_;refine st 19 (t_capn (o_t 18 rfl) Tryd.underlying43 rfl rfl) rfl rfl hL fun a s e_ hL=>?_;refine st 20 (t_to0 (o_t 17 rfl) (o_t 19 rfl) Tryd.underlying43 zec rfl rfl) rfl rfl hL fun a s e_ hL=>?_;refine st 21 (ze (o_t 1 rfl) rfl rfl) rfl rfl hL fun a s e_ hL=>?_;refine st_zeros 22 hL (o_t 20 rfl) (o_t 21 rfl) hpos (by omega) Tryd.underlying43 Tryd.underlying3 zec rfl rfl rfl rfl fun a s g hL=>?_;refine st 23 (ze (o_t 0 rfl) rfl rfl) rfl rfl hL fun a s e_ hL=>?_;refine st 24 (t_lenn (o_t 23 rfl) Tryd.underlying43 rfl rfl) rfl rfl hL fun a s e_ hL=>?_;refine st 25 (t_row0 (o_t 22 rfl) (o_t 24 rfl) Tryd.underlying43 zec rfl rfl) rfl rfl hL fun a s e_ hL=>?_;refine st 0 (zg (o_t 25 rfl) rfl rfl) rfl rfl hL fun a s e_ hL=>?_;refine en' ?_;exact fin a s _ (some g) hL rfl
 ·refine wp_skip ?_;have hv:=(zc7.1 (hL.get 0 rfl)).1;have hx:=(zc7.1 (hL.get 0 rfl)).2;have hL2:=hL.cons 0 (q:=Pd.row En.SItem s0.w.heap.size 47 none []) (by rw [hv];exact own_nil _ _ _ _);exact fin a s _ none hL2 rfl
end Go.Proofs.YtaknifhhnhcchaaDoor.V
namespace Go.Proofs.YtaknifhhnhcchaaDoor.V
open Go Go.Shelf
set_option linter.unusedVariables false
set_option maxRecDepth 100000
def sl169_ren:Go.Shelf.Ren:=⟨fun | 169=>66 | n=>n,fun | 70=>118 | 9=>9 | 0=>0 | 72=>120 | 37=>29 | 127=>139 | 3=>3 | 5=>5 | n=>n,fun | n=>n⟩
theorem sl169:Go.Proofs.Lays.n169 Tryd.prog sl169_ren where
 mixed:=by kernel_rfl
 f169:=Tryd.func66.trans (congrArg some (by kernel_rfl))
 t0:=Tryd.underlying0
 a0:=Tryd.isAgg0
 z0:=Tryd.sizeOf0
 v0:=Tryd.zeroValue0
 t3:=Tryd.underlying3
 a3:=Tryd.isAgg3
 z3:=Tryd.sizeOf3
 v3:=Tryd.zeroValue3
 t9:=Tryd.underlying9
 a9:=Tryd.isAgg9
 z9:=Tryd.sizeOf9
 v9:=Tryd.zeroValue9
 t37:=Tryd.underlying29
 a37:=Tryd.isAgg29
 z37:=Tryd.sizeOf29
 v37:=Tryd.zeroValue29
 t70:=Tryd.underlying118
 a70:=Tryd.isAgg118
 z70:=Tryd.sizeOf118
 v70:=Tryd.zeroValue118
 t72:=Tryd.underlying120
 a72:=Tryd.isAgg120
 z72:=Tryd.sizeOf120
 v72:=Tryd.zeroValue120
 t127:=Tryd.underlying139
 a127:=Tryd.isAgg139
 z127:=Tryd.sizeOf139
 v127:=Tryd.zeroValue139
def sl171_ren:Go.Shelf.Ren:=⟨fun | 171=>42 | 243=>61 | 246=>79 | 283=>87 | 284=>88 | 285=>89 | 286=>90 | 129=>76 | 317=>94 | 318=>95 | 319=>96 | 320=>97 | 337=>98 | 338=>99 | n=>n,fun | 3=>3 | 9=>9 | 2=>2 | 4=>4 | 171=>146 | 0=>0 | 53=>65 | 37=>29 | 5=>5 | 173=>148 | 212=>158 | 51=>135 | 20=>20 | 213=>159 | 46=>107 | 232=>160 | 233=>161 | n=>n,fun | 17=>1 | 18=>2 | 19=>3 | n=>n⟩
theorem sl171:Go.Proofs.LaysM.n171 Tryd.prog sl171_ren where
 mixed:=by kernel_rfl
 f129:=Tryd.func76.trans (congrArg some (by kernel_rfl))
 f171:=Tryd.func42.trans (congrArg some (by kernel_rfl))
 f243:=Tryd.func61.trans (congrArg some (by kernel_rfl))
 f246:=Tryd.func79.trans (congrArg some (by kernel_rfl))
 f283:=Tryd.func87.trans (congrArg some (by kernel_rfl))
 f284:=Tryd.func88.trans (congrArg some (by kernel_rfl))
 f285:=Tryd.func89.trans (congrArg some (by kernel_rfl))
 f286:=Tryd.func90.trans (congrArg some (by kernel_rfl))
 f317:=Tryd.func94.trans (congrArg some (by kernel_rfl))
 f318:=Tryd.func95.trans (congrArg some (by kernel_rfl))
 f319:=Tryd.func96.trans (congrArg some (by kernel_rfl))
 f320:=Tryd.func97.trans (congrArg some (by kernel_rfl))
 f337:=Tryd.func98.trans (congrArg some (by kernel_rfl))
 f338:=Tryd.func99.trans (congrArg some (by kernel_rfl))
 t0:=Tryd.underlying0
 a0:=Tryd.isAgg0
 z0:=Tryd.sizeOf0
 v0:=Tryd.zeroValue0
 t2:=Tryd.underlying2
 a2:=Tryd.isAgg2
 z2:=Tryd.sizeOf2
 v2:=Tryd.zeroValue2
 t3:=Tryd.underlying3
 a3:=Tryd.isAgg3
 z3:=Tryd.sizeOf3
 v3:=Tryd.zeroValue3
 t4:=Tryd.underlying4
 a4:=Tryd.isAgg4
 z4:=Tryd.sizeOf4
 v4:=Tryd.zeroValue4
 t5:=Tryd.underlying5
 a5:=Tryd.isAgg5
 z5:=Tryd.sizeOf5
 v5:=Tryd.zeroValue5
 t9:=Tryd.underlying9
 a9:=Tryd.isAgg9
 z9:=Tryd.sizeOf9
 v9:=Tryd.zeroValue9
 t20:=Tryd.underlying20
 a20:=Tryd.isAgg20
 z20:=Tryd.sizeOf20
 v20:=Tryd.zeroValue20
 t37:=Tryd.underlying29
 a37:=Tryd.isAgg29
 z37:=Tryd.sizeOf29
 v37:=Tryd.zeroValue29
 t46:=Tryd.underlying107
 a46:=Tryd.isAgg107
 z46:=Tryd.sizeOf107
 v46:=Tryd.zeroValue107
 t51:=Tryd.underlying135
 a51:=Tryd.isAgg135
 z51:=Tryd.sizeOf135
 v51:=Tryd.zeroValue135
 t53:=Tryd.underlying65
 a53:=Tryd.isAgg65
 z53:=Tryd.sizeOf65
 v53:=Tryd.zeroValue65
 t171:=Tryd.underlying146
 a171:=Tryd.isAgg146
 z171:=Tryd.sizeOf146
 v171:=Tryd.zeroValue146
 t173:=Tryd.underlying148
 a173:=Tryd.isAgg148
 z173:=Tryd.sizeOf148
 v173:=Tryd.zeroValue148
 t212:=Tryd.underlying158
 a212:=Tryd.isAgg158
 z212:=Tryd.sizeOf158
 v212:=Tryd.zeroValue158
 t213:=Tryd.underlying159
 a213:=Tryd.isAgg159
 z213:=Tryd.sizeOf159
 t232:=Tryd.underlying160
 a232:=Tryd.isAgg160
 z232:=Tryd.sizeOf160
 v232:=Tryd.zeroValue160
 t233:=Tryd.underlying161
 a233:=Tryd.isAgg161
 z233:=Tryd.sizeOf161
 v233:=Tryd.zeroValue161
 g17:=by kernel_rfl
 g18:=by kernel_rfl
 g19:=by kernel_rfl
 i0:=by kernel_rfl
 i2:=by kernel_rfl
 i3:=by kernel_rfl
 i4:=by kernel_rfl
 i5:=by kernel_rfl
 i9:=by kernel_rfl
 i20:=by kernel_rfl
 i37:=by kernel_rfl
 i46:=by kernel_rfl
 i51:=by kernel_rfl
 i53:=by kernel_rfl
 i171:=by kernel_rfl
 i173:=by kernel_rfl
 i212:=by kernel_rfl
 i232:=by kernel_rfl
 i233:=by kernel_rfl
 m17:=by kernel_rfl
 m18:=by kernel_rfl
 m19:=by kernel_rfl
def slsort_ren:Go.Shelf.Ren:=⟨fun | 6=>32 | 15=>52 | 14=>51 | 28=>75 | 29=>76 | 20=>67 | 21=>68 | 22=>69 | 23=>70 | 24=>71 | 25=>72 | 26=>73 | 27=>74 | 46=>82 | 47=>83 | 48=>84 | 49=>85 | 50=>86 | 57=>93 | n=>n,fun | 22=>48 | 24=>51 | 25=>83 | 3=>3 | 39=>107 | 0=>0 | 53=>135 | 55=>65 | 4=>4 | 46=>129 | 45=>128 | 50=>73 | 5=>5 | 9=>9 | 66=>140 | 70=>144 | 76=>153 | 77=>154 | n=>n,fun | n=>n⟩
theorem slsort:Go.Proofs.SlLaysF0.n6 Tryd.prog slsort_ren where
 mixed:=by kernel_rfl
 f6:=⟨"slices.SortFunc[[]scantling/api.Branch,scantling/api.Branch]",by decide,Tryd.func32.trans (congrArg some (by kernel_rfl))⟩
 f14:=⟨"slices.pdqsortCmpFunc[scantling/api.Branch]",by decide,Tryd.func51.trans (congrArg some (by kernel_rfl))⟩
 f15:=Tryd.func52.trans (congrArg some (by kernel_rfl))
 f20:=⟨"slices.insertionSortCmpFunc[scantling/api.Branch]",by decide,Tryd.func67.trans (congrArg some (by kernel_rfl))⟩
 f21:=⟨"slices.heapSortCmpFunc[scantling/api.Branch]",by decide,Tryd.func68.trans (congrArg some (by kernel_rfl))⟩
 f22:=⟨"slices.breakPatternsCmpFunc[scantling/api.Branch]",by decide,Tryd.func69.trans (congrArg some (by kernel_rfl))⟩
 f23:=⟨"slices.choosePivotCmpFunc[scantling/api.Branch]",by decide,Tryd.func70.trans (congrArg some (by kernel_rfl))⟩
 f24:=⟨"slices.reverseRangeCmpFunc[scantling/api.Branch]",by decide,Tryd.func71.trans (congrArg some (by kernel_rfl))⟩
 f25:=⟨"slices.partialInsertionSortCmpFunc[scantling/api.Branch]",by decide,Tryd.func72.trans (congrArg some (by kernel_rfl))⟩
 f26:=⟨"slices.partitionEqualCmpFunc[scantling/api.Branch]",by decide,Tryd.func73.trans (congrArg some (by kernel_rfl))⟩
 f27:=⟨"slices.partitionCmpFunc[scantling/api.Branch]",by decide,Tryd.func74.trans (congrArg some (by kernel_rfl))⟩
 f28:=Tryd.func75.trans (congrArg some (by kernel_rfl))
 f29:=Tryd.func76.trans (congrArg some (by kernel_rfl))
 f46:=⟨"slices.siftDownCmpFunc[scantling/api.Branch]",by decide,Tryd.func82.trans (congrArg some (by kernel_rfl))⟩
 f47:=Tryd.func83.trans (congrArg some (by kernel_rfl))
 f48:=Tryd.func84.trans (congrArg some (by kernel_rfl))
 f49:=⟨"slices.medianAdjacentCmpFunc[scantling/api.Branch]",by decide,Tryd.func85.trans (congrArg some (by kernel_rfl))⟩
 f50:=⟨"slices.medianCmpFunc[scantling/api.Branch]",by decide,Tryd.func86.trans (congrArg some (by kernel_rfl))⟩
 f57:=⟨"slices.order2CmpFunc[scantling/api.Branch]",by decide,Tryd.func93.trans (congrArg some (by kernel_rfl))⟩
 t0:=Tryd.underlying0
 a0:=Tryd.isAgg0
 z0:=Tryd.sizeOf0
 v0:=Tryd.zeroValue0
 t3:=Tryd.underlying3
 a3:=Tryd.isAgg3
 z3:=Tryd.sizeOf3
 v3:=Tryd.zeroValue3
 t4:=Tryd.underlying4
 a4:=Tryd.isAgg4
 z4:=Tryd.sizeOf4
 v4:=Tryd.zeroValue4
 t5:=Tryd.underlying5
 a5:=Tryd.isAgg5
 z5:=Tryd.sizeOf5
 v5:=Tryd.zeroValue5
 t9:=Tryd.underlying9
 a9:=Tryd.isAgg9
 z9:=Tryd.sizeOf9
 v9:=Tryd.zeroValue9
 t22:=Tryd.underlying48
 a22:=Tryd.isAgg48
 z22:=Tryd.sizeOf48
 v22:=Tryd.zeroValue48
 t25:=Tryd.underlying83
 a25:=Tryd.isAgg83
 z25:=Tryd.sizeOf83
 v25:=Tryd.zeroValue83
 t39:=Tryd.underlying107
 a39:=Tryd.isAgg107
 z39:=Tryd.sizeOf107
 v39:=Tryd.zeroValue107
 t45:=Tryd.underlying128
 a45:=Tryd.isAgg128
 z45:=Tryd.sizeOf128
 v45:=Tryd.zeroValue128
 t46:=Tryd.underlying129
 a46:=Tryd.isAgg129
 z46:=Tryd.sizeOf129
 v46:=Tryd.zeroValue129
 t50:=Tryd.underlying73
 a50:=Tryd.isAgg73
 z50:=Tryd.sizeOf73
 v50:=Tryd.zeroValue73
 t53:=Tryd.underlying135
 a53:=Tryd.isAgg135
 z53:=Tryd.sizeOf135
 v53:=Tryd.zeroValue135
 t55:=Tryd.underlying65
 a55:=Tryd.isAgg65
 z55:=Tryd.sizeOf65
 v55:=Tryd.zeroValue65
 t66:=Tryd.underlying140
 a66:=Tryd.isAgg140
 z66:=Tryd.sizeOf140
 v66:=Tryd.zeroValue140
 t70:=Tryd.underlying144
 a70:=Tryd.isAgg144
 z70:=Tryd.sizeOf144
 v70:=Tryd.zeroValue144
 t76:=Tryd.underlying153
 a76:=Tryd.isAgg153
 z76:=Tryd.sizeOf153
 v76:=Tryd.zeroValue153
 t77:=Tryd.underlying154
 a77:=Tryd.isAgg154
 z77:=Tryd.sizeOf154
 v77:=Tryd.zeroValue154
open Go.RowKit
theorem bx169:Builder.Extra Tryd.prog sl169_ren where
 sizeBuilder:=by kernel_rfl
 liesBuilder:=by kernel_rfl
 t5:=Tryd.underlying5
 a5:=Tryd.isAgg5
 z5:=Tryd.sizeOf5
 v5:=Tryd.zeroValue5
 infoByte:=by kernel_rfl
 cellsByte:=by kernel_rfl
 sizeByte:=by kernel_rfl
 neB5:=by decide
theorem b_string (B b:Nat) (l:List UInt8) (w:World) (h:Lib.IsBuilderF 120 5 B b (Lib.byteCells l) w) (hBw:B≤w.heap.size):
  Calls Tryd.prog 66 #[.pointer (some ⟨b,0,none⟩)] w fun e w'=>e = .returned (.string ⟨l.toArray⟩)∧(Lib.IsBuilderF 120 5 B b (Lib.byteCells l) w'∧Below B w w'∧Lib.OthersKept 5 (some b) w w'):=Any.Builder_String_any_k sl169 bx169 B b l w h hBw
theorem b_itoa (n:Int) (h0:-9223372036854775808≤n) (h1:n≤9223372036854775807) (w:World) (htab:Lib.TabIs Tryd.prog w "internal/strconv.uint64pow10" .u64 Lib.pow10Tab):
  Calls Tryd.prog 42 #[.int .i64 n] w fun e w'=>e = .returned (.string ⟨(Lib.itoa n).toArray⟩)∧∃k os,w'=Sort.grow (w.drewN k) os:=Any.strconv_Itoa sl171 n h0 h1 w htab
set_option maxHeartbeats 1000000 in
set_option maxRecDepth 100000 in
theorem b_used (b:Nat) (w:World) (h0:w.cell? ⟨b,0,none⟩=some (.pointer (some ⟨b,0,none⟩))):
  Calls Tryd.prog 81 #[.pointer (some ⟨b,0,none⟩)] w fun e w'=>e = .returned (.tuple #[])∧w'=w:=by
 obtain ⟨j,hj,_⟩:=Option.map_eq_some_iff.1 bx169.sizeBuilder
 go_enter Tryd.func81,Tryd.ntmps81
 go_wp2
 rw [Lib.run_neq_ptr_same w _ Tryd.underlying118 hj]
 go_wp2
 go_end0
 exact ⟨rfl,rfl⟩
set_option maxHeartbeats 1000000 in
set_option maxRecDepth 100000 in
theorem b_fresh (b:Nat) (w:World) (h0:w.cell? ⟨b,0,none⟩=some (.pointer none)) (hsh:w.shape? b=some (120,2)) (hfz:w.frozen? ⟨b,0,none⟩=false):
  Calls Tryd.prog 81 #[.pointer (some ⟨b,0,none⟩)] w fun e w'=>e = .returned (.tuple #[])∧w'=w.setCell ⟨b,0,none⟩ (.pointer (some ⟨b,0,none⟩)):=by
 obtain ⟨j,hj,hjs⟩:=Option.map_eq_some_iff.1 bx169.sizeBuilder
 go_enter Tryd.func81,Tryd.ntmps81
 go_wp2
 rw [Lib.run_to_unsafe w ⟨b,0,none⟩ Tryd.underlying118 Tryd.underlying151 hj (by rw [hjs];decide) hsh (Nat.zero_lt_succ 1)];simp only [Result.andThen];rw [Oper.upon_value]
 go_wp2
 rw [run_callFunc_extern Tryd.func92 (by kernel_rfl) (by kernel_rfl) (by kernel_rfl) (e:=Extern.AbiNoEscape.same) (by kernel_rfl)];rw [Lib.run_noEscape];simp only [Result.andThen];rw [Oper.upon_value]
 go_wp2
 rw [Lib.run_from_unsafe w ⟨b,0,none⟩ Tryd.underlying151 Tryd.underlying118 hj hsh bx169.liesBuilder];simp only [Result.andThen];rw [Oper.upon_value]
 go_wp2
 go_end0
 exact ⟨rfl,rfl⟩
theorem b_check (B b:Nat) (bs:List Value) (w:World) (h:Lib.IsBuilderF 120 5 B b bs w):
  Calls Tryd.prog 81 #[.pointer (some ⟨b,0,none⟩)] w fun e w'=>e = .returned (.tuple #[])∧(Lib.BuilderAtF 120 5 B b (.pointer (some ⟨b,0,none⟩)) bs w'∧Below B w w'∧Lib.OthersKept 5 (some b) w w'):=by
 rcases h with h | h
 ·refine (b_fresh b w h.cell0 h.shape h.frozen0).mono ?_;rintro e w' ⟨rfl,rfl⟩;exact ⟨rfl,h.used _,(Below.refl B w).setCell (p:=⟨b,0,none⟩) h.1 _,(Lib.OthersKept.refl _ _ w).setCell ⟨b,0,none⟩ rfl _⟩
 ·refine (b_used b w h.cell0).mono ?_;rintro e w' ⟨rfl,rfl⟩;exact ⟨rfl,h,Below.refl B _,Lib.OthersKept.refl _ _ _⟩
set_option maxHeartbeats 2000000 in
set_option maxRecDepth 100000 in
theorem b_byte (B b:Nat) (bs:List Value) (c:Int) (w:World) (h:Lib.IsBuilderF 120 5 B b bs w) (hlen:bs.length+1≤140737488355328) (hBw:B≤w.heap.size):
  Calls Tryd.prog 65 #[.pointer (some ⟨b,0,none⟩),.int .u8 c] w fun e w'=>e = .returned .nilIface∧(Lib.BuilderAtF 120 5 B b (.pointer (some ⟨b,0,none⟩)) (bs++[.int .u8 c]) w'∧Below B w w'∧Lib.OthersKept 5 (some b) w w'):=by
 obtain ⟨i0,hi,hz0,hz1,hz2⟩:=info_parts bx169.infoByte
 go_enter Tryd.func65,Tryd.ntmps65
 go_wp2_with (go_at_call 81;refine (b_check B b bs _ h).mono ?_)
 rintro e w1 ⟨rfl,h1,hb1,hk1⟩;obtain ⟨hB,v,hbk,hown,hne⟩:=h1;have c0:w1.cell? ⟨b,0,none⟩=some (.pointer (some ⟨b,0,none⟩)):=by rw [Lib.cell_of_heap hbk];rfl
 have c1:w1.cell? ⟨b,1,none⟩=some v:=by rw [Lib.cell_of_heap hbk];rfl
 go_wp2_with (at_builtin;refine wpList_append_ownF _ rfl _ _ 29 rfl B 5 i0 (.int .u8 0) 1 1 Tryd.underlying29 hi hz0 hz1 hz2 rfl (by decide) _ _ _ rfl (hown.alloc _) ⟨w1.heap.size,0,none⟩ 1 1 [.int .u8 c] rfl rfl ?c1 ?c2 ?c3 ?c4 ?c5 ?_)
 case c1=>
  intro j u hj
  match j,hj with
  | 0,hj=>simp at hj;subst hj;simp [Addr.add]
 case c2=>intro u hu;simp at hu;subst hu;rfl
 case c3=>unfold maxLen;omega
 case c4=>omega
 case c5=>have:=hb1.size;simp;omega
 intro v' w2 hown' hgrow _;have hlt:b<w1.heap.size:=(Array.getElem?_eq_some_iff.1 hbk).1;have hb2:w2.heap[b]?=some (.cells #[.pointer (some ⟨b,0,none⟩),v] 120 (0,0)):=by
  rw [hgrow.block b (by simp;omega) (fun e=>hne e.symm),Lib.alloc_old w1 _ b hlt];exact hbk
 have d0:w2.cell? ⟨b,0,none⟩=some (.pointer (some ⟨b,0,none⟩)):=by rw [Lib.cell_of_heap hb2];rfl
 have d1:w2.cell? ⟨b,1,none⟩=some v:=by rw [Lib.cell_of_heap hb2];rfl
 have f1:w2.frozen? ⟨b,1,none⟩=false:=Lib.frozen_of_heap hb2 1;obtain ⟨g,cap,rfl⟩:∃g cap,v' = .slice (some ⟨g,0,none⟩) (bs.length+1) cap:=by
  rcases hown'.2 with ⟨_,h0⟩ | ⟨g,cap,cur,fz,hv,_⟩
  ·omega
  ·exact ⟨g,cap,hv⟩
 go_wp2
 go_ret
 refine ⟨rfl, ?_, ?_,((hk1.alloc _).grown hgrow (Lib.ownsRowF_kind (hown.alloc _))).setCell ⟨b,1,none⟩ rfl _⟩
 ·exact Lib.BuilderAtF.put (T:=120) (e:=5) hB hb2 (bs':=bs++[.int .u8 c]) (by simpa using hown') (by decide)
 ·exact ((hb1.alloc (by have:=hb1.size;omega) _).grown hgrow (by have:=hb1.size;simp;omega) (fun k hk=>(hown.lt k hk).1)).setCell (p:=⟨b,1,none⟩) hB _
set_option maxHeartbeats 2000000 in
set_option maxRecDepth 100000 in
theorem b_text (B b:Nat) (bs:List Value) (s:ByteArray) (w:World) (h:Lib.IsBuilderF 120 5 B b bs w) (hlen:bs.length+s.size≤140737488355328) (hBw:B≤w.heap.size):
  Calls Tryd.prog 64 #[.pointer (some ⟨b,0,none⟩),.string s] w fun e w'=>e = .returned (.tuple #[.int .i64 s.size,.nilIface])∧(Lib.BuilderAtF 120 5 B b (.pointer (some ⟨b,0,none⟩)) (bs++Lib.strCells s) w'∧Below B w w'∧Lib.OthersKept 5 (some b) w w'):=by
 obtain ⟨i0,hi,hz0,hz1,hz2⟩:=info_parts bx169.infoByte
 go_enter Tryd.func64,Tryd.ntmps64
 go_wp2_with (go_at_call 81;refine (b_check B b bs _ h).mono ?_)
 rintro e w1 ⟨rfl,h1,hb1,hk1⟩;obtain ⟨hB,v,hbk,hown,hne⟩:=h1;have c0:w1.cell? ⟨b,0,none⟩=some (.pointer (some ⟨b,0,none⟩)):=by rw [Lib.cell_of_heap hbk];rfl
 have c1:w1.cell? ⟨b,1,none⟩=some v:=by rw [Lib.cell_of_heap hbk];rfl
 go_wp2_with (at_builtin;refine Lib.wpList_append_own_stringF _ rfl _ _ 29 9 rfl B 5 i0 Tryd.underlying29 Tryd.underlying9 hi hz0 hz1 hz2 _ _ _ rfl hown s rfl ?c3 ?c4 ?c5 ?_)
 case c3=>unfold maxLen;omega
 case c4=>omega
 case c5=>have:=hb1.size;omega
 intro v' w2 hown' hgrow _;have hlt:b<w1.heap.size:=(Array.getElem?_eq_some_iff.1 hbk).1;have hb2:w2.heap[b]?=some (.cells #[.pointer (some ⟨b,0,none⟩),v] 120 (0,0)):=by
  rw [hgrow.block b hlt (fun e=>hne e.symm)];exact hbk
 have d0:w2.cell? ⟨b,0,none⟩=some (.pointer (some ⟨b,0,none⟩)):=by rw [Lib.cell_of_heap hb2];rfl
 have d1:w2.cell? ⟨b,1,none⟩=some v:=by rw [Lib.cell_of_heap hb2];rfl
 have f1:w2.frozen? ⟨b,1,none⟩=false:=Lib.frozen_of_heap hb2 1;obtain ⟨ao,n',cap,rfl⟩:∃ao n' cap,v' = .slice ao n' cap:=by
  rcases hown'.2 with ⟨hv,_⟩ | ⟨g,cap,cur,fz,hv,_⟩
  ·exact ⟨_,_,_,hv⟩
  ·exact ⟨_,_,_,hv⟩
 go_wp2
 go_ret2
 refine ⟨rfl, ?_, ?_,(hk1.grown hgrow (Lib.ownsRowF_kind hown)).setCell ⟨b,1,none⟩ rfl _⟩
 ·exact Lib.BuilderAtF.put (T:=120) (e:=5) hB hb2 (bs':=bs++Lib.strCells s) (by simpa [Lib.strCells_length] using hown') (by decide)
 ·exact (hb1.grown hgrow (by have:=hb1.size;omega) (fun k hk=>(hown.lt k hk).1)).setCell (p:=⟨b,1,none⟩) hB _
theorem ze3 (a:Addr) (k:Nat):(a.add k).block=a.block:=by unfold Addr.add;split <;> rfl
def zhq (w:World) (a:Addr) (xs:List SItem):Prop:=a.block<w.heap.size∧∀(i:Nat) (x:SItem),xs[i]?=some x →
 w.cell? (a.add (i*4))=some (.int .i64 x.1)∧w.cell? ⟨(a.add (i*4)).block,(a.add (i*4)).off+1,none⟩=some (.int .i64 x.2.1)∧w.cell? ⟨(a.add (i*4)).block,(a.add (i*4)).off+2,none⟩=some (.int .i64 x.2.2.1)∧w.cell? ⟨(a.add (i*4)).block,(a.add (i*4)).off+3,none⟩=some (.int .i64 x.2.2.2)
theorem zhq.below {w w':World} {a:Addr} {xs:List SItem} (h:zhq w a xs) {B:Nat} (hb:Below B w w') (hB:a.block<B) {i:Nat} {x:SItem} (hx:xs[i]?=some x):
  w'.cell? (a.add (i*4))=some (.int .i64 x.1)∧w'.cell? ⟨(a.add (i*4)).block,(a.add (i*4)).off+1,none⟩=some (.int .i64 x.2.1)∧w'.cell? ⟨(a.add (i*4)).block,(a.add (i*4)).off+2,none⟩=some (.int .i64 x.2.2.1)∧w'.cell? ⟨(a.add (i*4)).block,(a.add (i*4)).off+3,none⟩=some (.int .i64 x.2.2.2):=by
 obtain ⟨h0,h1,h2,h3⟩:=h.2 i x hx;refine ⟨?_, ?_, ?_, ?_⟩
 ·rw [hb.cell (by rw [ze3];exact hB)];exact h0
 ·rw [hb.cell (by show (a.add (i*4)).block<B;rw [ze3];exact hB)];exact h1
 ·rw [hb.cell (by show (a.add (i*4)).block<B;rw [ze3];exact hB)];exact h2
 ·rw [hb.cell (by show (a.add (i*4)).block<B;rw [ze3];exact hB)];exact h3
theorem zhm {B b:Nat} {bs:List Value} {W W':World} (h:Lib.IsBuilderF 120 5 B b bs W) (hb:Below W.heap.size W W'):Lib.IsBuilderF 120 5 B b bs W':=by
 have one:∀p,Lib.BuilderAtF 120 5 B b p bs W→Lib.BuilderAtF 120 5 B b p bs W':=fun p hp=>by
  have hlt:=hp.lt;obtain ⟨hB,v,hv,hown,hne⟩:=hp;exact ⟨hB,v,(hb.block b hlt).trans hv,hown.kept (row:=none) ⟨hb.os,hb.tape,hb.output,hb.size,fun k hk _=>hb.block k hk⟩ (Classical.em _),hne⟩
 exact h.elim (fun x=>.inl (one _ x)) (fun x=>.inr (one _ x))
theorem tab_below {B:Nat} {w w':World} (h:Lib.TabIs Tryd.prog w "internal/strconv.uint64pow10" .u64 Lib.pow10Tab) (hb:Below B w w') (hB:1<B):Lib.TabIs Tryd.prog w' "internal/strconv.uint64pow10" .u64 Lib.pow10Tab:=by
 unfold Lib.TabIs World.var? at *;have hg:Tryd.prog.globalNamed "internal/strconv.uint64pow10"=some 1:=by kernel_rfl
 rw [hg] at h ⊢;simp only [Option.bind_some] at h ⊢;rw [hb.block 1 hB];exact h
theorem alloc2 (w:World) (o1 o2:Obj):((w.alloc o1).alloc o2).heap[w.heap.size+1]?=some o2:=by
 have:=heap_alloc_new (w.alloc o1) o2
 rwa [show (w.alloc o1).heap.size=w.heap.size+1 by simp] at this
theorem keyN_snoc (l:List Int) (z:Int):ze9 (l++[z])=ze9 l++(Lib.itoa z++[32]):=by simp [ze9]
theorem keyS_snoc (l:List SItem) (x:SItem):keyS (l++[x])=keyS l++ze9 (zbs x):=by simp [keyS,ze9,zb7]
theorem zhe {l:List Int} (h:∀z∈l,InR .i64 z):(ze9 l).length≤22*l.length:=by
 induction l with
 | nil=>simp [ze9]
 | cons z l ih=>
  have h1:=zf7.1 (h z (by simp));have h2:=Lib.itoa_length_le z h1.1 h1.2;have h3:=ih fun y hy=>h y (by simp [hy]);have e:ze9 (z::l)=(Lib.itoa z++[32])++ze9 l:=by simp [ze9]
  rw [e];simp only [List.length_append,List.length_cons,List.length_nil];omega
theorem numsS_len (l:List SItem):(zb7 l).length=4*l.length:=by
 induction l with
 | nil=>rfl
 | cons x l ih=>simp only [zb7,List.flatMap_cons,List.length_append] at ih ⊢;rw [ih];simp [zbs];omega
set_option maxHeartbeats 4000000 in
set_option maxRecDepth 1000000 in
theorem key_walk (xs:List SItem) (a:Addr) (cap:Nat) (w:World) (hn:xs.length≤1000) (hz:∀x∈xs,∀z∈zbs x,InR .i64 z) (hc:zhq w a xs) (htab:Lib.TabIs Tryd.prog w "internal/strconv.uint64pow10" .u64 Lib.pow10Tab):
  Calls Tryd.prog 49 #[.slice (some a) xs.length cap] w fun e w'=>e = .returned (.string ⟨(keyS xs).toArray⟩)∧Below w.heap.size w w':=by
 have hpos:1<w.heap.size:=by
  have h:=htab;unfold Lib.TabIs World.var? at h;have hg:Tryd.prog.globalNamed "internal/strconv.uint64pow10"=some 1:=by kernel_rfl
  rw [hg] at h;simp only [Option.bind_some] at h;rcases Nat.lt_or_ge 1 w.heap.size with hh | hh
  ·exact hh
  ·rw [Array.getElem?_eq_none hh] at h;cases h
 have hlen:∀i,(keyS (xs.take i)).length≤88000:=fun i=>by
  have h1:=zhe (l:=zb7 (xs.take i)) fun z hzz=>by
   obtain ⟨x,hx,hzx⟩:=List.mem_flatMap.1 hzz;exact hz x (List.mem_of_mem_take hx) z hzx
  have h2:=numsS_len (xs.take i);have h3:(xs.take i).length≤xs.length:=by simp;omega
  show (ze9 (zb7 (xs.take i))).length≤_;omega
 go_enter Tryd.func49,Tryd.ntmps49
 go_wp2
 go_loopw [10] (fun v10 wr=>∃i:Nat,v10 = .int .i64 i∧i≤xs.length∧Lib.IsBuilderF 120 5 w.heap.size w.heap.size (Lib.byteCells (keyS (xs.take i))) wr∧Below w.heap.size w wr) (fun v10 _=>xs.length-(Lib.intOf v10).toNat)
 case atStart=>
  refine ⟨0,rfl,Nat.zero_le _,Lib.IsBuilderF.of (Lib.fresh_isBuilder 120 5 w),(Below.refl _ w).alloc (Nat.le_refl _) _⟩
 case round=>
  obtain ⟨i,rfl,hi,hB,hbw⟩:=hrel;obtain ⟨wo,hwo⟩:∃wo,wo=wr:=⟨wr,rfl⟩;subst hwo
  by_cases hlt:i<xs.length
  ·obtain ⟨x,hx⟩:∃x,xs[i]?=some x:=⟨xs[i],by simp [hlt]⟩;have hxm:x∈xs:=List.mem_of_getElem? hx;obtain ⟨c0,c1,c2,c3⟩:=hc.below hbw hc.1 hx;have hsz:=hbw.size;have hli:=hlen i
   go_wp2
   go_loopw [24] (fun v24 wi=>∃j:Nat,v24 = .int .i64 j∧j≤4∧Lib.IsBuilderF 120 5 w.heap.size w.heap.size (Lib.byteCells (keyS (xs.take i)++ze9 ((zbs x).take j))) wi∧wi.heap[wo.heap.size+1]?=some (.cells #[.int .i64 x.1,.int .i64 x.2.1,.int .i64 x.2.2.1,.int .i64 x.2.2.2] 3 (0,0))∧Below w.heap.size w wi) (fun v24 _=>4-(Lib.intOf v24).toNat)
   case atStart=>
    refine ⟨0,rfl,by omega, ?_, ?_, ?_⟩
    ·have:keyS (xs.take i)++ze9 ((zbs x).take 0)=keyS (xs.take i):=by simp [ze9]
     rw [this];exact (hB.alloc _).alloc _
    ·exact alloc2 wo _ _
    ·exact (hbw.alloc hsz _).alloc (by simp;omega) _
   case round=>
    obtain ⟨j,rfl,hj,hBi,hgi,hbi⟩:=hrel
    by_cases hjl:j<4
    ·obtain ⟨z,hzj⟩:∃z,(zbs x)[j]?=some z:=⟨(zbs x)[j]'(by simpa [zbs] using hjl),by simp [zbs,hjl]⟩;have hzr:=zf7.1 (hz x hxm z (List.mem_of_getElem? hzj));have hil:=Lib.itoa_length_le z hzr.1 hzr.2;have hll:(keyS (xs.take i)++ze9 ((zbs x).take j)).length≤88088:=by
      have h1:=zhe (l:=(zbs x).take j) fun y hy=>hz x hxm y (List.mem_of_mem_take hy);have h2:((zbs x).take j).length≤4:=by simp [zbs];omega
      rw [List.length_append];omega
     have hcell:wr.cell? ⟨wo.heap.size+1,j,none⟩=some (.int .i64 z):=by
      have e:(#[Value.int .i64 x.1,.int .i64 x.2.1,.int .i64 x.2.2.1,.int .i64 x.2.2.2]:Array Value)[j]?=((zbs x).map (Value.int .i64))[j]?:=by simp [zbs]
      rw [cell_of_row wr (wo.heap.size+1) _ _ 3 (0,0) hgi,e,List.getElem?_map,hzj];rfl
     have hszi:=hbi.size;have htk:keyS (xs.take i)++ze9 ((zbs x).take (j+1))=(keyS (xs.take i)++ze9 ((zbs x).take j))++(Lib.itoa z++[32]):=by
      rw [List.take_add_one,hzj,Option.toList_some,keyN_snoc,List.append_assoc]
     generalize hK:keyS (xs.take i)++ze9 ((zbs x).take j)=K at *
     go_wp2_with (go_at_call 42;refine (b_itoa z hzr.1 hzr.2 _ (tab_below htab hbi hpos)).mono ?_;rintro e w1 ⟨rfl,k,os,rfl⟩;refine Hid.out ?_)
     refine Lib.hid ?_;have hb1:Below wr.heap.size wr (Sort.grow (wr.drewN k) os):=Lib.below_grow _ wr (Nat.le_refl _) k os;generalize Sort.grow (wr.drewN k) os=W1 at *;have hB1:=zhm hBi hb1;have hgl:wo.heap.size+1<wr.heap.size:=(Array.getElem?_eq_some_iff.1 hgi).1;have hg1:=(hb1.block _ hgl).trans hgi;have hbi1:=hbi.trans (hb1.mono hszi);have hsz1:=hbi1.size
     go_wp2_with (go_at_call 64;refine (b_text w.heap.size w.heap.size _ ⟨(Lib.itoa z).toArray⟩ W1 hB1 (by rw [Lib.byteCells_length];show K.length+(Lib.itoa z).toArray.size≤_;simp;omega) hsz1).mono ?_;rintro e w2 ⟨rfl,h2,b2,k2⟩;refine Hid.out ?_)
     refine Lib.hid ?_;have hB2:Lib.IsBuilderF 120 5 w.heap.size w.heap.size (Lib.byteCells (K++Lib.itoa z)) w2:=by rw [Lib.byteCells_append];exact .inr h2
     have hg2:=k2 _ _ hg1 (by simp;omega) (by intro c fz he;cases he);have hsz2:=(hbi1.trans b2).size
     go_wp2_with (go_at_call 65;refine (b_byte w.heap.size w.heap.size _ 32 w2 hB2 (by rw [Lib.byteCells_length,List.length_append];omega) hsz2).mono ?_;rintro e w3 ⟨rfl,h3,b3,k3⟩;refine Hid.out ?_)
     refine Lib.hid ?_;have hB3:Lib.IsBuilderF 120 5 w.heap.size w.heap.size (Lib.byteCells (K++(Lib.itoa z++[32]))) w3:=by
      rw [← List.append_assoc,Lib.byteCells_append];exact .inr h3
     have hg3:=k3 _ _ hg2 (by simp;omega) (by intro c fz he;cases he);have hb3:=(hbi1.trans b2).trans b3
     go_wp2
     go_roundw
     case rel=>exact ⟨j+1,rfl,by omega,by rw [htk];exact hB3,hg3,hb3⟩
     case measure=>simp [Lib.intOf];omega
    ·have hj4:j=4:=by omega
     subst hj4
     go_wp2
     go_roundw
     case rel=>
      refine ⟨i+1,rfl,by omega, ?_,hbi⟩;have e:xs.take (i+1)=xs.take i++[x]:=by rw [List.take_add_one,hx];rfl
      rw [e,keyS_snoc];have e4:(zbs x).take 4=zbs x:=rfl;rw [e4] at hBi;exact hBi
     case measure=>simp [Lib.intOf];omega
  ·have hin:i=xs.length:=by omega
   subst hin
   go_wp2_with (go_at_call 66;refine (b_string w.heap.size w.heap.size _ _ hB hbw.size).mono ?_)
   rintro e W1 ⟨rfl,_,b1,_⟩
   go_wp2
   go_ret
   exact ⟨by simp,hbw.trans b1⟩
set_option maxHeartbeats 4000000 in
set_option maxRecDepth 1000000 in
theorem key_none (ad:Option Addr) (cap:Nat) (w:World):Calls Tryd.prog 49 #[.slice ad 0 cap] w fun e w'=>e = .returned (.string ⟨#[]⟩)∧Below w.heap.size w w':=by
 go_enter Tryd.func49,Tryd.ntmps49
 go_wp2
 go_loopw [10] (fun v10 wr=>v10 = .int .i64 0∧Lib.IsBuilderF 120 5 w.heap.size w.heap.size (Lib.byteCells []) wr∧Below w.heap.size w wr) (fun _ _=>0)
 case atStart=>
  exact ⟨rfl,Lib.IsBuilderF.of (Lib.fresh_isBuilder 120 5 w),(Below.refl _ w).alloc (Nat.le_refl _) _⟩
 case round=>
  obtain ⟨rfl,hB,hbw⟩:=hrel
  go_wp2_with (go_at_call 66;refine (b_string w.heap.size w.heap.size _ _ hB hbw.size).mono ?_)
  rintro e W1 ⟨rfl,_,b1,_⟩
  go_wp2
  go_ret
  exact ⟨rfl,hbw.trans b1⟩
theorem items_at {w:World} {S:Nat→Prop} {v:Value} {xs:List SItem} (h:SlV En.SItem w S v xs) (hS:∀b,S b→b<w.heap.size) (hne:xs≠[]):∃a cap,v = .slice (some a) xs.length cap∧zhq w a xs∧∀x∈xs,∀z∈zbs x,InR .i64 z:=by
 obtain ⟨ad,cap,rfl,h1,h2,h3,h4⟩:=h;obtain ⟨b,off,css,rfl,hb,hE,hc⟩:=h4 hne;have key:∀(i:Nat) (x:SItem),xs[i]?=some x→∃p q r t:Int,x=(p,q,r,t)∧InR .i64 p∧InR .i64 q∧InR .i64 r∧InR .i64 t∧css[i]?=some [.int .i64 p,.int .i64 q,.int .i64 r,.int .i64 t]:=by
  intro i x hx;have hlt:i<xs.length:=(List.getElem?_eq_some_iff.1 hx).1;obtain ⟨cs,hcs⟩:∃cs,css[i]?=some cs:=⟨css[i]'(by rw [hE.1];exact hlt),by simp⟩;obtain ⟨c0,r0,rfl,⟨rfl,i0⟩,c1,r1,rfl,⟨rfl,i1⟩,c2,c3,rfl,⟨rfl,i2⟩,⟨rfl,i3⟩⟩:=hE.2 i cs x hcs hx;exact ⟨_,_,_,_,rfl,i0,i1,i2,i3,hcs⟩
 refine ⟨⟨b,off,none⟩,cap,rfl,⟨hS b hb,fun i x hx=>?_⟩,fun x hx z hz=>?_⟩
 ·obtain ⟨p,q,r,t,rfl,_,_,_,_,hcs⟩:=key i x hx;have hf:=fun (j:Nat) (u:Value) (hu:[Value.int .i64 p,.int .i64 q,.int .i64 r,.int .i64 t][j]?=some u)=>hc _ u (zez hE.lens hcs hu);have hsz:En.SItem.sz=4:=rfl;rw [hsz] at hf;rw [zc3];refine ⟨hf 0 _ rfl, ?_, ?_, ?_⟩
  ·have:=hf 1 _ rfl;rw [← Nat.add_assoc] at this;exact this
  ·have:=hf 2 _ rfl;rw [← Nat.add_assoc] at this;exact this
  ·have:=hf 3 _ rfl;rw [← Nat.add_assoc] at this;exact this
 ·obtain ⟨i,hi⟩:=List.getElem?_of_mem hx;obtain ⟨p,q,r,t,rfl,i0,i1,i2,i3,_⟩:=key i x hi;simp only [zbs,List.mem_cons,List.not_mem_nil,or_false] at hz;rcases hz with rfl | rfl | rfl | rfl <;> assumption
theorem keyS_len {l:List SItem} (h:∀x∈l,∀z∈zbs x,InR .i64 z):(keyS l).length≤88*l.length:=by
 have h1:=zhe (l:=zb7 l) fun z hzz=>by
  obtain ⟨x,hx,hzx⟩:=List.mem_flatMap.1 hzz;exact h x hx z hzx
 have h2:=numsS_len l;show (ze9 (zb7 l)).length≤_;omega
theorem item_Key_ok {s_:(List SItem)} {r_:Str} (h:item_Key s_ r_):Fn Tryd.prog 49 [(Pd.rep (En.slice En.SItem) s_)] (Rq (Pd.rep En.str r_)):=by
 obtain ⟨hn,rfl⟩:=h;refine ⟨zhk Tryd.func49 rfl (by rfl),fun s vs hgl hv=>?_⟩
 match vs,hv with
 | [v],⟨hv,_⟩=>
  have hsl:=zbp.1 hv;have fin:∀(x:Str) (w':World),x.length≤9223372036854775807→Below s.w.heap.size s.w w'→∃(v:Value) (s':St),Ending.returned (.string ⟨x.toArray⟩) = .returned v∧s'.w=w'∧Ex s s'∧Rq (Pd.rep En.str x) s s' v:=fun x w' hx hb=>
   ⟨_,⟨w',s.X,fun b hb'=>Nat.lt_of_lt_of_le (s.lt b hb') hb.size⟩,rfl,rfl,⟨⟨DR.kit,hb.os,hb.tape,hb.output,hb.size,fun b hb' _=>hb.block b hb',fun _ h=>h.elim,fun b h=>.inl h⟩,fun b h=>h⟩,rep_str.2 ⟨rfl,hx⟩⟩
  by_cases hne:s_=[]
  ·subst hne;obtain ⟨ad,cap,rfl,_⟩:=hsl;refine (key_none ad cap s.w).mono fun e w' ⟨he,hb⟩=>?_;subst he;exact fin [] w' (by simp) hb
  ·obtain ⟨a,cap,rfl,hat,hz⟩:=items_at hsl (fun b hb=>hb.1) hne;have htab:Lib.TabIs Tryd.prog s.w "internal/strconv.uint64pow10" .u64 Lib.pow10Tab:=by
    obtain ⟨_,t,fr,h2⟩:=hgl.1 _ (by unfold gtab;exact List.mem_cons_self);unfold Lib.TabIs World.var?;have hg:Tryd.prog.globalNamed "internal/strconv.uint64pow10"=some 1:=by kernel_rfl
    rw [hg];simp only [Option.bind_some];rw [h2];simp [Lib.pow10Tab]
   have hl:=keyS_len hz;refine (key_walk s_ a cap s.w hn hz hat htab).mono fun e w' ⟨he,hb⟩=>?_;subst he;exact fin _ w' (by omega) hb
end Go.Proofs.YtaknifhhnhcchaaDoor.V
namespace Go.Proofs.YtaknifhhnhcchaaDoor.V
open Go
set_option linter.unusedVariables false
set_option maxRecDepth 100000
set_option maxHeartbeats 2000000
set_option synthInstance.maxSize 100000
set_option synthInstance.maxHeartbeats 200000
theorem zcb {slices_:(List (List SItem))} {r_:(List SItem)} (h:zb slices_ r_):Fn Tryd.prog 57 [(Pd.rep (En.slice (En.slice En.SItem)) slices_)] (Ro En.SItem 47 r_):=by
 unfold zb at h;refine zby Tryd.func57 J Tryd.ntmps57 (by rfl) (by simp) fun s0 a L=>?_;refine rs (sno En.SItem 47 L fun a s L=>?_);refine es (rA 1 L fun a s L=>?_);refine wp_seq_k fun K1 H1=>rA 3 L fun a s L=>?_;refine wp_block ?_;have J3:∀(size2:Int) (a:Act) (s:St),Has N0 36 s0 a s [(0,(Pd.rep (En.slice (En.slice En.SItem)) slices_)),(3,(Pi size2))]→((zb.j2 slices_ r_) size2)→K1 a s.w:=by
  intro size2 a s L h;unfold zb.j2 at h;show K1 a s.w;refine H1 _ _ ?_;obtain ⟨r4,h5,h⟩:=h;refine rs (sA 1 L fun a s L=>?_);refine st_callo 24 L (zch h5) opz J J J J fun a s og6 hg_ L=>?_;refine sA 1 L fun a s L=>?_;refine es (wp_seq_k fun K7 H7=>?_);refine rA 3 L fun a s L=>?_;refine wp_block ?_;have J10:∀(newslice8:(List SItem)) (og9:Option Nat) (a:Act) (s:St),Has N0 36 s0 a s [(6,(Pd.row En.SItem s0.w.heap.size 47 og9 newslice8))]→((zb.j1 r_) newslice8)→K7 a s.w:=by
   intro newslice8 og9 a s L h;unfold zb.j1 at h;show K7 a s.w;refine H7 _ _ (rA 2 L fun a s L=>?_);subst h;exact wp_ret (ze6 J L J)
  obtain ⟨k14,h⟩:=h;refine lpn (fun k15 a s=>∃(newslice11:(List SItem)) (v13:Int) (og12:Option Nat),Has N0 36 s0 a s [(6,(Pd.row En.SItem s0.w.heap.size 47 og12 newslice11)),(25,(Pd.rep (En.slice (En.slice En.SItem)) slices_)),(26,(Pi (slices_.length:Int))),(27,(Pi v13))]∧zb.l1 slices_ (zb.j1 r_) k15 newslice11 v13) k14 ⟨r4,0,og6,L.kk,h⟩ ?_;rintro k15 a s ⟨newslice11,v13,og12,L,h⟩ KL16 hKL16;unfold zb.l1 at h;refine rA 1 L fun a s L=>?_;refine wp_seq_k fun K17 H17=>cn L h (fun h=>?_) fun h=>?_
  ·refine wp_skip (H17 _ _ ?_);refine wp_seq_k fun K18 H18=>wp_block ?_;obtain ⟨e19,h20,h⟩:=h;refine ra 3 (p1 h20) L fun a s L=>?_;obtain ⟨h21,h⟩:=h;refine rg (sA 2 L fun a s L=>?_);refine zcy 33 L op op Ud.h Tq.h h21 J J J J ka fun a s og22 hg_ L=>?_;refine sA 1 L fun a s L=>?_;refine en' (H18 _ _ ?_);obtain ⟨h23,h⟩:=h;refine rg (sA 2 L fun a s L=>?_);refine en' ?_;exact hKL16 a s ⟨(newslice11++e19),(v13+1),og22,L.kk,h⟩
  ·refine wp_exit ?_;exact J10 newslice11 og12 a s (L.kk) h
 obtain ⟨k26,h⟩:=h;refine lpn (fun k27 a s=>∃(size24:Int) (v25:Int),Has N0 36 s0 a s [(0,(Pd.rep (En.slice (En.slice En.SItem)) slices_)),(3,(Pi size24)),(9,(Pd.rep (En.slice (En.slice En.SItem)) slices_)),(10,(Pi (slices_.length:Int))),(11,(Pi v25))]∧zb.l2 slices_ (zb.j2 slices_ r_) k27 size24 v25) k26 ⟨0,0,L.kk,h⟩ ?_;rintro k27 a s ⟨size24,v25,L,h⟩ KL28 hKL28;unfold zb.l2 at h;refine rA 1 L fun a s L=>?_;refine wp_seq_k fun K29 H29=>cn L h (fun h=>?_) fun h=>?_
 ·refine wp_skip (H29 _ _ ?_);refine wp_seq_k fun K30 H30=>wp_block ?_;obtain ⟨e31,h32,h⟩:=h;refine ra 3 (p1 h32) L fun a s L=>?_;obtain ⟨h33,h⟩:=h;refine rA 5 L fun a s L=>?_;refine rA 2 L fun a s L=>?_;refine cn L h (fun h=>?_) fun h=>?_
  ·exact h.elim
  ·refine wp_skip (H30 _ _ ?_);obtain ⟨h34,h⟩:=h;refine rg (sA 2 L fun a s L=>?_);refine en' ?_;exact hKL28 a s ⟨(size24+(e31.length:Int)),(v25+1),L.kk,h⟩
 ·refine wp_exit ?_;exact J3 size24 a s (L.kk) h
theorem zce {s_:(List SItem)} {r_:(List SItem)} (h:zbf s_ r_):Fn Tryd.prog 50 [(Pd.rep (En.slice En.SItem) s_)] (Ro En.SItem 47 r_):=by
 unfold zbf at h;refine zby Tryd.func50 J Tryd.ntmps50 (by rfl) (by simp) fun s0 a L=>?_;refine rs (sno En.SItem 47 L fun a s L=>?_);refine es (wp_seq_k fun K1 H1=>?_);refine rs (sA 1 L fun a s L=>?_);refine sv (t_isnil op Ud.h J J) L fun a s L=>?_;obtain ⟨b2,h3,L⟩:=L.nilq 4 rfl;replace h:=h b2 h3;refine es (cn L h (fun h=>?_) fun h=>?_)
 ·refine rs ?_;refine sno En.SItem 47 L fun a s L=>?_;refine es ?_;subst h;exact wp_ret (ze6 J L J)
 ·refine wp_skip (H1 _ _ ?_);obtain ⟨h5,h⟩:=h;refine rs (st_new En.SItem 5 L Ud.h Tq.h J J J J fun a s g4 hg_ L=>?_);refine sA 1 L fun a s L=>?_;refine zcy 7 L op op Ud.h Tq.h h5 J J J J ka fun a s og6 hg_ L=>?_;refine sA 1 L fun a s L=>?_;refine es ?_;subst h;exact wp_ret (ze6 J L J)
set_option maxRecDepth 100000
set_option maxHeartbeats 2000000
set_option synthInstance.maxSize 100000
set_option synthInstance.maxHeartbeats 200000
theorem zcc {s_:Str} {i_:Int} {from_:Int} {to_:Int} {r_:Bool} (h:zcs s_ i_ from_ to_ r_):Fn Tryd.prog 91 [(Pd.rep En.str s_),(Pi i_),(Pi from_),(Pi to_)] (Rq (Pd.rep En.bool r_)):=by
 unfold zcs at h;refine zby Tryd.func91 J Tryd.ntmps91 (by rfl) (by simp) fun s0 a L=>?_;refine rA 1 L fun a s L=>?_;obtain ⟨c1,h2,b3,h4,c5,h6,h⟩:=h;refine ra 21 (pp h2 (pp h4 (p1 h6))) L fun a s L=>?_;subst h;exact wp_ret (zb5 J L J)
theorem zg8 {s_:Str} {r_:Bool} (h:zp s_ r_):Fn Tryd.prog 80 [(Pd.rep En.str s_)] (Rq (Pd.rep En.bool r_)):=by
 unfold zp at h;refine zby Tryd.func80 J Tryd.ntmps80 (by rfl) (by simp) fun s0 a L=>?_;refine rA 1 L fun a s L=>?_;refine rA 1 L fun a s L=>?_;refine wp_seq_k fun K1 H1=>wp_block ?_;have J2:∀(a:Act) (s:St),Has N0 148 s0 a s []→((zp.j1 r_))→K1 a s.w:=by
  intro a s L h;unfold zp.j1 at h;show K1 a s.w;refine H1 _ _ (rA 1 L fun a s L=>?_);subst h;exact wp_ret (zb5 J L J)
 obtain ⟨k4,h⟩:=h;refine lpn (fun k5 a s=>∃(i3:Int),Has N0 148 s0 a s [(0,(Pd.rep En.str s_)),(3,(Pi i3))]∧zp.l1 s_ r_ (zp.j1 r_) k5 i3) k4 ⟨0,L.kk,h⟩ ?_;rintro k5 a s ⟨i3,L,h⟩ KL6 hKL6;unfold zp.l1 at h;refine wp_seq_k fun K7 H7=>rA 4 L fun a s L=>?_;refine cn L h (fun h=>?_) fun h=>?_
 ·refine wp_skip (H7 _ _ ?_);refine wp_block ?_;obtain ⟨c8,h9,h⟩:=h;refine ra 5 (p1 h9) L fun a s L=>?_;obtain ⟨h10,r11,h12,h⟩:=h;refine ra 5 (p1 (zcc h12)) L fun a s L=>?_;obtain ⟨h13,r14,h15,h⟩:=h;refine ra 5 (p1 (zcc h15)) L fun a s L=>?_;obtain ⟨h16,r17,h18,h⟩:=h;refine ra 5 (p1 (zcc h18)) L fun a s L=>?_;refine wp_block (rA 3 L fun a s L=>?_);refine cn L h (fun h=>?_) fun h=>?_
  ·obtain ⟨h19,h⟩:=h;refine rg (sA 3 L fun a s L=>?_);refine en' ?_;exact hKL6 a s ⟨(i3+1),L.kk,h⟩
  ·obtain ⟨b20,h21,h⟩:=h;refine ra 10 (p1 h21) L fun a s L=>?_;refine cn L h (fun h=>?_) fun h=>?_
   ·obtain ⟨h22,h⟩:=h;refine rg (sA 3 L fun a s L=>?_);refine en' ?_;exact hKL6 a s ⟨(i3+2),L.kk,h⟩
   ·obtain ⟨h23,r24,h25,h⟩:=h;refine ra 12 (pp (fun hc_=>(zcc (h25 hc_))) trivial) L fun a s L=>?_;refine cn L h (fun h=>?_) fun h=>?_
    ·obtain ⟨h26,h⟩:=h;refine rg (sA 3 L fun a s L=>?_);refine en' ?_;exact hKL6 a s ⟨(i3+3),L.kk,h⟩
    ·obtain ⟨b27,h28,h⟩:=h;refine ra 21 (p1 h28) L fun a s L=>?_;refine cn L h (fun h=>?_) fun h=>?_
     ·obtain ⟨h29,h⟩:=h;refine rg (sA 3 L fun a s L=>?_);refine en' ?_;exact hKL6 a s ⟨(i3+3),L.kk,h⟩
     ·obtain ⟨h30,r31,h32,h⟩:=h;refine ra 12 (pp (fun hc_=>(zcc (h32 hc_))) trivial) L fun a s L=>?_;refine cn L h (fun h=>?_) fun h=>?_
      ·obtain ⟨h33,h⟩:=h;refine rg (sA 3 L fun a s L=>?_);refine en' ?_;exact hKL6 a s ⟨(i3+3),L.kk,h⟩
      ·obtain ⟨h34,r35,h36,h⟩:=h;refine ra 15 (pp (fun hc_=>(zcc (h36 hc_))) trivial) L fun a s L=>?_;refine cn L h (fun h=>?_) fun h=>?_
       ·obtain ⟨h37,h⟩:=h;refine rg (sA 3 L fun a s L=>?_);refine en' ?_;exact hKL6 a s ⟨(i3+4),L.kk,h⟩
       ·obtain ⟨b38,h39,h⟩:=h;refine ra 16 (p1 h39) L fun a s L=>?_;refine cn L h (fun h=>?_) fun h=>?_
        ·obtain ⟨h40,h⟩:=h;refine rg (sA 3 L fun a s L=>?_);refine en' ?_;exact hKL6 a s ⟨(i3+4),L.kk,h⟩
        ·obtain ⟨h41,r42,h43,h⟩:=h;refine ra 15 (pp (fun hc_=>(zcc (h43 hc_))) trivial) L fun a s L=>?_;refine cn L h (fun h=>?_) fun h=>?_
         ·obtain ⟨h44,h⟩:=h;refine rg (sA 3 L fun a s L=>?_);refine en' ?_;exact hKL6 a s ⟨(i3+4),L.kk,h⟩
         ·refine rA 1 L fun a s L=>?_;subst h;exact wp_ret (zb5 J L J)
 ·refine wp_exit ?_;exact J2 a s (L.kk) h
set_option maxRecDepth 100000
set_option maxHeartbeats 2000000
set_option synthInstance.maxSize 100000
set_option synthInstance.maxHeartbeats 200000
theorem zdc {l_:(List SNode)} {by_:Int} {r_:(List SNode)} (h:zh l_ by_ r_):Fn Tryd.prog 45 [(Pd.rep (En.slice En.SNode) l_),(Pi by_)] (Ro En.SNode 69 r_):=by
 unfold zh at h;refine zby Tryd.func45 J Tryd.ntmps45 (by rfl) (by simp) fun s0 a L=>?_;refine rs (sno En.SNode 69 L fun a s L=>?_);refine es (rs ?_);refine sno En.SNode 69 L fun a s L=>?_;refine es (wp_seq_k fun K1 H1=>?_);refine rA 1 L fun a s L=>?_;refine wp_block ?_;have J4:∀(out2:(List SNode)) (og3:Option Nat) (a:Act) (s:St),Has N0 44 s0 a s [(5,(Pd.row En.SNode s0.w.heap.size 69 og3 out2))]→((zh.j1 r_) out2)→K1 a s.w:=by
  intro out2 og3 a s L h;unfold zh.j1 at h;show K1 a s.w;refine H1 _ _ (rA 2 L fun a s L=>?_);subst h;exact wp_ret (ze6 J L J)
 obtain ⟨k8,h⟩:=h;refine lpn (fun k9 a s=>∃(out5:(List SNode)) (i7:Int) (og6:Option Nat),Has N0 44 s0 a s [(0,(Pd.rep (En.slice En.SNode) l_)),(1,(Pi by_)),(5,(Pd.row En.SNode s0.w.heap.size 69 og6 out5)),(6,(Pi i7))]∧zh.l1 l_ by_ (zh.j1 r_) k9 out5 i7) k8 ⟨([]:(List SNode)),0,none,L.kk,h⟩ ?_;rintro k9 a s ⟨out5,i7,og6,L,h⟩ KL10 hKL10;unfold zh.l1 at h;refine wp_seq_k fun K11 H11=>rA 4 L fun a s L=>?_;refine cn L h (fun h=>?_) fun h=>?_
 ·refine wp_skip (H11 _ _ ?_);refine wp_seq_k fun K12 H12=>wp_block ?_;obtain ⟨e13,h14,h⟩:=h;refine rs (sl 4 (p1 h14) L fun a s L=>?_);have lt_d16:=L.rlt 5 rfl;refine zbj En.SNode (z:=(0,0,0,0,0,(0#256),([]:Str))) 7 L zfj J J J J fun a s g15 hg_ L=>?_;have d16:=Dis.newg hg_ lt_d16;refine sB 7 L fun s L=>?_;refine es (wp_seq_k fun K17 H17=>?_);refine rA 3 L fun a s L=>?_;have J19:∀(n18:SNode) (a:Act) (s:St),Has N0 44 s0 a s [(0,(Pd.rep (En.slice En.SNode) l_)),(1,(Pi by_)),(5,(Pd.row En.SNode s0.w.heap.size 69 og6 out5)),(6,(Pi i7)),(7,(Pd.box En.SNode s0.w.heap.size g15 n18))]→Dis og6 (some g15)→((zh.j3 (zh.l1 l_ by_ (zh.j1 r_) k9) by_ out5 i7) n18)→K17 a s.w:=by
   intro n18 a s L d20 h;unfold zh.j3 at h;show K17 a s.w;refine H17 _ _ (wp_seq_k fun K21 H21=>?_);refine rA 8 L fun a s L=>?_;have J23:∀(n22:SNode) (a:Act) (s:St),Has N0 44 s0 a s [(0,(Pd.rep (En.slice En.SNode) l_)),(1,(Pi by_)),(5,(Pd.row En.SNode s0.w.heap.size 69 og6 out5)),(6,(Pi i7)),(7,(Pd.box En.SNode s0.w.heap.size g15 n22))]→Dis og6 (some g15)→((zh.j2 (zh.l1 l_ by_ (zh.j1 r_) k9) out5 i7) n22)→K21 a s.w:=by
    intro n22 a s L d24 h;unfold zh.j2 at h;show K21 a s.w;refine H21 _ _ ?_;obtain ⟨h25,h⟩:=h;refine rg (sA 3 L fun a s L=>?_);refine zcy 42 L op op Ud.h Tq.h h25 J J J J ka fun a s og26 hg_ L=>?_;refine sA 1 L fun a s L=>?_;refine en' (H12 _ _ ?_);obtain ⟨h27,h⟩:=h;refine rg (sA 3 L fun a s L=>?_);refine en' ?_;exact hKL10 a s ⟨(out5++[n22]),(i7+1),og26,L.kk,h⟩
   refine cn L h (fun h=>?_) fun h=>?_
   ·obtain ⟨h28,h⟩:=h;refine rg (sA 5 L fun a s L=>?_);refine zda 7 L J op op (zj (zj (zq (zl _ _ _)) J) J) Tq.h J J J ka fun s L=>?_;refine en' ?_;exact J23 (n18.1,n18.2.1,n18.2.2.1+by_,n18.2.2.2.1,n18.2.2.2.2.1,n18.2.2.2.2.2.1,n18.2.2.2.2.2.2) a s (L.kk) d20 h
   ·refine wp_skip ?_;exact J23 n18 a s (L.kk) d20 h
  refine cn L h (fun h=>?_) fun h=>?_
  ·obtain ⟨h29,h⟩:=h;refine rg (sA 5 L fun a s L=>?_);refine zda 7 L J op op (zj (zq (zl _ _ _)) J) Tq.h J J J ka fun s L=>?_;refine en' ?_;exact J19 (e13.1,e13.2.1+by_,e13.2.2.1,e13.2.2.2.1,e13.2.2.2.2.1,e13.2.2.2.2.2.1,e13.2.2.2.2.2.2) a s (L.kk) (Dis.symm d16) h
  ·refine wp_skip ?_;exact J19 e13 a s (L.kk) (Dis.symm d16) h
 ·refine wp_exit ?_;exact J4 out5 og6 a s (L.kk) h
theorem zg5 {kind_:Int} {lo_:Int} {hi_:Int} {a_:SDesc} {r_:SDesc} (h:zd5 kind_ lo_ hi_ a_ r_):Fn Tryd.prog 24 [(Pi kind_),(Pi lo_),(Pi hi_),(Pd.rep En.SDesc a_)] (Rq (Pd.rep En.SDesc r_)):=by
 unfold zd5 at h;refine zby Tryd.func24 J Tryd.ntmps24 (by rfl) (by simp) fun s0 a L=>?_;refine rs (sA 1 L fun a s L=>?_);refine zbj En.SDesc (z:=[]) 8 L zga J J J J fun a s g1 hg_ L=>?_;refine es ?_;obtain ⟨r4,h5,h6,h9,h⟩:=h;refine wp_seq ?_;obtain ⟨K2,H2,nK2,L⟩:=L.mark 999983;have lt3:∀k,(some g1)=some k→k<K2:=by rw [H2];exact L.blt 8 rfl
 refine rda zcm 12 [(Pd.ptr (En.slice En.SNode) a_),(Pd.rep (En.slice En.SNode) a_),(Pd.erow En.SNode s0.w.heap.size K2 69 r4),(Pi kind_),(Pd.ptr (En.slice En.SNode) a_),(Pd.rep (En.slice En.SNode) a_),(Pi (a_.length:Int)),(Pi ((a_.length:Int)-1)),(Pi lo_),(Pi hi_),(Pd.rep En.SNode (kind_,(a_.length:Int)-1,0,lo_,hi_,(0#256),([]:Str))),(Pd.rep (En.slice En.SNode) [(kind_,(a_.length:Int)-1,0,lo_,hi_,(0#256),([]:Str))])] L (by kernel_rfl) J J ?_ ?_
 ·refine zn.cons (zgc (off:=0) (O 7 J) Tryd.underlying41 J (zdk (zk _ _)) J ty39 J J) ?_;refine zn.cons (zbd ty39 (O 9 J) J J) ?_;refine zn.cons (t_callox (K:=K2) (m:=999983) J nK2 (zdc h5) (xs:=[.tmp 10,.const (.int .i64 0)]) (.cons (O 10 J) (.cons oI .nil)) J J) ?_;refine zn.cons (ze (O 0 J) J J) ?_;refine zn.cons (zgc (off:=0) (O 7 J) Tryd.underlying41 J (zdk (zk _ _)) J ty39 J J) ?_;refine zn.cons (zbd ty39 (O 13 J) J J) ?_;refine zn.cons (zeh (O 14 J) Tryd.underlying39 J J) ?_;refine zn.cons (t_sub (O 15 J) oI h6 J J) ?_;refine zn.cons (ze (O 1 J) J J) ?_;refine zn.cons (ze (O 2 J) J J) ?_;refine zn.cons (zbn (x:=(kind_,(a_.length:Int)-1,0,lo_,hi_,(0#256),([]:Str))) (ps:=[(0,.tmp 12),(1,.tmp 16),(3,.tmp 17),(4,.tmp 18)]) zfj J stt69 (.cons (i:=0) (O 12 J) J (zq (zl _ _ _)) (.cons (i:=1) (O 16 J) J (zj (zq (zl _ _ _)) J) (.cons (i:=3) (O 17 J) J (zj (zj (zj (zq (zl _ _ _)) J) J) J) (.cons (i:=4) (O 18 J) J (zj (zj (zj (zj (zq (zl _ _ _)) J) J) J) J) .nil)))) J J) ?_;refine zn.cons (zdu (xs:=[.tmp 19]) (.cons (O 19 J) .nil) Tryd.underlying39 ty69 J J (by decide) J J) ?_;exact zn.nil
 intro a s _ L;obtain ⟨og7,hg_,L⟩:=L.openr 11 rfl;have d8:=Dis.new hg_ lt3;replace L:=L.kk (L':=[(8,(Pd.box En.SDesc s0.w.heap.size g1 [])),(11,(Pd.row En.SNode s0.w.heap.size 69 og7 r4)),(20,(Pd.rep (En.slice En.SNode) [(kind_,(a_.length:Int)-1,0,lo_,hi_,(0#256),([]:Str))]))]);refine dp ?_;have lt_og10_0:=L.blt 8 rfl;refine zcy 21 L op op Ud.h Tq.h h9 J J J J ka fun a s og10 hg_ L=>?_;have d11:=Dis.app hg_ d8 lt_og10_0;refine fzl 21 L fun s L=>?_;refine sv (zbn (x:=r4++[(kind_,(a_.length:Int)-1,0,lo_,hi_,(0#256),([]:Str))]) (ps:=[(0,.tmp 21)]) zga J stt41 (.cons (i:=0) op J (zfo (zl _ _ _)) .nil) J J) L fun a s L=>?_;refine sB 8 L fun s L=>?_;refine es ?_;subst h;exact wp_ret (retb J zeb L J)
theorem zg6 {kind_:Int} {a_:SDesc} {b_:SDesc} {r_:SDesc} (h:zd6 kind_ a_ b_ r_):Fn Tryd.prog 25 [(Pi kind_),(Pd.rep En.SDesc a_),(Pd.rep En.SDesc b_)] (Rq (Pd.rep En.SDesc r_)):=by
 unfold zd6 at h;refine zby Tryd.func25 J Tryd.ntmps25 (by rfl) (by simp) fun s0 a L=>?_;refine rs (sA 2 L fun a s L=>?_);refine zbj En.SDesc (z:=[]) 6 L zga J J J J fun a s g1 hg_ L=>?_;refine es ?_;obtain ⟨r4,h5,r6,h7,h10,h⟩:=h;refine wp_seq ?_;obtain ⟨K2,H2,nK2,L⟩:=L.mark 999983;have lt3:∀k,(some g1)=some k→k<K2:=by rw [H2];exact L.blt 6 rfl
 refine rda zcm 9 [(Pd.ptr (En.slice En.SNode) a_),(Pd.rep (En.slice En.SNode) a_),(Pd.erow En.SNode s0.w.heap.size K2 69 r4),(Pd.ptr (En.slice En.SNode) b_),(Pd.rep (En.slice En.SNode) b_),(Pd.ptr (En.slice En.SNode) a_),(Pd.rep (En.slice En.SNode) a_),(Pi (a_.length:Int)),(Pd.rep (En.slice En.SNode) r6)] L (by kernel_rfl) J J ?_ ?_
 ·refine zn.cons (zgc (off:=0) (O 4 J) Tryd.underlying41 J (zdk (zk _ _)) J ty39 J J) ?_;refine zn.cons (zbd ty39 (O 8 J) J J) ?_;refine zn.cons (t_callox (K:=K2) (m:=999983) J nK2 (zdc h5) (xs:=[.tmp 9,.const (.int .i64 0)]) (.cons (O 9 J) (.cons oI .nil)) J J) ?_;refine zn.cons (zgc (off:=0) (O 5 J) Tryd.underlying41 J (zdk (zk _ _)) J ty39 J J) ?_;refine zn.cons (zbd ty39 (O 11 J) J J) ?_;refine zn.cons (zgc (off:=0) (O 4 J) Tryd.underlying41 J (zdk (zk _ _)) J ty39 J J) ?_;refine zn.cons (zbd ty39 (O 13 J) J J) ?_;refine zn.cons (zeh (O 14 J) Tryd.underlying39 J J) ?_;refine zn.cons (zx ((zdc h7).frz) (xs:=[.tmp 12,.tmp 15]) (.cons (O 12 J) (.cons (O 15 J) .nil)) J J) ?_;exact zn.nil
 intro a s _ L;obtain ⟨og8,hg_,L⟩:=L.openr 10 rfl;have d9:=Dis.new hg_ lt3;replace L:=L.kk (L':=[(0,(Pi kind_)),(4,(Pd.ptr En.SDesc a_)),(5,(Pd.ptr En.SDesc b_)),(6,(Pd.box En.SDesc s0.w.heap.size g1 [])),(10,(Pd.row En.SNode s0.w.heap.size 69 og8 r4)),(16,(Pd.rep (En.slice En.SNode) r6))]);refine dp ?_;have lt_og11_0:=L.blt 6 rfl;refine zcy 17 L op op Ud.h Tq.h h10 J J J J ka fun a s og11 hg_ L=>?_;have d12:=Dis.app hg_ d9 lt_og11_0;refine sA 1 L fun a s L=>?_;refine es ?_;obtain ⟨h13,h14,h15,h16,h⟩:=h;refine rs (sA 14 L fun a s L=>?_);refine sv (zbn (x:=(kind_,(a_.length:Int)-1,((a_.length:Int)+(b_.length:Int))-1,0,0,(0#256),([]:Str))) (ps:=[(0,.tmp 19),(1,.tmp 23),(2,.tmp 31)]) zfj J stt69 (.cons (i:=0) op J (zq (zl _ _ _)) (.cons (i:=1) op J (zj (zq (zl _ _ _)) J) (.cons (i:=2) op J (zj (zj (zq (zl _ _ _)) J) J) .nil))) J J) L fun a s L=>?_;refine sA 1 L fun a s L=>?_;have lt_og17_0:=L.blt 6 rfl;refine zcy 34 L op op Ud.h Tq.h h16 J J J J ka fun a s og17 hg_ L=>?_;have d18:=Dis.app hg_ d12 lt_og17_0;refine fzl 34 L fun s L=>?_;refine sv (zbn (x:=(r4++r6)++[(kind_,(a_.length:Int)-1,((a_.length:Int)+(b_.length:Int))-1,0,0,(0#256),([]:Str))]) (ps:=[(0,.tmp 34)]) zga J stt41 (.cons (i:=0) op J (zfo (zl _ _ _)) .nil) J J) L fun a s L=>?_;refine sB 6 L fun s L=>?_;refine es ?_;subst h;exact wp_ret (retb J zeb L J)
theorem ref04_Few_ok {d_:SDesc} {r_:Bool} (h:zbk d_ r_):Fn Tryd.prog 11 [(Pd.rep En.SDesc d_)] (Rq (Pd.rep En.bool r_)):=by
 unfold zbk at h;refine zby Tryd.func11 J Tryd.ntmps11 (by rfl) (by simp) fun s0 a L=>?_;refine rA 2 L fun a s L=>?_;refine rA 1 L fun a s L=>?_;refine wp_seq_k fun K1 H1=>rA 1 L fun a s L=>?_;refine wp_block ?_;have J3:∀(n2:Int) (a:Act) (s:St),Has N0 33 s0 a s [(1,(Pd.ptr En.SDesc d_)),(3,(Pi n2))]→((zbk.j1 d_ r_) n2)→K1 a s.w:=by
  intro n2 a s L h;unfold zbk.j1 at h;show K1 a s.w;refine H1 _ _ ?_;obtain ⟨b4,h5,h⟩:=h;refine ra 9 (p1 h5) L fun a s L=>?_;subst h;exact wp_ret (zb5 J L J)
 obtain ⟨k8,h⟩:=h;refine lpn (fun k9 a s=>∃(n6:Int) (i7:Int),Has N0 33 s0 a s [(1,(Pd.ptr En.SDesc d_)),(3,(Pi n6)),(4,(Pi i7))]∧zbk.l1 d_ (zbk.j1 d_ r_) k9 n6 i7) k8 ⟨0,0,L.kk,h⟩ ?_;rintro k9 a s ⟨n6,i7,L,h⟩ KL10 hKL10;unfold zbk.l1 at h;refine wp_seq_k fun K11 H11=>?_;obtain ⟨b12,h13,h⟩:=h;refine ra 9 (p1 h13) L fun a s L=>?_;refine cn L h (fun h=>?_) fun h=>?_
 ·refine wp_skip (H11 _ _ ?_);refine wp_seq_k fun K14 H14=>wp_block ?_;obtain ⟨e15,h16,h17,h⟩:=h;refine rg (sl 10 (p1 h16) L fun a s L=>?_);refine en' (H14 _ _ ?_);obtain ⟨h18,h⟩:=h;refine rg (sA 3 L fun a s L=>?_);refine en' ?_;exact hKL10 a s ⟨(n6+(e15.2.2.2.2.2.2.length:Int)),(i7+1),L.kk,h⟩
 ·refine wp_exit ?_;exact J3 n6 a s (L.kk) h
theorem zg4 {s_:Str} {r_:Bool} (h:zba s_ r_):Fn Tryd.prog 63 [(Pd.rep En.str s_)] (Rq (Pd.rep En.bool r_)):=by
 unfold zba at h;refine zby Tryd.func63 J Tryd.ntmps63 (by rfl) (by simp) fun s0 a L=>?_;refine rA 1 L fun a s L=>?_;refine wp_seq_k fun K1 H1=>rA 1 L fun a s L=>?_;refine wp_block ?_;have J2:∀(a:Act) (s:St),Has N0 21 s0 a s [(0,(Pd.rep En.str s_))]→((zba.j1 s_ r_))→K1 a s.w:=by
  intro a s L h;unfold zba.j1 at h;show K1 a s.w;refine H1 _ _ ?_;obtain ⟨r3,h4,h⟩:=h;refine ra 8 (pp (fun hc_=>(zg8 (h4 hc_))) trivial) L fun a s L=>?_;subst h;exact wp_ret (zb5 J L J)
 obtain ⟨k6,h⟩:=h;refine lpn (fun k7 a s=>∃(i5:Int),Has N0 21 s0 a s [(0,(Pd.rep En.str s_)),(3,(Pi i5))]∧zba.l1 s_ r_ (zba.j1 s_ r_) k7 i5) k6 ⟨0,L.kk,h⟩ ?_;rintro k7 a s ⟨i5,L,h⟩ KL8 hKL8;unfold zba.l1 at h;refine wp_seq_k fun K9 H9=>rA 4 L fun a s L=>?_;refine cn L h (fun h=>?_) fun h=>?_
 ·refine wp_skip (H9 _ _ ?_);refine wp_seq_k fun K10 H10=>wp_block ?_;obtain ⟨c11,h12,h⟩:=h;refine ra 4 (p1 h12) L fun a s L=>?_;refine cn L h (fun h=>?_) fun h=>?_
  ·refine rA 1 L fun a s L=>?_;subst h;exact wp_ret (zb5 J L J)
  ·refine wp_skip (H10 _ _ ?_);obtain ⟨h13,h⟩:=h;refine rg (sA 3 L fun a s L=>?_);refine en' ?_;exact hKL8 a s ⟨(i5+1),L.kk,h⟩
 ·refine wp_exit ?_;exact J2 a s (L.kk) h
theorem zf.n_ok (k_:Nat):∀{l_:(List SNode)} {i_:Int} {r_:Int} (h:zf.n k_ l_ i_ r_),Fn Tryd.prog 46 [(Pd.rep (En.slice En.SNode) l_),(Pi i_)] (Rq (Pi r_)):=by
 induction k_ with
 | zero=>intro l_ i_ r_ h;exact h.elim
 | succ k_ ih_=>
 intro l_ i_ r_ h;unfold zf.n at h;refine zby Tryd.func46 J Tryd.ntmps46 (by rfl) (by simp) fun s0 a L=>?_;refine rA 1 L fun a s L=>?_;refine wp_seq_k fun K1 H1=>rA 2 L fun a s L=>?_;refine cn L h (fun h=>?_) fun h=>?_
 ·refine rA 1 L fun a s L=>?_;subst h;exact wp_ret (zb5 J L J)
 ·refine wp_skip (H1 _ _ ?_);obtain ⟨e2,h3,h⟩:=h;refine rs (sl 4 (p1 h3) L fun a s L=>?_);refine zbj En.SNode (z:=(0,0,0,0,0,(0#256),([]:Str))) 5 L zfj J J J J fun a s g4 hg_ L=>?_;refine sB 5 L fun s L=>?_;refine es (rs ?_);refine sA 2 L fun a s L=>?_;refine sv (zbn (x:=(e2.1,0,0,0,0,(0#256),([]:Str))) (ps:=[(0,.tmp 16)]) zfj J stt69 (.cons (i:=0) op J (zq (zl _ _ _)) .nil) J J) L fun a s L=>?_;have lt_d6:=L.blt 5 rfl;refine zbj En.SNode (z:=(0,0,0,0,0,(0#256),([]:Str))) 6 L zfj J J J J fun a s g5 hg_ L=>?_;have d6:=Dis.newg hg_ lt_d6;refine sB 6 L fun s L=>?_;refine es (rA 2 L fun a s L=>?_);refine wp_seq_k fun K7 H7=>rA 2 L fun a s L=>?_;refine wp_block (rA 2 L fun a s L=>?_);refine cn L h (fun h=>?_) fun h=>?_
  ·refine wp_skip (H7 _ _ ?_);refine wp_seq_k fun K8 H8=>rs (sA 2 L fun a s L=>?_);refine sv (t_nev eq69 op op J J) L fun a s L=>?_;refine es (cn L h (fun h=>?_) fun h=>?_)
   ·refine rA 1 L fun a s L=>?_;subst h;exact wp_ret (zb5 J L J)
   ·refine wp_skip (H8 _ _ ?_);refine rA 2 L fun a s L=>?_;subst h;exact wp_ret (zb5 J L J)
  ·refine rA 2 L fun a s L=>?_;refine cn L h (fun h=>?_) fun h=>?_
   ·refine rg ?_;refine sA 3 L fun a s L=>?_;refine zda 6 L J op op (zj (zj (zj (zj (zj (zq (zl _ _ _)) J) J) J) J) J) Tq.h J J J ka fun s L=>?_;refine en' (H7 _ _ ?_);refine wp_seq_k fun K9 H9=>?_;obtain ⟨b10,h11,h⟩:=h;refine rs (sA 2 L fun a s L=>?_);refine sv (h11 ▸ (t_nev eq69 op op J J)) L fun a s L=>?_;refine es (cn L h (fun h=>?_) fun h=>?_)
    ·refine rA 1 L fun a s L=>?_;subst h;exact wp_ret (zb5 J L J)
    ·refine wp_skip (H9 _ _ ?_);refine rA 2 L fun a s L=>?_;subst h;exact wp_ret (zb5 J L J)
   ·refine rA 2 L fun a s L=>?_;refine cn L h (fun h=>?_) fun h=>?_
    ·refine rs ?_;refine sA 3 L fun a s L=>?_;refine zda 6 L J op op (zj (zj (zj (zj (zj (zj (zl _ _ _) J) J) J) J) J) J) Tq.h J J J ka fun s L=>?_;refine es ?_;obtain ⟨r12,h13,h⟩:=h;refine ra 4 (p1 (zg4 h13)) L fun a s L=>?_;refine cn L h (fun h=>?_) fun h=>?_
     ·refine rA 1 L fun a s L=>?_;subst h;exact wp_ret (zb5 J L J)
     ·refine wp_skip (H7 _ _ ?_);refine wp_seq_k fun K14 H14=>?_;obtain ⟨b15,h16,h⟩:=h;refine rs (sA 2 L fun a s L=>?_);refine sv (h16 ▸ (t_nev eq69 op op J J)) L fun a s L=>?_;refine es (cn L h (fun h=>?_) fun h=>?_)
      ·refine rA 1 L fun a s L=>?_;subst h;exact wp_ret (zb5 J L J)
      ·refine wp_skip (H14 _ _ ?_);refine rA 2 L fun a s L=>?_;subst h;exact wp_ret (zb5 J L J)
    ·refine wp_seq_k fun K17 H17=>?_;refine rA 2 L fun a s L=>?_;have J19:∀(v18:Bool) (a:Act) (s:St),Has N0 96 s0 a s [(0,(Pd.rep (En.slice En.SNode) l_)),(1,(Pi i_)),(5,(Pd.box En.SNode s0.w.heap.size g4 e2)),(6,(Pd.box En.SNode s0.w.heap.size g5 (e2.1,0,0,0,0,(0#256),([]:Str)))),(20,(Pi e2.1)),(37,(Pd.rep En.bool v18))]→Dis (some g4) (some g5)→((zf.j3 (zf.n k_) l_ i_ r_ e2) v18)→K17 a s.w:=by
      intro v18 a s L d20 h;unfold zf.j3 at h;show K17 a s.w;refine H17 _ _ (cn L h (fun h=>?_) fun h=>?_)
      ·obtain ⟨h21,h⟩:=h;refine rs (sA 3 L fun a s L=>?_);refine zda 6 L J op op (zj (zq (zl _ _ _)) J) Tq.h J J J ka fun s L=>?_;refine es (wp_seq_k fun K22 H22=>?_);refine rA 3 L fun a s L=>?_;have J24:∀(want23:SNode) (a:Act) (s:St),Has N0 96 s0 a s [(0,(Pd.rep (En.slice En.SNode) l_)),(1,(Pi i_)),(5,(Pd.box En.SNode s0.w.heap.size g4 e2)),(6,(Pd.box En.SNode s0.w.heap.size g5 want23))]→Dis (some g4) (some g5)→((zf.j1 (zf.n k_) l_ i_ r_ e2) want23)→K22 a s.w:=by
        intro want23 a s L d25 h;unfold zf.j1 at h;show K22 a s.w;refine H22 _ _ ?_;obtain ⟨h26,r27,h28,h⟩:=h;refine rg (sl 5 (p1 (ih_ h28)) L fun a s L=>?_);refine en' (H7 _ _ ?_);refine wp_seq_k fun K29 H29=>rs (sA 2 L fun a s L=>?_);refine sv (t_nev eq69 op op J J) L fun a s L=>?_;refine es (cn L h (fun h=>?_) fun h=>?_)
        ·refine rA 1 L fun a s L=>?_;subst h;exact wp_ret (zb5 J L J)
        ·refine wp_skip (H29 _ _ ?_);refine rA 2 L fun a s L=>?_;subst h;exact wp_ret (zb5 J L J)
       refine cn L h (fun h=>?_) fun h=>?_
       ·refine rs ?_;refine sA 3 L fun a s L=>?_;refine zda 6 L J op op (zj (zj (zj (zq (zl _ _ _)) J) J) J) Tq.h J J J ka fun s L=>?_;refine es (rs ?_);refine sA 3 L fun a s L=>?_;refine zda 6 L J op op (zj (zj (zj (zj (zq (zl _ _ _)) J) J) J) J) Tq.h J J J ka fun s L=>?_;refine es ?_;obtain ⟨b30,h31,h⟩:=h;refine ra 15 (p1 h31) L fun a s L=>?_;refine cn L h (fun h=>?_) fun h=>?_
        ·refine rA 1 L fun a s L=>?_;subst h;exact wp_ret (zb5 J L J)
        ·refine wp_skip ?_;exact J24 (e2.1,i_-1,0,e2.2.2.2.1,e2.2.2.2.2.1,(0#256),([]:Str)) a s (L.kk) d20 h
       ·refine wp_skip ?_;exact J24 (e2.1,i_-1,0,0,0,(0#256),([]:Str)) a s (L.kk) d20 h
      ·refine wp_seq_k fun K32 H32=>?_;refine rA 2 L fun a s L=>?_;have J34:∀(v33:Bool) (a:Act) (s:St),Has N0 96 s0 a s [(0,(Pd.rep (En.slice En.SNode) l_)),(1,(Pi i_)),(5,(Pd.box En.SNode s0.w.heap.size g4 e2)),(6,(Pd.box En.SNode s0.w.heap.size g5 (e2.1,0,0,0,0,(0#256),([]:Str)))),(73,(Pd.rep En.bool v33))]→Dis (some g4) (some g5)→((zf.j2 (zf.n k_) l_ i_ r_ e2) v33)→K32 a s.w:=by
        intro v33 a s L d35 h;unfold zf.j2 at h;show K32 a s.w;refine H32 _ _ (cn L h (fun h=>?_) fun h=>?_)
        ·obtain ⟨h36,h⟩:=h;refine rs (sA 3 L fun a s L=>?_);refine zda 6 L J op op (zj (zj (zq (zl _ _ _)) J) J) Tq.h J J J ka fun s L=>?_;refine es ?_;obtain ⟨h37,r38,h39,h⟩:=h;refine ra 5 (p1 (ih_ h39)) L fun a s L=>?_;refine wp_seq_k fun K40 H40=>rA 2 L fun a s L=>?_;refine cn L h (fun h=>?_) fun h=>?_
         ·refine rA 1 L fun a s L=>?_;subst h;exact wp_ret (zb5 J L J)
         ·refine wp_skip (H40 _ _ ?_);obtain ⟨h41,h⟩:=h;refine rs (sA 3 L fun a s L=>?_);refine zda 6 L J op op (zj (zq (zl _ _ _)) J) Tq.h J J J ka fun s L=>?_;refine es ?_;obtain ⟨h42,r43,h44,h⟩:=h;refine rg (sl 5 (p1 (ih_ h44)) L fun a s L=>?_);refine en' (H7 _ _ ?_);refine wp_seq_k fun K45 H45=>?_;obtain ⟨b46,h47,h⟩:=h;refine rs (sA 2 L fun a s L=>?_);refine sv (h47 ▸ (t_nev eq69 op op J J)) L fun a s L=>?_;refine es (cn L h (fun h=>?_) fun h=>?_)
          ·refine rA 1 L fun a s L=>?_;subst h;exact wp_ret (zb5 J L J)
          ·refine wp_skip (H45 _ _ ?_);refine rA 2 L fun a s L=>?_;subst h;exact wp_ret (zb5 J L J)
        ·refine rA 1 L fun a s L=>?_;subst h;exact wp_ret (zb5 J L J)
       refine cn L h (fun h=>?_) fun h=>?_
       ·refine wp_skip ?_;exact J34 (e2.1==4) a s (L.kk) d20 h
       ·refine rg ?_;refine sA 2 L fun a s L=>?_;refine en' ?_;exact J34 (e2.1==5) a s (L.kk) d20 h
     refine cn L h (fun h=>?_) fun h=>?_
     ·refine wp_skip ?_;exact J19 (e2.1==6) a s (L.kk) (Dis.symm d6) h
     ·refine rA 2 L fun a s L=>?_;refine cn L h (fun h=>?_) fun h=>?_
      ·refine wp_skip ?_;exact J19 (e2.1==7) a s (L.kk) (Dis.symm d6) h
      ·refine rA 2 L fun a s L=>?_;refine cn L h (fun h=>?_) fun h=>?_
       ·refine wp_skip ?_;exact J19 (e2.1==8) a s (L.kk) (Dis.symm d6) h
       ·refine rg ?_;refine sA 2 L fun a s L=>?_;refine en' ?_;exact J19 (e2.1==9) a s (L.kk) (Dis.symm d6) h
theorem zgg {l_:(List SNode)} {i_:Int} {r_:Int} (h:zf l_ i_ r_):Fn Tryd.prog 46 [(Pd.rep (En.slice En.SNode) l_),(Pi i_)] (Rq (Pi r_)):=by
 obtain ⟨k_,h⟩:=h;exact zf.n_ok k_ h
theorem zg7 {d_:SDesc} {r_:Bool} (h:zd7 d_ r_):Fn Tryd.prog 28 [(Pd.rep En.SDesc d_)] (Rq (Pd.rep En.bool r_)):=by
 unfold zd7 at h;refine zby Tryd.func28 J Tryd.ntmps28 (by rfl) (by simp) fun s0 a L=>?_;refine rA 2 L fun a s L=>?_;obtain ⟨h1,r2,h3,h⟩:=h;refine ra 15 (pp (fun hc_=>(zgg (h3 hc_))) trivial) L fun a s L=>?_;subst h;exact wp_ret (zb5 J L J)
set_option maxRecDepth 100000
set_option maxHeartbeats 2000000
set_option synthInstance.maxSize 100000
set_option synthInstance.maxHeartbeats 200000
theorem zg2 {d_:SDesc} {i_:Int} {r_:Int} (h:zd d_ i_ r_):Fn Tryd.prog 47 [(Pd.rep En.SDesc d_),(Pi i_)] (Rq (Pi r_)):=by
 unfold zd at h;refine zby Tryd.func47 J Tryd.ntmps47 (by rfl) (by simp) fun s0 a L=>?_;refine rA 2 L fun a s L=>?_;refine rs (sno (En.int .i64) 3 L fun a s L=>?_);refine es (wp_seq_k fun K1 H1=>?_);refine rA 1 L fun a s L=>?_;refine wp_block ?_;have J4:∀(l2:(List Int)) (og3:Option Nat) (a:Act) (s:St),Has N0 96 s0 a s [(1,(Pi i_)),(5,(Pd.row (En.int .i64) s0.w.heap.size 3 og3 l2))]→((zd.j1 i_ r_) l2)→K1 a s.w:=by
  intro l2 og3 a s L h;unfold zd.j1 at h;show K1 a s.w;refine H1 _ _ ?_;obtain ⟨e5,h6,h⟩:=h;refine ra 5 (p1 h6) L fun a s L=>?_;subst h;exact wp_ret (zb5 J L J)
 obtain ⟨k10,h⟩:=h;refine lpn (fun k11 a s=>∃(l7:(List Int)) (k9:Int) (og8:Option Nat),Has N0 96 s0 a s [(1,(Pi i_)),(2,(Pd.ptr En.SDesc d_)),(5,(Pd.row (En.int .i64) s0.w.heap.size 3 og8 l7)),(6,(Pi k9))]∧zd.l1 d_ i_ (zd.j1 i_ r_) k11 l7 k9) k10 ⟨([]:(List Int)),0,none,L.kk,h⟩ ?_;rintro k11 a s ⟨l7,k9,og8,L,h⟩ KL12 hKL12;unfold zd.l1 at h;refine wp_seq_k fun K13 H13=>rA 3 L fun a s L=>?_;refine cn L h (fun h=>?_) fun h=>?_
 ·refine wp_skip (H13 _ _ ?_);refine wp_seq_k fun K14 H14=>wp_block ?_;obtain ⟨e15,h16,h⟩:=h;refine rs (sl 5 (p1 h16) L fun a s L=>?_);have lt_d18:=L.rlt 5 rfl;refine zbj En.SNode (z:=(0,0,0,0,0,(0#256),([]:Str))) 7 L zfj J J J J fun a s g17 hg_ L=>?_;have d18:=Dis.newg hg_ lt_d18;refine sB 7 L fun s L=>?_;refine es (rA 1 L fun a s L=>?_);refine wp_seq_k fun K19 H19=>rA 2 L fun a s L=>?_;refine wp_block (rA 2 L fun a s L=>?_);have J21:∀(w20:Int) (a:Act) (s:St),Has N0 96 s0 a s [(1,(Pi i_)),(2,(Pd.ptr En.SDesc d_)),(5,(Pd.row (En.int .i64) s0.w.heap.size 3 og8 l7)),(6,(Pi k9)),(8,(Pi w20))]→((zd.j2 (zd.l1 d_ i_ (zd.j1 i_ r_) k11) l7 k9) w20)→K19 a s.w:=by
   intro w20 a s L h;unfold zd.j2 at h;show K19 a s.w;refine H19 _ _ ?_;obtain ⟨h22,h⟩:=h;refine rg (sA 4 L fun a s L=>?_);refine zcy 91 L op op Ud.h Tq.h h22 J J J J ka fun a s og23 hg_ L=>?_;refine sA 1 L fun a s L=>?_;refine en' (H14 _ _ ?_);obtain ⟨h24,h⟩:=h;refine rg (sA 3 L fun a s L=>?_);refine en' ?_;exact hKL12 a s ⟨(l7++[(min 2 w20)]),(k9+1),og23,L.kk,h⟩
  refine cn L h (fun h=>?_) fun h=>?_
  ·refine rg ?_;refine sA 1 L fun a s L=>?_;refine en' ?_;exact J21 1 a s (L.kk) h
  ·refine rA 2 L fun a s L=>?_;refine cn L h (fun h=>?_) fun h=>?_
   ·obtain ⟨e25,h26,e27,h28,h29,h⟩:=h;refine rdx 11 (pp h26 (p1 h28)) L fun a s L=>?_;refine sA 1 L fun a s L=>?_;refine en' ?_;exact J21 (e25*e27) a s (L.kk) h
   ·refine rA 2 L fun a s L=>?_;refine cn L h (fun h=>?_) fun h=>?_
    ·obtain ⟨e30,h31,e32,h33,h34,h⟩:=h;refine rdx 11 (pp h31 (p1 h33)) L fun a s L=>?_;refine sA 1 L fun a s L=>?_;refine en' ?_;exact J21 (e30+e32) a s (L.kk) h
    ·refine rA 2 L fun a s L=>?_;refine cn L h (fun h=>?_) fun h=>?_
     ·refine rA 1 L fun a s L=>?_;obtain ⟨e35,h36,h⟩:=h;refine ra 6 (p1 h36) L fun a s L=>?_;refine cn L h (fun h=>?_) fun h=>?_
      ·refine rg ?_;refine sA 1 L fun a s L=>?_;refine en' ?_;exact J21 2 a s (L.kk) h
      ·refine wp_skip ?_;exact J21 1 a s (L.kk) h
     ·refine rA 2 L fun a s L=>?_;refine cn L h (fun h=>?_) fun h=>?_
      ·refine rA 3 L fun a s L=>?_;refine wp_block ?_;obtain ⟨k39,h⟩:=h;refine lpn (fun k40 a s=>∃(w37:Int) (t38:Int),Has N0 96 s0 a s [(1,(Pi i_)),(2,(Pd.ptr En.SDesc d_)),(5,(Pd.row (En.int .i64) s0.w.heap.size 3 og8 l7)),(6,(Pi k9)),(7,(Pd.box En.SNode s0.w.heap.size g17 e15)),(8,(Pi w37)),(9,(Pi t38))]∧Dis og8 (some g17)∧zd.l2 l7 e15 (zd.j2 (zd.l1 d_ i_ (zd.j1 i_ r_) k11) l7 k9) k40 w37 t38) k39 ⟨0,e15.2.2.2.1,L.kk,(Dis.symm d18),h⟩ ?_;rintro k40 a s ⟨w37,t38,L,d42,h⟩ KL41 hKL41;unfold zd.l2 at h;refine wp_seq_k fun K43 H43=>rA 4 L fun a s L=>?_;refine cn L h (fun h=>?_) fun h=>?_
       ·refine wp_skip (H43 _ _ ?_);refine wp_seq_k fun K44 H44=>wp_block (rA 1 L fun a s L=>?_);refine wp_seq_k fun K45 H45=>rA 1 L fun a s L=>?_;refine wp_block ?_;have J47:∀(p46:Int) (a:Act) (s:St),Has N0 96 s0 a s [(1,(Pi i_)),(2,(Pd.ptr En.SDesc d_)),(5,(Pd.row (En.int .i64) s0.w.heap.size 3 og8 l7)),(6,(Pi k9)),(7,(Pd.box En.SNode s0.w.heap.size g17 e15)),(8,(Pi w37)),(9,(Pi t38)),(10,(Pi p46))]→Dis og8 (some g17)→((zd.j3 (zd.l2 l7 e15 (zd.j2 (zd.l1 d_ i_ (zd.j1 i_ r_) k11) l7 k9) k40) w37 t38) p46)→K45 a s.w:=by
         intro p46 a s L d48 h;unfold zd.j3 at h;show K45 a s.w;refine H45 _ _ ?_;obtain ⟨h49,h⟩:=h;refine rg (sA 5 L fun a s L=>?_);refine en' (H44 _ _ ?_);obtain ⟨h50,h⟩:=h;refine rg (sA 3 L fun a s L=>?_);refine en' ?_;exact hKL41 a s ⟨(min 2 (w37+p46)),(t38+1),L.kk,d48,h⟩
        obtain ⟨k53,h⟩:=h;refine lpn (fun k54 a s=>∃(p51:Int) (m52:Int),Has N0 96 s0 a s [(1,(Pi i_)),(2,(Pd.ptr En.SDesc d_)),(5,(Pd.row (En.int .i64) s0.w.heap.size 3 og8 l7)),(6,(Pi k9)),(7,(Pd.box En.SNode s0.w.heap.size g17 e15)),(8,(Pi w37)),(9,(Pi t38)),(10,(Pi p51)),(11,(Pi m52))]∧Dis og8 (some g17)∧zd.l3 l7 e15 t38 (zd.j3 (zd.l2 l7 e15 (zd.j2 (zd.l1 d_ i_ (zd.j1 i_ r_) k11) l7 k9) k40) w37 t38) k54 p51 m52) k53 ⟨1,0,L.kk,d42,h⟩ ?_;rintro k54 a s ⟨p51,m52,L,d56,h⟩ KL55 hKL55;unfold zd.l3 at h;refine wp_seq_k fun K57 H57=>rA 3 L fun a s L=>?_;refine cn L h (fun h=>?_) fun h=>?_
        ·refine wp_skip (H57 _ _ ?_);refine wp_seq_k fun K58 H58=>wp_block ?_;obtain ⟨e59,h60,h61,h⟩:=h;refine rg (sl 9 (p1 h60) L fun a s L=>?_);refine en' (H58 _ _ ?_);obtain ⟨h62,h⟩:=h;refine rg (sA 3 L fun a s L=>?_);refine en' ?_;exact hKL55 a s ⟨(min 2 (p51*e59)),(m52+1),L.kk,d56,h⟩
        ·refine wp_exit ?_;exact J47 p51 a s (L.kk) d56 h
       ·refine wp_exit ?_;exact J21 w37 a s (L.kk) h
      ·refine wp_skip ?_;exact J21 0 a s (L.kk) h
 ·refine wp_exit ?_;exact J4 l7 og8 a s (L.kk) h
theorem zgf {d_:SDesc} {r_:(Int × Bool)} (h:zy d_ r_):Fn Tryd.prog 29 [(Pd.rep En.SDesc d_)] (Rq2 (Pi r_.1) (Pd.rep En.bool r_.2)):=by
 unfold zy at h;refine zby Tryd.func29 J Tryd.ntmps29 (by rfl) (by simp) fun s0 a L=>?_;refine rA 3 L fun a s L=>?_;refine wp_seq_k fun K1 H1=>rA 1 L fun a s L=>?_;refine wp_block ?_;have J2:∀(a:Act) (s:St),Has N0 37 s0 a s []→((zy.j1 r_))→K1 a s.w:=by
  intro a s L h;unfold zy.j1 at h;show K1 a s.w;refine H1 _ _ (rA 2 L fun a s L=>?_);subst h;exact wp_ret (ret2 J L J J)
 obtain ⟨k4,h⟩:=h;refine lpn (fun k5 a s=>∃(i3:Int),Has N0 37 s0 a s [(1,(Pd.ptr En.SDesc d_)),(4,(Pi i3))]∧zy.l1 d_ r_ (zy.j1 r_) k5 i3) k4 ⟨0,L.kk,h⟩ ?_;rintro k5 a s ⟨i3,L,h⟩ KL6 hKL6;unfold zy.l1 at h;refine wp_seq_k fun K7 H7=>rA 5 L fun a s L=>?_;refine cn L h (fun h=>?_) fun h=>?_
 ·refine wp_skip (H7 _ _ ?_);refine wp_seq_k fun K8 H8=>wp_block ?_;obtain ⟨e9,h10,h⟩:=h;refine ra 7 (p1 h10) L fun a s L=>?_;obtain ⟨e11,h12,r13,h14,h⟩:=h;refine wp_seq (rdx 17 (pp h12 (pp (fun hc_=>(zg2 (h14 hc_))) trivial)) L fun a s L=>?_);refine es (cn L h (fun h=>?_) fun h=>?_)
  ·refine rA 3 L fun a s L=>?_;subst h;exact wp_ret (ret2 J L J J)
  ·refine wp_skip (H8 _ _ ?_);obtain ⟨h15,h⟩:=h;refine rg (sA 3 L fun a s L=>?_);refine en' ?_;exact hKL6 a s ⟨(i3+1),L.kk,h⟩
 ·refine wp_exit ?_;exact J2 a s (L.kk) h
theorem zge {d_:SDesc} {r_:Bool} (h:zc0 d_ r_):Fn Tryd.prog 12 [(Pd.rep En.SDesc d_)] (Rq (Pd.rep En.bool r_)):=by
 unfold zc0 at h;refine zby Tryd.func12 J Tryd.ntmps12 (by rfl) (by simp) fun s0 a L=>?_;refine rA 2 L fun a s L=>?_;refine wp_seq_k fun K1 H1=>?_;obtain ⟨r2,h3,h⟩:=h;refine ra 3 (p1 (zg7 h3)) L fun a s L=>?_;refine cn L h (fun h=>?_) fun h=>?_
 ·refine rA 1 L fun a s L=>?_;subst h;exact wp_ret (zb5 J L J)
 ·refine wp_skip (H1 _ _ ?_);obtain ⟨r4,h5,h⟩:=h;refine ra 7 (p1 ((zgf h5).tup)) L fun a s L=>?_;refine rA 3 L fun a s L=>?_;subst h;exact wp_ret (zb5 J L J)
set_option maxRecDepth 100000
set_option maxHeartbeats 2000000
set_option synthInstance.maxSize 100000
set_option synthInstance.maxHeartbeats 200000
theorem zdp {s_:(List SItem)} {r_:(List Int)} (h:zv s_ r_):Fn Tryd.prog 58 [(Pd.rep (En.slice En.SItem) s_)] (Ro (En.int .i64) 3 r_):=by
 unfold zv at h;refine zby Tryd.func58 J Tryd.ntmps58 (by rfl) (by simp) fun s0 a L=>?_;refine rs (sno (En.int .i64) 3 L fun a s L=>?_);refine es (rs ?_);refine sA 2 L fun a s L=>?_;refine zb6 (xs:=[.tmp 6]) 7 L (.cons op .nil) Ud.h Tq.h J J (by decide) J J J J fun a s g1 hg_ L=>?_;refine sA 1 L fun a s L=>?_;refine es (wp_seq_k fun K2 H2=>?_);refine rA 1 L fun a s L=>?_;refine wp_block ?_;have J5:∀(out3:(List Int)) (og4:Option Nat) (a:Act) (s:St),Has N0 38 s0 a s [(3,(Pd.row (En.int .i64) s0.w.heap.size 3 og4 out3))]→((zv.j1 r_) out3)→K2 a s.w:=by
  intro out3 og4 a s L h;unfold zv.j1 at h;show K2 a s.w;refine H2 _ _ (rA 2 L fun a s L=>?_);subst h;exact wp_ret (ze6 J L J)
 obtain ⟨k9,h⟩:=h;refine lpn (fun k10 a s=>∃(out6:(List Int)) (i8:Int) (og7:Option Nat),Has N0 38 s0 a s [(0,(Pd.rep (En.slice En.SItem) s_)),(3,(Pd.row (En.int .i64) s0.w.heap.size 3 og7 out6)),(4,(Pi i8))]∧zv.l1 s_ (zv.j1 r_) k10 out6 i8) k9 ⟨[(s_.length:Int)],0,(some g1),L.kk,h⟩ ?_;rintro k10 a s ⟨out6,i8,og7,L,h⟩ KL11 hKL11;unfold zv.l1 at h;refine wp_seq_k fun K12 H12=>rA 4 L fun a s L=>?_;refine cn L h (fun h=>?_) fun h=>?_
 ·refine wp_skip (H12 _ _ ?_);refine wp_seq_k fun K13 H13=>wp_block ?_;obtain ⟨e14,h15,e16,h17,e18,h19,e20,h21,h22,h⟩:=h;refine rdx 22 (pp h15 (pp h17 (pp h19 (p1 h21)))) L fun a s L=>?_;refine zcy 36 L op op Ud.h Tq.h h22 J J J J ka fun a s og23 hg_ L=>?_;refine sA 1 L fun a s L=>?_;refine en' (H13 _ _ ?_);obtain ⟨h24,h⟩:=h;refine rg (sA 3 L fun a s L=>?_);refine en' ?_;exact hKL11 a s ⟨(out6++[e14.1,e16.2.1,e18.2.2.1,e20.2.2.2]),(i8+1),og23,L.kk,h⟩
 ·refine wp_exit ?_;exact J5 out6 og7 a s (L.kk) h
theorem zfk {a_:(List SItem)} {b_:(List SItem)} {r_:Int} (h:zo a_ b_ r_):Fn Tryd.prog 37 [(Pd.rep (En.slice En.SItem) a_),(Pd.rep (En.slice En.SItem) b_)] (Rq (Pi r_)):=by
 unfold zo at h;refine zby Tryd.func37 J Tryd.ntmps37 (by rfl) (by simp) fun s0 a L=>?_;refine rA 1 L fun a s L=>?_;obtain ⟨r1,h2,h⟩:=h;refine ra 3 (p1 ((zdp h2).frz)) L fun a s L=>?_;obtain ⟨r3,h4,h⟩:=h;refine ra 3 (p1 ((zdp h4).frz)) L fun a s L=>?_;refine wp_seq_k fun K5 H5=>rA 1 L fun a s L=>?_;refine wp_block ?_;have J6:∀(a:Act) (s:St),Has N0 42 s0 a s []→((zo.j1 r_))→K5 a s.w:=by
  intro a s L h;unfold zo.j1 at h;show K5 a s.w;refine H5 _ _ (rA 1 L fun a s L=>?_);subst h;exact wp_ret (zb5 J L J)
 obtain ⟨k8,h⟩:=h;refine lpn (fun k9 a s=>∃(i7:Int),Has N0 42 s0 a s [(5,(Pd.rep (En.slice (En.int .i64)) r1)),(6,(Pd.rep (En.slice (En.int .i64)) r3)),(7,(Pi i7))]∧zo.l1 r1 r3 r_ (zo.j1 r_) k9 i7) k8 ⟨0,L.kk,h⟩ ?_;rintro k9 a s ⟨i7,L,h⟩ KL10 hKL10;unfold zo.l1 at h;refine wp_seq_k fun K11 H11=>?_;obtain ⟨b12,h13,h⟩:=h;refine ra 10 (p1 h13) L fun a s L=>?_;refine cn L h (fun h=>?_) fun h=>?_
 ·refine wp_skip (H11 _ _ ?_);refine wp_seq_k fun K14 H14=>wp_block (wp_seq_k fun K15 H15=>?_);obtain ⟨e16,h17,e18,h19,h⟩:=h;refine wp_seq (rdx 9 (pp h17 (p1 h19)) L fun a s L=>?_);refine es (cn L h (fun h=>?_) fun h=>?_)
  ·refine rA 1 L fun a s L=>?_;subst h;exact wp_ret (zb5 J L J)
  ·refine wp_skip (H15 _ _ ?_);obtain ⟨e20,h21,e22,h23,h⟩:=h;refine wp_seq (rdx 9 (pp h21 (p1 h23)) L fun a s L=>?_);refine es (cn L h (fun h=>?_) fun h=>?_)
   ·refine rA 1 L fun a s L=>?_;subst h;exact wp_ret (zb5 J L J)
   ·refine wp_skip (H14 _ _ ?_);obtain ⟨h24,h⟩:=h;refine rg (sA 3 L fun a s L=>?_);refine en' ?_;exact hKL10 a s ⟨(i7+1),L.kk,h⟩
 ·refine wp_exit ?_;exact J6 a s (L.kk) h
theorem zep {a_:(List SItem)} {b_:(List SItem)} {r_:Bool} (h:zdg a_ b_ r_):Fn Tryd.prog 17 [(Pd.rep (En.slice En.SItem) a_),(Pd.rep (En.slice En.SItem) b_)] (Rq (Pd.rep En.bool r_)):=by
 unfold zdg at h;refine zby Tryd.func17 J Tryd.ntmps17 (by rfl) (by simp) fun s0 a L=>?_;refine rA 1 L fun a s L=>?_;obtain ⟨r1,h2,h⟩:=h;refine ra 5 (p1 (zfk h2)) L fun a s L=>?_;subst h;exact wp_ret (zb5 J L J)
theorem zgz {d_:SDesc} {x_:SItem} {r_:Bool} (h:zd4 d_ x_ r_):Fn Tryd.prog 48 [(Pd.rep En.SDesc d_),(Pd.rep En.SItem x_)] (Rq (Pd.rep En.bool r_)):=by
 unfold zd4 at h;refine zby Tryd.func48 J Tryd.ntmps48 (by rfl) (by simp) fun s0 a L=>?_;refine rA 3 L fun a s L=>?_;refine wp_seq_k fun K1 H1=>rA 3 L fun a s L=>?_;refine cn L h (fun h=>?_) fun h=>?_
 ·obtain ⟨b2,h3,h⟩:=h;refine ra 19 (p1 h3) L fun a s L=>?_;subst h;exact wp_ret (zb5 J L J)
 ·refine wp_skip (H1 _ _ ?_);refine wp_seq_k fun K4 H4=>?_;obtain ⟨b5,h6,h⟩:=h;refine ra 11 (p1 h6) L fun a s L=>?_;refine cn L h (fun h=>?_) fun h=>?_
  ·refine rA 1 L fun a s L=>?_;subst h;exact wp_ret (zb5 J L J)
  ·refine wp_skip (H4 _ _ ?_);obtain ⟨e7,h8,h⟩:=h;refine rs (sl 6 (p1 h8) L fun a s L=>?_);refine zbj En.SNode (z:=(0,0,0,0,0,(0#256),([]:Str))) 5 L zfj J J J J fun a s g9 hg_ L=>?_;refine sB 5 L fun s L=>?_;refine es (wp_seq_k fun K10 H10=>?_);refine rA 2 L fun a s L=>?_;refine wp_block (rA 2 L fun a s L=>?_);refine cn L h (fun h=>?_) fun h=>?_
   ·refine rA 9 L fun a s L=>?_;subst h;exact wp_ret (zb5 J L J)
   ·refine rA 2 L fun a s L=>?_;refine cn L h (fun h=>?_) fun h=>?_
    ·obtain ⟨b11,h12,h⟩:=h;refine ra 23 (p1 h12) L fun a s L=>?_;subst h;exact wp_ret (zb5 J L J)
    ·refine rA 2 L fun a s L=>?_;refine cn L h (fun h=>?_) fun h=>?_
     ·obtain ⟨b13,h14,b15,h16,h⟩:=h;refine ra 22 (pp h14 (p1 h16)) L fun a s L=>?_;subst h;exact wp_ret (zb5 J L J)
     ·refine rA 2 L fun a s L=>?_;refine cn L h (fun h=>?_) fun h=>?_
      ·obtain ⟨b17,h18,h⟩:=h;refine ra 19 (p1 h18) L fun a s L=>?_;subst h;exact wp_ret (zb5 J L J)
      ·refine wp_skip (H10 _ _ ?_);refine rA 1 L fun a s L=>?_;subst h;exact wp_ret (zb5 J L J)
theorem zg0 {d_:SDesc} {s_:(List SItem)} {r_:Bool} (h:zbg d_ s_ r_):Fn Tryd.prog 30 [(Pd.rep En.SDesc d_),(Pd.rep (En.slice En.SItem) s_)] (Rq (Pd.rep En.bool r_)):=by
 unfold zbg at h;refine zby Tryd.func30 J Tryd.ntmps30 (by rfl) (by simp) fun s0 a L=>?_;refine rA 2 L fun a s L=>?_;refine wp_seq_k fun K1 H1=>rA 1 L fun a s L=>?_;refine wp_block ?_;have J2:∀(a:Act) (s:St),Has N0 19 s0 a s []→((zbg.j1 r_))→K1 a s.w:=by
  intro a s L h;unfold zbg.j1 at h;show K1 a s.w;refine H1 _ _ (rA 1 L fun a s L=>?_);subst h;exact wp_ret (zb5 J L J)
 obtain ⟨k4,h⟩:=h;refine lpn (fun k5 a s=>∃(i3:Int),Has N0 19 s0 a s [(1,(Pd.rep (En.slice En.SItem) s_)),(2,(Pd.ptr En.SDesc d_)),(5,(Pi i3))]∧zbg.l1 d_ s_ r_ (zbg.j1 r_) k5 i3) k4 ⟨0,L.kk,h⟩ ?_;rintro k5 a s ⟨i3,L,h⟩ KL6 hKL6;unfold zbg.l1 at h;refine wp_seq_k fun K7 H7=>rA 4 L fun a s L=>?_;refine cn L h (fun h=>?_) fun h=>?_
 ·refine wp_skip (H7 _ _ ?_);refine wp_seq_k fun K8 H8=>wp_block ?_;obtain ⟨e9,h10,r11,h12,h⟩:=h;refine wp_seq (rdx 7 (pp h10 (p1 (zgz h12))) L fun a s L=>?_);refine es (cn L h (fun h=>?_) fun h=>?_)
  ·refine rA 1 L fun a s L=>?_;subst h;exact wp_ret (zb5 J L J)
  ·refine wp_skip (H8 _ _ ?_);obtain ⟨h13,h⟩:=h;refine rg (sA 3 L fun a s L=>?_);refine en' ?_;exact hKL6 a s ⟨(i3+1),L.kk,h⟩
 ·refine wp_exit ?_;exact J2 a s (L.kk) h
set_option maxRecDepth 100000
set_option maxHeartbeats 2000000
set_option synthInstance.maxSize 100000
set_option synthInstance.maxHeartbeats 200000
theorem zct {d_:SDesc} {s_:(List SItem)} {r_:Bool} (h:zcr d_ s_ r_):Fn Tryd.prog 27 [(Pd.rep En.SDesc d_),(Pd.rep (En.slice En.SItem) s_)] (Rq (Pd.rep En.bool r_)):=by
 unfold zcr at h;refine zby Tryd.func27 J Tryd.ntmps27 (by rfl) (by simp) fun s0 a L=>?_;refine rA 2 L fun a s L=>?_;refine wp_seq_k fun K1 H1=>rA 3 L fun a s L=>?_;refine cn L h (fun h=>?_) fun h=>?_
 ·refine rA 1 L fun a s L=>?_;subst h;exact wp_ret (zb5 J L J)
 ·refine wp_skip (H1 _ _ ?_);refine wp_seq_k fun K2 H2=>?_;obtain ⟨e3,h4,h⟩:=h;refine rs (sl 3 (p1 h4) L fun a s L=>?_);refine zbj En.SItem (z:=(0,0,0,0)) 5 L zdw J J J J fun a s g5 hg_ L=>?_;refine sB 5 L fun s L=>?_;refine es (rA 2 L fun a s L=>?_);refine wp_block (rA 2 L fun a s L=>?_);refine cn L h (fun h=>?_) fun h=>?_
  ·obtain ⟨e6,h7,h⟩:=h;refine ra 8 (p1 h7) L fun a s L=>?_;obtain ⟨e8,h9,h⟩:=h;refine rs (sA 4 L fun a s L=>?_);refine sv (zbu J J J (fun hc_=>t_gidxb (g:=0) (xs:=gdat0) (by simp [gtab]) J (opc hc_) (h9 hc_) Ud.h (by rfl) J J)) L fun a s L=>?_;refine sA 3 L fun a s L=>?_;refine es ?_;subst h;exact wp_ret (zb5 J L J)
  ·refine wp_seq_k fun K10 H10=>?_;refine rA 2 L fun a s L=>?_;refine cn L h (fun h=>?_) fun h=>?_
   ·refine wp_skip (H10 _ _ ?_);refine cn L h (fun h=>?_) fun h=>?_
    ·refine rA 1 L fun a s L=>?_;subst h;exact wp_ret (zb5 J L J)
    ·refine wp_skip (H2 _ _ ?_);refine rA 1 L fun a s L=>?_;subst h;exact wp_ret (zb5 J L J)
   ·refine rg ?_;refine sA 2 L fun a s L=>?_;refine en' (H10 _ _ ?_);refine cn L h (fun h=>?_) fun h=>?_
    ·refine rA 1 L fun a s L=>?_;subst h;exact wp_ret (zb5 J L J)
    ·refine wp_skip (H2 _ _ ?_);refine rA 1 L fun a s L=>?_;subst h;exact wp_ret (zb5 J L J)
theorem zm {rest_:(List SItem)} {list_:(List SItem)} {r_:(List SItem)} (h:zbb rest_ list_ r_):Fn Tryd.prog 35 [(Pd.rep (En.slice En.SItem) rest_),(Pd.rep (En.slice En.SItem) list_)] (Ro En.SItem 47 r_):=by
 unfold zbb at h;refine zby Tryd.func35 J Tryd.ntmps35 (by rfl) (by simp) fun s0 a L=>?_;refine rs (sno En.SItem 47 L fun a s L=>?_);refine es ?_;obtain ⟨r1,h2,h⟩:=h;refine rs (sA 3 L fun a s L=>?_);refine st_callo 8 L (zcb h2) opz J J J J fun a s og3 hg_ L=>?_;refine sA 1 L fun a s L=>?_;refine es ?_;subst h;exact wp_ret (ze6 J L J)
theorem zz {i_:Int} {r_:SItem} (h:zcd i_ r_):Fn Tryd.prog 36 [(Pi i_)] (Rq (Pd.rep En.SItem r_)):=by
 unfold zcd at h;refine zby Tryd.func36 J Tryd.ntmps36 (by rfl) (by simp) fun s0 a L=>?_;refine rs (zbj En.SItem (z:=(0,0,0,0)) 2 L zdw J J J J fun a s g1 hg_ L=>?_);refine es (rs ?_);refine sA 1 L fun a s L=>?_;refine sv (zbn (x:=(1,i_,0,0)) (ps:=[(0,.const (.int .i64 1)),(1,.tmp 3)]) zdw J zfv (.cons (i:=0) op J (zq (zl _ _ _)) (.cons (i:=1) op J (zj (zq (zl _ _ _)) J) .nil)) J J) L fun a s L=>?_;refine sB 2 L fun s L=>?_;refine es ?_;subst h;exact wp_ret (retb J zec L J)
theorem zdm {d_:SDesc} {s_:(List SItem)} {r_:(List (List SItem))} (h:zt d_ s_ r_):Fn Tryd.prog 16 [(Pd.rep En.SDesc d_),(Pd.rep (En.slice En.SItem) s_)] (Ro (En.slice En.SItem) 43 r_):=by
 unfold zt at h;refine zby Tryd.func16 J Tryd.ntmps16 (by rfl) (by simp) fun s0 a L=>?_;refine rs (sA 1 L fun a s L=>?_);refine sno (En.slice En.SItem) 43 L fun a s L=>?_;refine es ?_;obtain ⟨e2,h3,h4,h⟩:=h;refine wp_seq ?_;replace L:=L.kk (L':=[(1,(Pd.rep (En.slice En.SItem) s_)),(2,(Pd.ptr En.SDesc d_))]);obtain ⟨K1,H1,nK1,L⟩:=L.mark 999983;refine rdf 8 zcm L (by kernel_rfl) fun s _ L=>?_;refine zhg 3 12 L (by rfl) (by kernel_rfl) (by kernel_rfl) (by kernel_rfl) (fun _ _ _ _ h=>h) (q:=(Pd.rep (En.slice En.SItem) s_)) (y_move (O 1 J) J J) J J fun a L=>?_;refine zhg 4 13 L (by rfl) (by kernel_rfl) (by kernel_rfl) (by kernel_rfl) (fun _ _ _ _ h=>h) (q:=(Pd.rep (En.slice En.SItem) (s_.drop (1:Int).toNat))) (y_from (O 12 J) oI h4 Tryd.underlying43 zec J J) J J fun a L=>?_;refine rc_go 6 [(Pd.rep (En.slice En.SItem) s_),(Pd.ptr En.SItem e2),(Pd.rep En.SItem e2),(Pd.rep (En.slice En.SItem) s_),(Pd.rep (En.slice En.SItem) (s_.drop (1:Int).toNat)),(Pd.ebox En.SItem s0.w.heap.size K1 (0,0,0,0))] [3,4] K1 [5] nK1 L (.k 13 (.k 12 (.k 999983 (.k 1 (.k 2 .nil))))) (by kernel_rfl) (by kernel_rfl) (by kernel_rfl) (by kernel_rfl) (.cons (i:=3) J J J J (.cons (i:=4) J J J J .nil)) J J ?_ ?_
 ·refine zeg.t (ze (O 1 J) J J) nE ?_;refine zeg.t (zdj (O 9 J) oI h3 Tryd.underlying43 zec J J) nE ?_;refine zeg.t (zbd zec (O 10 J) J J) nE ?_;refine zeg.skip J nE ?_;refine zeg.skip J nE ?_;refine zeg.c (t_allocx En.SItem (z:=(0,0,0,0)) (K:=K1) (m:=999983) J nK1 zdw J J) J ?_;exact zeg.nil
 intro a s _ L;obtain ⟨g5,hg_,L⟩:=L.openb 5 rfl;replace L:=L.kk (L':=[(2,(Pd.ptr En.SDesc d_)),(5,(Pd.box En.SItem s0.w.heap.size g5 (0,0,0,0))),(11,(Pd.rep En.SItem e2)),(13,(Pd.rep (En.slice En.SItem) (s_.drop (1:Int).toNat)))]);refine dp ?_;refine sB 5 L fun s L=>?_;refine sA 1 L fun a s L=>?_;refine es ?_;obtain ⟨e6,h7,h⟩:=h;refine rs (sl 6 (p1 h7) L fun a s L=>?_);have lt_d9:=L.blt 5 rfl;refine zbj En.SNode (z:=(0,0,0,0,0,(0#256),([]:Str))) 7 L zfj J J J J fun a s g8 hg_ L=>?_;have d9:=Dis.newg hg_ lt_d9;refine sB 7 L fun s L=>?_;refine es (wp_seq_k fun K10 H10=>?_);refine wp_block (rA 9 L fun a s L=>?_);refine cn L h (fun h=>?_) fun h=>?_
 ·obtain ⟨r11,h12,h⟩:=h;refine rs (sl 2 (p1 ((zm h12).frz)) L fun a s L=>?_);have lt_d15:=L.blt 7 rfl;have lt_d14:=L.blt 5 rfl;refine zb6 (xs:=[.tmp 30]) 31 L (.cons op .nil) Ud.h Tq.h J J (by decide) J J J J fun a s g13 hg_ L=>?_;have d14:=Dis.newg hg_ lt_d14;have d15:=Dis.newg hg_ lt_d15;refine sA 1 L fun a s L=>?_;refine es ?_;subst h;exact wp_ret (ze6 J L J)
 ·refine rA 4 L fun a s L=>?_;refine cn L h (fun h=>?_) fun h=>?_
  ·refine rs ?_;refine sno (En.slice En.SItem) 43 L fun a s L=>?_;refine es ?_;subst h;exact wp_ret (ze6 J L J)
  ·refine rA 4 L fun a s L=>?_;refine cn L h (fun h=>?_) fun h=>?_
   ·refine rs ?_;refine sno (En.slice En.SItem) 43 L fun a s L=>?_;refine es (wp_seq_k fun K16 H16=>?_);refine rA 3 L fun a s L=>?_;have J19:∀(out17:(List (List SItem))) (og18:Option Nat) (a:Act) (s:St),Has N0 139 s0 a s [(5,(Pd.box En.SItem s0.w.heap.size g5 e2)),(6,(Pd.rep (En.slice En.SItem) (s_.drop (1:Int).toNat))),(7,(Pd.box En.SNode s0.w.heap.size g8 e6)),(8,(Pd.row (En.slice En.SItem) s0.w.heap.size 43 og18 out17))]→Dis (some g5) (some g8)→Dis (some g5) og18→Dis (some g8) og18→((zt.j2 s_ r_ e2 e6) out17)→K16 a s.w:=by
     intro out17 og18 a s L d20 d21 d22 h;unfold zt.j2 at h;show K16 a s.w;refine H16 _ _ (wp_seq_k fun K23 H23=>?_);refine rA 3 L fun a s L=>?_;have J26:∀(out24:(List (List SItem))) (og25:Option Nat) (a:Act) (s:St),Has N0 139 s0 a s [(8,(Pd.row (En.slice En.SItem) s0.w.heap.size 43 og25 out24))]→((zt.j1 r_) out24)→K23 a s.w:=by
      intro out24 og25 a s L h;unfold zt.j1 at h;show K23 a s.w;refine H23 _ _ (rA 2 L fun a s L=>?_);subst h;exact wp_ret (ze6 J L J)
     refine cn L h (fun h=>?_) fun h=>?_
     ·obtain ⟨r27,h28,h29,h30,r31,h32,h33,h⟩:=h;refine rda zcm 20 [(Pd.row (En.slice En.SItem) s0.w.heap.size 43 og18 out17),(Pd.rep (En.slice En.SItem) (s_.drop (1:Int).toNat)),(Pd.optr (En.int .i64) s0.w.heap.size (some g8) (1) e6.2.1),(Pi e6.2.1),(Pd.rep En.SItem r27),(Pd.optr (En.int .i64) s0.w.heap.size (some g5) (0) e2.1),(Pi e2.1),(Pd.optr (En.int .i64) s0.w.heap.size (some g5) (1) e2.2.1),(Pi e2.2.1),(Pd.optr (En.int .i64) s0.w.heap.size (some g5) (2) e2.2.2.1),(Pi e2.2.2.1),(Pi (e2.2.2.1-1)),(Pi (max (e2.2.2.1-1) 0)),(Pd.optr (En.int .i64) s0.w.heap.size (some g5) (3) e2.2.2.2),(Pi e2.2.2.2),(Pi (e2.2.2.2-1)),(Pd.rep En.SItem (e2.1,e2.2.1,(max (e2.2.2.1-1) 0),e2.2.2.2-1)),(Pd.rep (En.slice En.SItem) [r27,(e2.1,e2.2.1,(max (e2.2.2.1-1) 0),e2.2.2.2-1)]),(Pd.rep (En.slice En.SItem) r31),(Pd.rep (En.slice (En.slice En.SItem)) [r31])] L (by kernel_rfl) J J ?_ ?_
      ·refine zn.cons (ze (O 8 J) J J) ?_;refine zn.cons (ze (O 6 J) J J) ?_;refine zn.cons (zca (off:=1) (O 7 J) Tryd.underlying69 J (zi (zu (zk _ _)) J) J ty3 J J) ?_;refine zn.cons (z1 ty3 (O 53 J) J J) ?_;refine zn.cons (zx (zz h28) (xs:=[.tmp 54]) (.cons (O 54 J) .nil) J J) ?_;refine zn.cons (zca (off:=0) (O 5 J) Tryd.underlying47 J (zu (zk _ _)) J ty3 J J) ?_;refine zn.cons (z1 ty3 (O 56 J) J J) ?_;refine zn.cons (zca (off:=1) (O 5 J) Tryd.underlying47 J (zi (zu (zk _ _)) J) J ty3 J J) ?_;refine zn.cons (z1 ty3 (O 58 J) J J) ?_;refine zn.cons (zca (off:=2) (O 5 J) Tryd.underlying47 J (zi (zi (zu (zk _ _)) J) J) J ty3 J J) ?_;refine zn.cons (z1 ty3 (O 60 J) J J) ?_;refine zn.cons (t_sub (O 61 J) oI h29 J J) ?_;refine zn.cons (t_max (O 62 J) oI J J) ?_;refine zn.cons (zca (off:=3) (O 5 J) Tryd.underlying47 J (zi (zi (zi (zk _ _) J) J) J) J ty3 J J) ?_;refine zn.cons (z1 ty3 (O 64 J) J J) ?_;refine zn.cons (t_sub (O 65 J) oI h30 J J) ?_;refine zn.cons (zbn (x:=(e2.1,e2.2.1,(max (e2.2.2.1-1) 0),e2.2.2.2-1)) (ps:=[(0,.tmp 57),(1,.tmp 59),(2,.tmp 63),(3,.tmp 66)]) zdw J zfv (.cons (i:=0) (O 57 J) J (zq (zl _ _ _)) (.cons (i:=1) (O 59 J) J (zj (zq (zl _ _ _)) J) (.cons (i:=2) (O 63 J) J (zj (zj (zq (zl _ _ _)) J) J) (.cons (i:=3) (O 66 J) J (zj (zj (zj (zl _ _ _) J) J) J) .nil)))) J J) ?_;refine zn.cons (zdu (xs:=[.tmp 55,.tmp 67]) (.cons (O 55 J) (.cons (O 67 J) .nil)) Tryd.underlying42 zec J J (by decide) J J) ?_;refine zn.cons (zx ((zm h32).frz) (xs:=[.tmp 52,.tmp 68]) (.cons (O 52 J) (.cons (O 68 J) .nil)) J J) ?_
       refine zn.cons (zdu (xs:=[.tmp 69]) (.cons (O 69 J) .nil) Tryd.underlying52 ty43 J J (by decide) J J) ?_;exact zn.nil
      intro a s _ L;replace L:=L.kk (L':=[(8,(Pd.row (En.slice En.SItem) s0.w.heap.size 43 og18 out17)),(51,(Pd.row (En.slice En.SItem) s0.w.heap.size 43 og18 out17)),(70,(Pd.rep (En.slice (En.slice En.SItem)) [r31]))]);refine dp ?_;refine zcy 71 L op op Ud.h Tq.h h33 J J J J ka fun a s og34 hg_ L=>?_;refine sA 1 L fun a s L=>?_;refine en' ?_;exact J26 (out17++[r31]) og34 a s (L.kk) h
     ·refine wp_skip ?_;exact J26 out17 og18 a s (L.kk) h
    refine cn L h (fun h=>?_) fun h=>?_
    ·obtain ⟨r35,h36,h37,h⟩:=h;refine rg (sl 4 (p1 ((zm h36).frz)) L fun a s L=>?_);have lt_og38_0:=L.blt 5 rfl;have lt_og38_1:=L.blt 7 rfl;refine zcy 47 L op op Ud.h Tq.h h37 J J J J ka fun a s og38 hg_ L=>?_;have d39:=Dis.app hg_ Dis.none lt_og38_0;have d40:=Dis.app hg_ Dis.none lt_og38_1;refine sA 1 L fun a s L=>?_;refine en' ?_;exact J19 (([]:(List (List SItem)))++[r35]) og38 a s (L.kk) (Dis.symm d9) (Dis.symm d39) (Dis.symm d40) h
    ·refine wp_skip ?_;exact J19 ([]:(List (List SItem))) none a s (L.kk) (Dis.symm d9) (Dis.symm Dis.none) (Dis.symm Dis.none) h
   ·refine wp_skip (H10 _ _ ?_);refine wp_seq_k fun K41 H41=>rA 2 L fun a s L=>?_;refine wp_block (rA 2 L fun a s L=>?_);refine cn L h (fun h=>?_) fun h=>?_
    ·obtain ⟨r42,h43,h⟩:=h;refine rs (sl 2 (p1 ((zm h43).frz)) L fun a s L=>?_);have lt_d46:=L.blt 7 rfl;have lt_d45:=L.blt 5 rfl;refine zb6 (xs:=[.tmp 78]) 79 L (.cons op .nil) Ud.h Tq.h J J (by decide) J J J J fun a s g44 hg_ L=>?_;have d45:=Dis.newg hg_ lt_d45;have d46:=Dis.newg hg_ lt_d46;refine sA 1 L fun a s L=>?_;refine es ?_;subst h;exact wp_ret (ze6 J L J)
    ·refine rA 2 L fun a s L=>?_;refine cn L h (fun h=>?_) fun h=>?_
     ·obtain ⟨r47,h48,h⟩:=h;refine rs (sA 3 L fun a s L=>?_);refine sv (zbn (x:=(3,e2.2.1,0,0)) (ps:=[(0,.const (.int .i64 3)),(1,.tmp 84)]) zdw J zfv (.cons (i:=0) op J (zq (zl _ _ _)) (.cons (i:=1) op J (zj (zq (zl _ _ _)) J) .nil)) J J) L fun a s L=>?_;refine sl 2 (p1 ((zm h48).frz)) L fun a s L=>?_;have lt_d51:=L.blt 7 rfl;have lt_d50:=L.blt 5 rfl;refine zb6 (xs:=[.tmp 87]) 88 L (.cons op .nil) Ud.h Tq.h J J (by decide) J J J J fun a s g49 hg_ L=>?_;have d50:=Dis.newg hg_ lt_d50;have d51:=Dis.newg hg_ lt_d51;refine sA 1 L fun a s L=>?_;refine es ?_;subst h;exact wp_ret (ze6 J L J)
     ·refine rA 2 L fun a s L=>?_;refine cn L h (fun h=>?_) fun h=>?_
      ·obtain ⟨r52,h53,r54,h55,r56,h57,h⟩:=h;refine wp_seq (rdx 9 (pp (zz h53) (pp (zz h55) (p1 ((zm h57).frz)))) L fun a s L=>?_);have lt_d60:=L.blt 7 rfl;have lt_d59:=L.blt 5 rfl;refine zb6 (xs:=[.tmp 99]) 100 L (.cons op .nil) Ud.h Tq.h J J (by decide) J J J J fun a s g58 hg_ L=>?_;have d59:=Dis.newg hg_ lt_d59;have d60:=Dis.newg hg_ lt_d60;refine sA 1 L fun a s L=>?_;refine es ?_;subst h;exact wp_ret (ze6 J L J)
      ·refine rA 2 L fun a s L=>?_;refine cn L h (fun h=>?_) fun h=>?_
       ·obtain ⟨r61,h62,r63,h64,r65,h66,r67,h68,h⟩:=h;refine wp_seq (rdx 12 (pp (zz h62) (pp ((zm h64).frz) (pp (zz h66) (p1 ((zm h68).frz))))) L fun a s L=>?_);have lt_d71:=L.blt 7 rfl;have lt_d70:=L.blt 5 rfl;refine zb6 (xs:=[.tmp 108,.tmp 114]) 115 L (.cons op (.cons op .nil)) Ud.h Tq.h J J (by decide) J J J J fun a s g69 hg_ L=>?_;have d70:=Dis.newg hg_ lt_d70;have d71:=Dis.newg hg_ lt_d71;refine sA 1 L fun a s L=>?_;refine es ?_;subst h;exact wp_ret (ze6 J L J)
       ·refine rA 2 L fun a s L=>?_;refine cn L h (fun h=>?_) fun h=>?_
        ·obtain ⟨r72,h73,r74,h75,r76,h77,h⟩:=h;refine wp_seq (rdx 9 (pp ((zm h73).frz) (pp (zz h75) (p1 ((zm h77).frz)))) L fun a s L=>?_);have lt_d80:=L.blt 7 rfl;have lt_d79:=L.blt 5 rfl;refine zb6 (xs:=[.tmp 119,.tmp 126]) 127 L (.cons op (.cons op .nil)) Ud.h Tq.h J J (by decide) J J J J fun a s g78 hg_ L=>?_;have d79:=Dis.newg hg_ lt_d79;have d80:=Dis.newg hg_ lt_d80;refine sA 1 L fun a s L=>?_;refine es ?_;subst h;exact wp_ret (ze6 J L J)
        ·refine wp_skip (H41 _ _ ?_);obtain ⟨r81,h82,h⟩:=h;refine rs (sA 7 L fun a s L=>?_);refine sv (zbn (x:=(2,e2.2.1,e6.2.2.2.1,e6.2.2.2.2.1)) (ps:=[(0,.const (.int .i64 2)),(1,.tmp 130),(2,.tmp 132),(3,.tmp 134)]) zdw J zfv (.cons (i:=0) op J (zq (zl _ _ _)) (.cons (i:=1) op J (zj (zq (zl _ _ _)) J) (.cons (i:=2) op J (zj (zj (zq (zl _ _ _)) J) J) (.cons (i:=3) op J (zj (zj (zj (zl _ _ _) J) J) J) .nil)))) J J) L fun a s L=>?_;refine sl 2 (p1 ((zm h82).frz)) L fun a s L=>?_;have lt_d85:=L.blt 7 rfl;have lt_d84:=L.blt 5 rfl;refine zb6 (xs:=[.tmp 137]) 138 L (.cons op .nil) Ud.h Tq.h J J (by decide) J J J J fun a s g83 hg_ L=>?_;have d84:=Dis.newg hg_ lt_d84;have d85:=Dis.newg hg_ lt_d85;refine sA 1 L fun a s L=>?_;refine es ?_;subst h;exact wp_ret (ze6 J L J)
theorem zb8 {d_:SDesc} {r_:(List SItem)} (h:zb1 d_ r_):Fn Tryd.prog 26 [(Pd.rep En.SDesc d_)] (Ro En.SItem 47 r_):=by
 unfold zb1 at h;refine zby Tryd.func26 J Tryd.ntmps26 (by rfl) (by simp) fun s0 a L=>?_;refine rs (sA 1 L fun a s L=>?_);refine sno En.SItem 47 L fun a s L=>?_;refine es ?_;obtain ⟨h1,h⟩:=h;refine rs (sA 4 L fun a s L=>?_);refine sv (zbn (x:=(1,(d_.length:Int)-1,0,0)) (ps:=[(0,.const (.int .i64 1)),(1,.tmp 6)]) zdw J zfv (.cons (i:=0) op J (zq (zl _ _ _)) (.cons (i:=1) op J (zj (zq (zl _ _ _)) J) .nil)) J J) L fun a s L=>?_;refine zb6 (xs:=[.tmp 7]) 8 L (.cons op .nil) Ud.h Tq.h J J (by decide) J J J J fun a s g2 hg_ L=>?_;refine sA 1 L fun a s L=>?_;refine es ?_;subst h;exact wp_ret (ze6 J L J)
end Go.Proofs.YtaknifhhnhcchaaDoor.V
namespace Go.Proofs.YtaknifhhnhcchaaDoor.V.VD
open Go
abbrev En:=Go.Proofs.YtaknifhhnhcchaaDoor.V.En
abbrev En.int:=Go.Proofs.YtaknifhhnhcchaaDoor.V.En.int
abbrev St:=Go.Proofs.YtaknifhhnhcchaaDoor.V.St
abbrev Gl:=Go.Proofs.YtaknifhhnhcchaaDoor.V.Gl
abbrev Fn:=@Go.Proofs.YtaknifhhnhcchaaDoor.V.Fn true dLe
abbrev Rq:=@Go.Proofs.YtaknifhhnhcchaaDoor.V.Rq true dLe
abbrev Pd.rep {α:Type} (E:V.En α) (x:α):@V.Pd true dLe:=@V.Pd.rep true dLe α E x
end Go.Proofs.YtaknifhhnhcchaaDoor.V.VD
namespace Go.Proofs.YtaknifhhnhcchaaDoor.V
open Go Go.Shelf Go.Sort
set_option linter.unusedVariables false
theorem grow_of {w w':World} (hd:w.drawn≤w'.drawn) (ho:w'.os=w.os) (ht:w'.tape=w.tape) (hu:w'.output=w.output) (hs:w.heap.size≤w'.heap.size) (hb:∀b,b<w.heap.size→w'.heap[b]?=w.heap[b]?):∃q os,w'=Sort.grow (w.drewN q) os:=by
 refine ⟨w'.drawn-w.drawn,w'.heap.extract w.heap.size w'.heap.size, ?_⟩;have hh:w'.heap=w.heap++w'.heap.extract w.heap.size w'.heap.size:=by
  apply Array.ext_getElem?;intro i;rw [Array.getElem?_append];split
  ·exact hb i ‹_›
  ·rw [Array.getElem?_extract]
   rename_i h
   by_cases hi:i<w'.heap.size
   ·rw [if_pos (by omega)];congr 1;omega
   ·rw [if_neg (by omega),Array.getElem?_eq_none (by omega)]
 have hd2:w'.drawn=w.drawn+(w'.drawn-w.drawn):=by omega
 obtain ⟨h1,t1,d1,o1,u1⟩:=w';obtain ⟨h0,t0,d0,o0,u0⟩:=w;simp only at *;subst ho ht hu;unfold Sort.grow World.drewN;simp only;rw [← hh,← hd2]
section
attribute [local instance] dLe
theorem cmp_grow {P:Program} {g:FuncId} {α:Type} {E':VD.En α} {x y:α} {c:Int} (hc:VD.Fn P g [VD.Pd.rep E' x,VD.Pd.rep E' y] (VD.Rq (VD.Pd.rep (VD.En.int .i64) c))) (s:VD.St) (hg:VD.Gl s) {cx cy:List Value} (hx:E'.R s.w (zc4 s) cx x) (hy:E'.R s.w (zc4 s) cy y):
  Calls P g #[E'.val cx,E'.val cy] s.w fun e w'=>e = .returned (.int .i64 c)∧∃q os',w'=Sort.grow (s.w.drewN q) os':=
 (hc.run s [E'.val cx,E'.val cy] hg ⟨⟨cx,rfl,hx⟩,⟨cy,rfl,hy⟩,trivial⟩).mono fun e w' ⟨v,s',he,hw,hX,hq⟩=>by
  subst he;subst hw;refine ⟨by rw [(z7.1 hq).1],grow_of hX.mv.dr hX.mv.os hX.mv.tape hX.mv.output hX.mv.size fun b hb=>hX.mv.blk b hb id⟩
end
theorem swo_cmp {α:Type} {cf:α→α→Int} (h0:∀x,cf x x=0) (ha:∀x y,cf y x = -cf x y) (ht:∀x y z,cf x y≤0→cf y z≤0→cf x z≤0):SWO (Go.Proofs.ltOf cf) where
 irrefl x:=by unfold Go.Proofs.ltOf;rw [h0];rfl
 trans x y z h1 h2:=by
  unfold Go.Proofs.ltOf at *;simp only [decide_eq_true_eq] at *;have a1:=ha x y;have a2:=ha y z;have a3:=ha x z;rcases Int.lt_or_le (cf x z) 0 with h | h
  ·exact h
  ·have:=ht z x y (by omega) (by omega);omega
 ntrans x y z h1 h2:=by
  unfold Go.Proofs.ltOf at *;simp only [decide_eq_false_iff_not,Int.not_lt] at *;have a1:=ha x y;have a2:=ha y z;have a3:=ha x z;have:=ht z y x (by omega) (by omega);omega
theorem put_block {w:World} {b:Nat} {cur:Array Value} {te:TypeId} {F:Array Value} (m:Nat) (os:Array Obj) (hb:w.heap[b]?=some (.cells cur te (0,0))):
  (Sort.grow (putRow id (Sort.ahead w m) b 0 F) os).heap[b]?=some (.cells (putCells id 0 F cur) te (0,0)):=by
 have hlt:=(Array.getElem?_eq_some_iff.1 hb).1;unfold Sort.grow putRow mapBlock;simp only;rw [Array.getElem?_append_left (by simpa [Sort.ahead] using hlt),Array.getElem?_modify,if_pos rfl];show Option.map _ (w.heap[b]?)=_;rw [hb];rfl
theorem put_other {w:World} {b c:Nat} {F:Array Value} (m:Nat) (os:Array Obj) (hc:c<w.heap.size) (hne:c≠b):(Sort.grow (putRow id (Sort.ahead w m) b 0 F) os).heap[c]?=w.heap[c]?:=by
 unfold Sort.grow putRow mapBlock;simp only;rw [Array.getElem?_append_left (by simpa [Sort.ahead] using hc),Array.getElem?_modify,if_neg (Ne.symm hne)];rfl
theorem flat_idx {css:List (List Value)} {k:Nat} (hk:0<k) (h:∀cs∈css,cs.length=k) (j:Nat):css.flatten[j]?=(css[j / k]?).bind (fun cs=>cs[j % k]?):=by
 cases hi:css[j / k]? with
 | none=>
  rw [Option.bind_none,List.getElem?_eq_none];rw [zd8 h];have:=List.getElem?_eq_none_iff.1 hi;have h2:=Nat.div_add_mod j k;have h3:css.length*k≤(j / k)*k:=Nat.mul_le_mul_right _ this;rw [Nat.mul_comm] at h2;omega
 | some cs=>
  have hc:cs.length=k:=h cs (List.mem_of_getElem? hi);have hm:=Nat.mod_lt j hk;have e:cs[j % k]?=some cs[j % k]:=List.getElem?_eq_getElem (by omega);have:=zez h hi e;rw [Nat.mul_comm,Nat.div_add_mod] at this;rw [this,Option.bind_some,e]
theorem fm_sort {P:Program} {ρ:Ren} (L:Go.Proofs.SlLaysF0.n6 P ρ) {α:Type} {E:En α} {E':VD.En α} {te:TypeId} {g:FuncId} {cf:α→α→Int} (ht24:ρ.t 24=te) (hE:Ty P te E) (hA:E.agg=true) (hA':E'.agg=true) (hR:∀{w S cs x},E.R w S cs x→E'.R w S cs x)
  (hf:∀(args:Array Value) (w:World),(callFunc (ρ.f 6) args).run P w = .ok (.enter (ρ.f 6) args) w) (eg:∀(args:Array Value) (w:World),(callFunc g args).run P w = .ok (.enter g args) w) (hO:SWO (Go.Proofs.ltOf cf)) {xs:List α} (hlen:xs.length≤2147483648)
  (hc:∀x∈xs,∀y∈xs,VD.Fn P g [VD.Pd.rep E' x,VD.Pd.rep E' y] (VD.Rq (VD.Pd.rep (VD.En.int .i64) (cf x y)))) (v0:Value):
  Fm P (ρ.f 6) (fun b=>v0.ownBlock=some b) [Pd.prow E te v0 xs,Pd.is (.func (.func g) #[] #[])] (fun _ s' _=>∃ys:List α,ys.Perm xs∧ys.Pairwise (fun a b=>¬ cf b a<0)∧(Pd.prow E te v0 ys).p s' v0):=by
 refine ⟨hf,fun s vs hgl hX hv=>?_⟩
 match vs,hv with
 | [v,fv],⟨⟨hv0,hrow⟩,hfv,_⟩=>
 have hfv:fv = .func (.func g) #[] #[]:=hfv;subst hfv;subst hv0;obtain ⟨h1,h2,h3,css,hEl,how⟩:=hrow
 by_cases hx0:xs=[]
 ·subst hx0;obtain ⟨p,cap,rfl⟩:∃p cap,v = .slice p 0 cap:=by
   rcases how.2 with ⟨e,_⟩ | ⟨b,cap,cur,e,_⟩
   ·exact ⟨none,0,e⟩
   ·exact ⟨_,cap,e⟩
  refine (Go.Proofs.AnyF.slices_SortFunc_none L p cap _ s.w).mono fun e w' ⟨he,hw⟩=>?_;subst he;subst hw;exact ⟨_,s,rfl,rfl,Fr.refl hX,[],.refl _,List.Pairwise.nil,rfl,h1,h2,h3,css,hEl,how⟩
 have hpos:0<xs.length:=List.length_pos_iff.2 hx0;rcases how.2 with ⟨e,hn⟩ | ⟨b,cap,cur,hvb,hN,hgb,hnc,hcm,hcs,htk⟩
 ·omega
 subst hvb;have hlens:=hEl.lens;have hXb:s.X b:=h2 b rfl;have hblt:b<s.w.heap.size:=s.lt b hXb
 let α':={p:List Value × α // E.R s.w (zc4 s) p.1 p.2∧p.2∈xs}
 have hel:∀i:Fin xs.length,E.R s.w (zc4 s) (css[i.1]'(by rw [hEl.1];exact i.2)) xs[i.1]∧xs[i.1]∈xs:=fun i=>⟨hEl.2 i.1 _ _ (List.getElem?_eq_getElem _) (List.getElem?_eq_getElem _),List.getElem_mem _⟩
 let d:Array α':=Array.ofFn fun i:Fin xs.length=>⟨(css[i.1]'(by rw [hEl.1];exact i.2),xs[i.1]),hel i⟩
 have hdn:d.size=xs.length:=by simp [d]
 haveI:Inhabited α':=⟨d[0]'(by rw [hdn];exact hpos)⟩
 let enc:α'→List Value:=fun p=>p.1.1
 have hk:∀x:α',(enc x).length=E.sz:=fun x=>E.len x.2.1;have hone:∀x:α',∀u∈enc x,u.oneCell'=true:=fun x=>E.one x.2.1;have hdl:d.toList.map (fun p=>p.1.1)=css:=by
  apply List.ext_getElem?;intro i;simp only [d,List.getElem?_map,Array.toList_ofFn,List.getElem?_ofFn]
  by_cases hi:i<xs.length
  ·rw [dif_pos hi,Option.map_some,List.getElem?_eq_getElem (by rw [hEl.1];exact hi)]
  ·rw [dif_neg hi,Option.map_none,List.getElem?_eq_none (by rw [hEl.1];omega)]
 have hdx:d.toList.map (fun p=>p.1.2)=xs:=by
  apply List.ext_getElem?;intro i;simp only [d,List.getElem?_map,Array.toList_ofFn,List.getElem?_ofFn]
  by_cases hi:i<xs.length
  ·rw [dif_pos hi,Option.map_some,List.getElem?_eq_getElem hi]
  ·rw [dif_neg hi,Option.map_none,List.getElem?_eq_none (by omega)]
 have hflat:∀(q:Array α') (j:Nat),j<q.size*E.sz→(q.toList.map (fun p=>p.1.1)).flatten[j]?=some (flatK enc E.sz q)[j]!:=by
  intro q j hj;have hjk:j / E.sz<q.size:=Nat.div_lt_of_lt_mul (by rw [Nat.mul_comm];exact hj);rw [flat_idx E.pos (fun cs hcs=>by obtain ⟨p,hp,rfl⟩:=List.mem_map.1 hcs;exact E.len p.2.1),get_flatK _ _ _ _ hj,List.getElem?_map,Array.getElem?_toList,Array.getElem?_eq_getElem hjk];simp only [Option.map_some,Option.bind_some];rw [getElem!_pos q (j / E.sz) hjk];have hm:j % E.sz<(enc q[j / E.sz]).length:=by rw [hk];exact Nat.mod_lt _ E.pos
  rw [getElem!_pos (enc q[j / E.sz]) _ hm];exact List.getElem?_eq_getElem hm
 have hH:HoldsK enc E.sz s.w b 0 d:=by
  intro j hj;rw [size_flatK] at hj;have hf:=hflat d j hj;rw [hdl] at hf;have hcj:cur[j]?=some (flatK enc E.sz d)[j]!:=by
   rw [← htk,List.getElem?_take] at hf;split at hf
   ·simpa using hf
   ·cases hf
  refine ⟨?_, ?_⟩
  ·rw [Nat.zero_add,cell_of_row s.w b j cur te (0,0) hgb];exact hcj
  ·unfold World.frozen?;simp [hgb]
 have hO':SWO (Go.Proofs.ltOf fun p q:α'=>cf p.1.2 q.1.2):=⟨fun x=>hO.irrefl x.1.2,fun x y z=>hO.trans x.1.2 y.1.2 z.1.2,fun x y z=>hO.ntrans x.1.2 y.1.2 z.1.2⟩;have hcmp:Go.Proofs.CmpLays P g #[] enc E.sz (fun p q:α'=>cf p.1.2 q.1.2) b 0 d.size s.w:=by
  intro m os dk hdk x y;have hsz:s.w.heap.size≤(sortWorldK enc E.sz s.w b 0 m dk os).heap.size:=Go.Proofs.size_sortWorldK_c enc E.sz s.w b 0 m dk os;have hoth:∀c,c<s.w.heap.size→c≠b→(sortWorldK enc E.sz s.w b 0 m dk os).heap[c]?=s.w.heap[c]?:=fun c hc hne=>put_other m os hc hne
  let sd:VD.St:=⟨sortWorldK enc E.sz s.w b 0 m dk os,fun c=>c=b,fun c hc=>by subst hc;omega⟩
  have hgd:VD.Gl sd:=by
   have key:∀c o,¬ s.X c→s.w.heap[c]?=some o→c≠b∧sd.w.heap[c]?=some o:=fun c o k1 k2=>by
    have hpb:c≠b:=fun e=>k1 (e ▸ hXb);exact ⟨hpb,(hoth c (Array.getElem?_eq_some_iff.1 k2).1 hpb).trans k2⟩
   refine ⟨fun p hp=>?_,fun p hp=>?_⟩
   ·obtain ⟨k1,t,fr,k2⟩:=hgl.1 p hp;obtain ⟨k3,k4⟩:=key _ _ k1 k2;exact ⟨k3,t,fr,k4⟩
   ·obtain ⟨k1,m',t,fr,es,clock,ys,k2,k3,k4,k5,k6⟩:=hgl.2 p hp;obtain ⟨j1,j2⟩:=key _ _ k1 k2;obtain ⟨j3,j4⟩:=key _ _ k3 k4;exact ⟨j1,m',t,fr,es,clock,ys,j2,j3,j4,k5,k6⟩
  have hfoot:∀c,zc4 s c→zc4 sd c:=fun c hc=>⟨Nat.lt_of_lt_of_le hc.1 hsz,fun e=>hc.2 (e ▸ hXb)⟩;have conv:∀z:α',E'.R sd.w (zc4 sd) (enc z) z.1.2:=fun z=>E'.mono hfoot (E'.move (fun c hc=>hoth c hc.1 (fun e=>hc.2 (e ▸ hXb))) (hR z.2.1))
  have:=cmp_grow (hc _ x.2.2 _ y.2.2) sd hgd (conv x) (conv y);have hval:∀z:α',E'.val (enc z) = .agg (enc z).toArray:=fun z=>by unfold En.val;rw [hA'];rfl
  rw [hval,hval] at this;exact this
 have hmain:=Go.Proofs.AnyQ.slices_SortFunc L E.sz (fun w=>by rw [ht24,← hA];exact zfx hE w) (fun w=>by rw [ht24];exact z6 hE w) enc hk hone (fun p q:α'=>cf p.1.2 q.1.2) hO' g #[] b 0 cap d s.w eg hcmp hH hblt (by rw [hdn];omega);rw [hdn] at hmain;refine hmain.mono fun e w' ⟨he,d',m,os,hP,hS,hw⟩=>?_;subst he;subst hw;have hd'n:d'.size=xs.length:=hP.1.trans hdn;have hsz:s.w.heap.size≤(sortWorldK enc E.sz s.w b 0 m d' os).heap.size:=Go.Proofs.size_sortWorldK_c enc E.sz s.w b 0 m d' os
 let s':St:=⟨sortWorldK enc E.sz s.w b 0 m d' os,s.X,fun c hc=>Nat.lt_of_lt_of_le (s.lt c hc) hsz⟩
 have hmv:Mv (fun c=>(Value.slice (some ⟨b,0,none⟩) xs.length cap).ownBlock=some c) s s':=
  ⟨trivial,rfl,rfl,rfl,hsz,fun c hc hne=>put_other m os hc (fun e=>hne (by rw [e];rfl)),fun c hc=>hX c hc,fun c hc=>.inl hc⟩
 refine ⟨_,s',rfl,rfl,⟨hmv,fun c hc=>hc⟩,d'.toList.map (fun p=>p.1.2), ?_, ?_,rfl,rfl,fun c hc=>h2 c hc,by simp [hd'n];exact h3,d'.toList.map (fun p=>p.1.1),⟨by simp,fun i cs x hi hx=>?_⟩, ?_⟩
 ·have hp:=(hP.2.2).map (fun p:α'=>p.1.2);have e1:(d'.extract 0 xs.length).toList=d'.toList:=by rw [← hd'n];simp
  have e2:(d.extract 0 xs.length).toList=d.toList:=by rw [← hdn];simp
  rw [e1,e2,hdx] at hp;exact hp
 ·rw [List.pairwise_iff_getElem];intro i j hi hj hij;simp only [List.length_map,Array.length_toList] at hi hj;have:=hS i j (Nat.zero_le _) hij (by omega);unfold Go.Proofs.ltOf at this;rw [getElem!_pos d' i hi,getElem!_pos d' j hj] at this;simpa using this
 ·simp only [List.getElem?_map,Array.getElem?_toList] at hi hx;cases hq:d'[i]? with
  | none=>rw [hq] at hi;cases hi
  | some q=>
   rw [hq] at hi hx;simp only [Option.map_some,Option.some.injEq] at hi hx;subst hi;subst hx;exact E.go hmv q.2.1
 ·have hfl:(d'.toList.map (fun p=>p.1.1)).flatten.length=d'.size*E.sz:=by
   rw [zd8 (fun cs hcs=>by obtain ⟨p,hp,rfl⟩:=List.mem_map.1 hcs;exact E.len p.2.1)];simp
  have hle:d'.size*E.sz≤cur.size:=by rw [hcs,hd'n];exact Nat.mul_le_mul_right _ hnc
  refine ⟨by rw [hfl];simp,.inr ⟨b,cap,_,by simp [hd'n],Nat.zero_le _,put_block m os hgb,by simp [hd'n];exact hnc,hcm,by simp [putCells];exact hcs, ?_⟩⟩;apply List.ext_getElem?;intro j;rw [List.getElem?_take];simp only [List.length_map,Array.length_toList];split
  ·rename_i hj
   rw [hflat d' j hj,Array.getElem?_toList];unfold putCells;rw [Array.getElem?_mapIdx,Array.getElem?_eq_getElem (by omega)];simp only [Option.map_some,id];rw [if_pos ⟨Nat.zero_le _,by rw [size_flatK];omega⟩,Nat.sub_zero]
  ·rename_i hj
   rw [List.getElem?_eq_none (by rw [hfl];omega)]
end Go.Proofs.YtaknifhhnhcchaaDoor.V
namespace Go.Proofs.YtaknifhhnhcchaaDoor.V
open Go
set_option linter.unusedVariables false
def z8 (l_:(List SItem)) (s_:(List SItem)) (r_:(List SItem)):Prop:=(([]:(List SItem)).length+l_.length≤2147483648)∧((([]:(List SItem))++l_).length+s_.length≤2147483648)∧r_=(([]:(List SItem))++l_)++s_
def zbt.j1 (s_:(List SItem)) (many_:Int) (r_:(List SBranch)) (out2:(List SBranch)) (done4:Bool):Prop:=(((!done4))=true→(out2.length+[(s_,many_)].length≤2147483648)∧r_=out2++[(s_,many_)])∧(((!done4))=false→r_=out2)
def zbt.j2 (L1_:(List SBranch)→Bool→Int→Prop) (l_:(List SBranch)) (i12:Int) (out30:(List SBranch)) (done32:Bool):Prop:=∃e34:SBranch,at? l_ i12=some e34∧(out30.length+[e34].length≤2147483648)∧(InR .i64 (i12+1))∧L1_ (out30++[e34]) done32 (i12+1)
def zbt.l1 (l_:(List SBranch)) (s_:(List SItem)) (many_:Int) (X1:(List SBranch)→Bool→Prop):Nat→(List SBranch)→Bool→Int→Prop
 | 0,_,_,_=>False
 | k_0+1,out9,done11,i12=>((decide (i12<(l_.length:Int)))=true→∃e18:SBranch,at? l_ i12=some e18∧∃r20:Int,zo s_ e18.1 r20∧(((r20==0))=true→∃e23:SBranch,at? l_ i12=some e23∧(InR .i64 (e23.2+many_))∧(out9.length+[(s_,(min 2 (e23.2+many_)))].length≤2147483648)∧(InR .i64 (i12+1))∧zbt.l1 l_ s_ many_ X1 k_0 (out9++[(s_,(min 2 (e23.2+many_)))]) true (i12+1))∧(((r20==0))=false→((((decide (r20<0))&&(!done11)))=true→(out9.length+[(s_,many_)].length≤2147483648)∧(zbt.j2 (zbt.l1 l_ s_ many_ X1 k_0) l_ i12) (out9++[(s_,many_)]) true)∧((((decide (r20<0))&&(!done11)))=false→(zbt.j2 (zbt.l1 l_ s_ many_ X1 k_0) l_ i12) out9 done11)))∧((decide (i12<(l_.length:Int)))=false→X1 out9 done11)
def zbt (l_:(List SBranch)) (s_:(List SItem)) (many_:Int) (r_:(List SBranch)):Prop:=∃k13,zbt.l1 l_ s_ many_ (zbt.j1 s_ many_ r_) k13 ([]:(List SBranch)) false 0
def zbo.j1 (r_:(List (List SItem))) (out18:(List (List SItem))):Prop:=r_=out18
def zbo.j2 (r_:(List (List SItem))) (out34:(List (List SItem))):Prop:=r_=out34
def zbo.j3 (s_:(List SItem)) (r_:(List (List SItem))) (e1:SItem) (e5:SNode) (out27:(List (List SItem))):Prop:=((decide (0<e1.2.2.2))=true→(InR .i64 (e1.2.2.1-1))∧(InR .i64 (e1.2.2.2-1))∧∃r39:(List SItem),z8 [(1,e5.2.1,0,0),(2,e1.2.1,(max 0 (e1.2.2.1-1)),e1.2.2.2-1)] (s_.drop (1:Int).toNat) r39∧(out27.length+[r39].length≤2147483648)∧(zbo.j2 r_) (out27++[r39]))∧((decide (0<e1.2.2.2))=false→(zbo.j2 r_) out27)
def zbo (d_:SDesc) (s_:(List SItem)) (r_:(List (List SItem))):Prop:=∃e1:SItem,at? s_ 0=some e1∧((0:Int)≤1∧1≤(s_.length:Int))∧∃e5:SNode,at? d_ e1.2.1=some e5∧(((e1.1==5))=true→(((e1.2.2.1==0))=true→∃r21:(List SItem),z8 ([]:(List SItem)) (s_.drop (1:Int).toNat) r21∧(([]:(List (List SItem))).length+[r21].length≤2147483648)∧(zbo.j1 r_) (([]:(List (List SItem)))++[r21]))∧(((e1.2.2.1==0))=false→(zbo.j1 r_) ([]:(List (List SItem)))))∧(((e1.1==5))=false→(((e1.1==2))=true→(((e1.2.2.1==0))=true→∃r43:(List SItem),z8 ([]:(List SItem)) (s_.drop (1:Int).toNat) r43∧(([]:(List (List SItem))).length+[r43].length≤2147483648)∧(zbo.j3 s_ r_ e1 e5) (([]:(List (List SItem)))++[r43]))∧(((e1.2.2.1==0))=false→(zbo.j3 s_ r_ e1 e5) ([]:(List (List SItem)))))∧(((e1.1==2))=false→(((e5.1==1))=true→∃r50:(List SItem),z8 ([]:(List SItem)) (s_.drop (1:Int).toNat) r50∧(([]:(List (List SItem))).length+[r50].length≤2147483648)∧r_=([]:(List (List SItem)))++[r50])∧(((e5.1==1))=false→(((e5.1==3))=true→∃r54:(List SItem),z8 [(3,e1.2.1,0,0)] (s_.drop (1:Int).toNat) r54∧(([]:(List (List SItem))).length+[r54].length≤2147483648)∧r_=([]:(List (List SItem)))++[r54])∧(((e5.1==3))=false→(((e5.1==4))=true→∃r58:(List SItem),z8 [(1,e5.2.1,0,0),(1,e5.2.2.1,0,0)] (s_.drop (1:Int).toNat) r58∧(([]:(List (List SItem))).length+[r58].length≤2147483648)∧r_=([]:(List (List SItem)))++[r58])∧(((e5.1==4))=false→(((e5.1==5))=true→∃r62:(List SItem),z8 [(1,e5.2.1,0,0)] (s_.drop (1:Int).toNat) r62∧∃r64:(List SItem),z8 [(1,e5.2.2.1,0,0)] (s_.drop (1:Int).toNat) r64∧(([]:(List (List SItem))).length+[r62,r64].length≤2147483648)∧r_=([]:(List (List SItem)))++[r62,r64])∧(((e5.1==5))=false→(((e5.1==6))=true→∃r68:(List SItem),z8 ([]:(List SItem)) (s_.drop (1:Int).toNat) r68∧∃r70:(List SItem),z8 [(1,e5.2.1,0,0),e1] (s_.drop (1:Int).toNat) r70∧(([]:(List (List SItem))).length+[r68,r70].length≤2147483648)∧r_=([]:(List (List SItem)))++[r68,r70])∧(((e5.1==6))=false→(((e5.1==7))=true→∃r74:(List SItem),z8 [(2,e1.2.1,e5.2.2.2.1,e5.2.2.2.2.1)] (s_.drop (1:Int).toNat) r74∧(([]:(List (List SItem))).length+[r74].length≤2147483648)∧r_=([]:(List (List SItem)))++[r74])∧(((e5.1==7))=false→r_=([]:(List (List SItem)))))))))))
def zbm.j1 (r_:(List SBranch)) (l11:(List SBranch)):Prop:=r_=l11
def zbm.l1 (n_:SDesc→(List SItem)→(List SBranch)→(List SBranch)→Prop) (d_:SDesc) (r8:(List (List SItem))) (X1:(List SBranch)→Prop):Nat→(List SBranch)→Int→Prop
 | 0,_,_=>False
 | k_0+1,l13,i14=>((decide (i14<(r8.length:Int)))=true→∃e20:(List SItem),at? r8 i14=some e20∧∃r22:(List SBranch),n_ d_ e20 l13 r22∧(InR .i64 (i14+1))∧zbm.l1 n_ d_ r8 X1 k_0 r22 (i14+1))∧((decide (i14<(r8.length:Int)))=false→X1 l13)
def zbm.n:Nat→SDesc→(List SItem)→(List SBranch)→(List SBranch)→Prop
 | 0,_,_,_,_=>False
 | k_+1,d_,s_,l_,r_=>∃r2:Bool,zcz d_ s_ r2∧((r2)=true→∃r4:(List SItem),z8 ([]:(List SItem)) s_ r4∧∃r6:(List SBranch),zbt l_ r4 1 r6∧r_=r6)∧((r2)=false→∃r8:(List (List SItem)),zbo d_ s_ r8∧∃k15,zbm.l1 (zbm.n k_) d_ r8 (zbm.j1 r_) k15 l_ 0)
def zbm (d_:SDesc) (s_:(List SItem)) (l_:(List SBranch)) (r_:(List SBranch)):Prop:=∃k_,zbm.n k_ d_ s_ l_ r_
def ref14_Heads (d_:SDesc) (s_:(List SItem)) (r_:(List SBranch)):Prop:=∃r1:(List SBranch),zbm d_ s_ ([]:(List SBranch)) r1∧r_=r1
theorem dt {p:Prop} [Decidable p] (h:decide p=true):p:=of_decide_eq_true h
theorem df {p:Prop} [Decidable p] (h:decide p=false):¬ p:=of_decide_eq_false h
theorem upto {σ:Type} {P:Nat→σ→Int→Prop} (n:Nat) (I:Nat→σ→Prop)
  (hs:∀i s,i<n→I i s→(∀k,P (k+1) s (i:Int))∨∃s',I (i+1) s'∧∀k,P k s' ((i:Int)+1)→P (k+1) s (i:Int))
  (hx:∀s,I n s→∀k,P (k+1) s (n:Int)) (s:σ) (h:I 0 s):∃k,P k s 0:=by
 have:∀m i s,i+m=n→I i s→∃k,P k s (i:Int):=by
  intro m
  induction m with
  | zero=>intro i s hi hI;have:i=n:=by omega
          subst this;exact ⟨1,hx s hI 0⟩
  | succ m ih=>
   intro i s hi hI;rcases hs i s (by omega) hI with h | ⟨s',h1,h2⟩
   ·exact ⟨1,h 0⟩
   ·obtain ⟨k,hk⟩:=ih (i+1) s' (by omega) h1;exact ⟨k+1,h2 k (by simpa using hk)⟩
 simpa using this n 0 s (by omega) h
theorem run {σ:Type} {P:Nat→σ→Prop} (I:σ→Prop) (μ:σ→Nat) (h:∀s,I s→(∀k,P (k+1) s)∨∃s',I s'∧μ s' < μ s∧∀k,P k s'→P (k+1) s) (s:σ) (hI:I s):∃k,P k s:=by
 have:∀m s,μ s<m→I s→∃k,P k s:=by
  intro m
  induction m with
  | zero=>intro s hs;omega
  | succ m ih=>
   intro s hs hI;rcases h s hI with h1 | ⟨s',h1,h2,h3⟩
   ·exact ⟨1,h1 0⟩
   ·obtain ⟨k,hk⟩:=ih s' (by omega) h1;exact ⟨k+1,h3 k hk⟩
 exact this (μ s+1) s (by omega) hI
theorem zw {x:Int} (h1:-9223372036854775808≤x) (h2:x≤9223372036854775807):InR .i64 x:=zf7.2 ⟨h1,h2⟩
theorem zbz {α:Type} {xs:List α} {i:Nat}:at? xs (i:Int)=xs[i]?:=by
 unfold at?;rw [if_pos (by omega)];simp
theorem dig10:∀d:Fin 10,(UInt8.ofNat (48+d.1)).toNat=48+d.1:=by decide
theorem dec_ge (u:Nat):∀c∈Lib.decDigits u,48≤c.toNat∧c.toNat≤57:=by
 induction u using Nat.strongRecOn with
 | ind u ih=>
  intro c hc;have hd:∀d,d<10→(UInt8.ofNat (48+d)).toNat=48+d:=fun d hd=>dig10 ⟨d,hd⟩;rw [Lib.decDigits] at hc;split at hc
  ·rename_i h
   rw [List.mem_singleton.1 hc,hd u h];omega
  ·rename_i h
   rcases List.mem_append.1 hc with hc | hc
   ·exact ih (u / 10) (by omega) c hc
   ·rw [List.mem_singleton.1 hc,hd _ (Nat.mod_lt _ (by omega))];omega
def valD (l:List UInt8):Nat:=l.foldl (fun a c=>10*a+(c.toNat-48)) 0
theorem zfn (u:Nat):valD (Lib.decDigits u)=u:=by
 induction u using Nat.strongRecOn with
 | ind u ih=>
  have hd:∀d,d<10→(UInt8.ofNat (48+d)).toNat=48+d:=fun d hd=>dig10 ⟨d,hd⟩;rw [Lib.decDigits];split
  ·rename_i h
   simp only [valD,List.foldl_cons,List.foldl_nil,hd u h];omega
  ·rename_i h
   have:=ih (u / 10) (by omega);unfold valD at this ⊢;rw [List.foldl_append,this];simp only [List.foldl_cons,List.foldl_nil,hd _ (Nat.mod_lt u (show 10 > 0 by omega))];omega
theorem zgp (n:Int):∀c∈Lib.itoa n,c≠32:=by
 intro c hc he;subst he;unfold Lib.itoa at hc;split at hc
 ·rcases List.mem_cons.1 hc with h | h
  ·exact absurd h (by decide)
  ·have:=(dec_ge _ _ h).1;exact absurd this (by decide)
 ·have:=(dec_ge _ _ hc).1;exact absurd this (by decide)
theorem itoa_inj {n m:Int} (h:Lib.itoa n=Lib.itoa m):n=m:=by
 have no45:∀u (l:List UInt8),Lib.decDigits u≠45::l:=fun u l he=>by
  have:=(dec_ge u 45 (by rw [he];simp)).1;exact absurd this (by decide)
 unfold Lib.itoa at h;split at h <;> split at h
 ·have:=congrArg valD (List.cons.inj h).2;rw [zfn,zfn] at this;omega
 ·exact absurd h.symm (no45 _ _)
 ·exact absurd h (no45 _ _)
 ·have:=congrArg valD h;rw [zfn,zfn] at this;omega
theorem at_none {α:Type} {xs:List α} {i:Int} (h:i<0∨(xs.length:Int)≤i):at? xs i=none:=by
 unfold at?;split
 ·exact List.getElem?_eq_none (by omega)
 ·rfl
theorem at_in {α:Type} {xs:List α} {i:Int} (h0:0≤i) (h1:i<(xs.length:Int)):∃x,at? xs i=some x∧x∈xs:=by
 refine ⟨xs[i.toNat]'(by omega), ?_,List.getElem_mem _⟩;unfold at?;rw [if_pos h0];exact List.getElem?_eq_getElem _
theorem uptoK {σ:Type} {P:Nat→σ→Int→Prop} (n:Nat) (I:Nat→σ→Prop)
  (hs:∀i s k,i<n→I i s→(∀s',I (i+1) s'→P k s' ((i:Int)+1))→P (k+1) s (i:Int))
  (hx:∀s,I n s→∀k,P (k+1) s (n:Int)) (s:σ) (h:I 0 s):∃k,P k s 0:=by
 have:∀m i s,i+m=n→I i s→P (m+1) s (i:Int):=by
  intro m
  induction m with
  | zero=>intro i s hi hI;have:i=n:=by omega
          subst this;exact hx s hI 0
  | succ m ih=>
   intro i s hi hI;exact hs i s (m+1) (by omega) hI fun s' h'=>by simpa using ih (i+1) s' (by omega) h'
 exact ⟨n+1,by simpa using this n 0 s (by omega) h⟩
theorem zf3 (x y:Int) (a b:List Int):zdi (x::a) (y::b)=if sgnI x y≠0 then sgnI x y else zdi a b:=by
 unfold sgnI;rw [zdi]
 by_cases h1:x<y
 ·simp [h1]
 ·by_cases h2:y<x
  ·simp [h1,h2]
  ·simp [h1,h2]
theorem zbx (b:List Int):zdi [] b=0:=by cases b <;> rfl
theorem zdd (a:List Int):zdi a []=0:=by cases a <;> rfl
theorem cmpItem_lex (x y:SItem):cmpItem x y=zdi (zbs x) (zbs y):=by
 unfold cmpItem zbs;simp only [zf3,zhf,zbx]
theorem lexI_app {a b:List Int} (h:a.length=b.length) (u v:List Int):zdi (a++u) (b++v)=if zdi a b≠0 then zdi a b else zdi u v:=by
 induction a generalizing b with
 | nil=>
  cases b with
  | nil=>simp [zbx]
  | cons y b=>simp at h
 | cons x a ih=>
  cases b with
  | nil=>simp at h
  | cons y b=>
   simp only [List.cons_append,zf3];rw [ih (by simpa using h)];split <;> simp_all
theorem lexI_self (a:List Int):zdi a a=0:=by
 induction a with
 | nil=>rfl
 | cons x a ih=>rw [zdi,if_neg (by omega),if_neg (by omega),ih]
theorem lexI_anti (a b:List Int):zdi b a = -zdi a b:=by
 induction a generalizing b with
 | nil=>rw [zbx,zdd];rfl
 | cons x a ih=>
  cases b with
  | nil=>rw [zbx,zdd];rfl
  | cons y b=>
   rw [zdi,zdi]
   by_cases h1:x<y
   ·rw [if_neg (by omega),if_pos h1,if_pos h1];rfl
   ·by_cases h2:y<x
    ·rw [if_pos h2,if_neg h1,if_pos h2]
    ·rw [if_neg h2,if_neg h1,if_neg h1,if_neg h2,ih]
theorem lexI_zero {a b:List Int} (hl:a.length=b.length) (h:zdi a b=0):a=b:=by
 induction a generalizing b with
 | nil=>cases b with
  | nil=>rfl
  | cons y b=>simp at hl
 | cons x a ih=>
  cases b with
  | nil=>simp at hl
  | cons y b=>
   rw [zdi] at h
   by_cases h1:x<y
   ·rw [if_pos h1] at h;cases h
   ·by_cases h2:y<x
    ·rw [if_neg h1,if_pos h2] at h;cases h
    ·rw [if_neg h1,if_neg h2] at h;rw [ih (by simpa using hl) h,show x=y by omega]
theorem lexI_trans {a b c:List Int} (h1:a.length=b.length) (h2:b.length=c.length) (h:zdi a b<0) (k:zdi b c<0):zdi a c<0:=by
 induction a generalizing b c with
 | nil=>rw [zbx] at h;omega
 | cons x a ih=>
  cases b with
  | nil=>simp at h1
  | cons y b=>
   cases c with
   | nil=>simp at h2
   | cons z c=>
    rw [zdi] at h k ⊢
    by_cases e1:x<y
    ·by_cases e2:y<z
     ·rw [if_pos (by omega)];omega
     ·by_cases e3:z<y
      ·rw [if_neg e2,if_pos e3] at k;omega
      ·rw [if_pos (by omega)];omega
    ·by_cases e2:y<x
     ·rw [if_neg e1,if_pos e2] at h;omega
     ·rw [if_neg e1,if_neg e2] at h
      by_cases e3:y<z
      ·rw [if_pos (by omega)];omega
      ·by_cases e4:z<y
       ·rw [if_neg e3,if_pos e4] at k;omega
       ·rw [if_neg e3,if_neg e4] at k;rw [if_neg (by omega),if_neg (by omega)];exact ih (by simpa using h1) (by simpa using h2) h k
theorem zcq (x:SItem) (s:List SItem):zb7 (x::s)=zbs x++zb7 s:=by simp [zb7]
theorem zbw (l:List SItem):(zb7 l).length=4*l.length:=by
 induction l with
 | nil=>rfl
 | cons x l ih=>rw [zcq,List.length_append,ih];simp [zbs];omega
theorem numsS_inj {s t:List SItem} (h:zb7 s=zb7 t):s=t:=by
 induction s generalizing t with
 | nil=>
  cases t with
  | nil=>rfl
  | cons y t=>rw [zcq] at h;simp [zb7,zbs] at h
 | cons x s ih=>
  cases t with
  | nil=>rw [zcq] at h;simp [zb7,zbs] at h
  | cons y t=>
   rw [zcq,zcq] at h;obtain ⟨x1,x2,x3,x4⟩:=x;obtain ⟨y1,y2,y3,y4⟩:=y;simp only [zbs,List.cons_append,List.nil_append,List.cons.injEq] at h;obtain ⟨rfl,rfl,rfl,rfl,h⟩:=h;rw [ih h]
theorem zb9 {a b:List SItem}:zcv a b=0↔a=b:=by
 constructor
 ·intro h;unfold zcv numsL at h;rw [zdi] at h
  by_cases h1:(a.length:Int)<(b.length:Int)
  ·rw [if_pos h1] at h;cases h
  ·by_cases h2:(b.length:Int)<(a.length:Int)
   ·rw [if_neg h1,if_pos h2] at h;cases h
   ·rw [if_neg h1,if_neg h2] at h;exact numsS_inj (lexI_zero (by rw [zbw,zbw];omega) h)
 ·rintro rfl;exact lexI_self _
theorem zd0 (a b:List SItem):zcv b a = -zcv a b:=lexI_anti _ _
theorem zdh {a b c:List SItem} (h:zcv a b<0) (k:zcv b c<0):zcv a c<0:=by
 unfold zcv numsL at *;rw [zdi] at h k ⊢
 by_cases e1:(a.length:Int)<(b.length:Int)
 ·by_cases e2:(b.length:Int)<(c.length:Int)
  ·rw [if_pos (by omega)];omega
  ·by_cases e3:(c.length:Int)<(b.length:Int)
   ·rw [if_neg e2,if_pos e3] at k;omega
   ·rw [if_pos (by omega)];omega
 ·by_cases e2:(b.length:Int)<(a.length:Int)
  ·rw [if_neg e1,if_pos e2] at h;omega
  ·rw [if_neg e1,if_neg e2] at h
   by_cases e3:(b.length:Int)<(c.length:Int)
   ·rw [if_pos (by omega)];omega
   ·by_cases e4:(c.length:Int)<(b.length:Int)
    ·rw [if_neg e3,if_pos e4] at k;omega
    ·rw [if_neg e3,if_neg e4] at k;rw [if_neg (by omega),if_neg (by omega)];exact lexI_trans (by rw [zbw,zbw];omega) (by rw [zbw,zbw];omega) h k
theorem cut32 {a b:List UInt8} (ha:∀c∈a,c≠32) (hb:∀c∈b,c≠32) {u v:List UInt8} (h:a++32::u=b++32::v):a=b∧u=v:=by
 induction a generalizing b with
 | nil=>
  cases b with
  | nil=>exact ⟨rfl,(List.cons.inj h).2⟩
  | cons y b=>exact absurd (List.cons.inj h).1.symm (hb y (by simp))
 | cons x a ih=>
  cases b with
  | nil=>exact absurd (List.cons.inj h).1 (ha x (by simp))
  | cons y b=>
   obtain ⟨h1,h2⟩:=List.cons.inj h;obtain ⟨h3,h4⟩:=ih (fun c hc=>ha c (by simp [hc])) (fun c hc=>hb c (by simp [hc])) h2;exact ⟨by rw [h1,h3],h4⟩
theorem zex (z:Int) (l:List Int):ze9 (z::l)=Lib.itoa z++32::ze9 l:=by simp [ze9]
theorem keyN_inj {l m:List Int} (h:ze9 l=ze9 m):l=m:=by
 induction l generalizing m with
 | nil=>
  cases m with
  | nil=>rfl
  | cons y m=>rw [zex] at h;simp [ze9] at h
 | cons z l ih=>
  cases m with
  | nil=>rw [zex] at h;simp [ze9] at h
  | cons y m=>
   rw [zex,zex] at h;obtain ⟨h1,h2⟩:=cut32 (zgp z) (zgp y) h;rw [itoa_inj h1,ih h2]
theorem zfq {s t:List SItem}:keyS s=keyS t↔s=t:=⟨fun h=>numsS_inj (keyN_inj h),fun h=>by rw [h]⟩
theorem zf1 {α β:Type} {f g:α→Option β} (h:∀a b,f a=some b→g a=some b):∀(l:List α) (r:List β),l.mapM f=some r→l.mapM g=some r
 | [],r,hr=>by simpa using hr
 | a::l,r,hr=>by
  rw [List.mapM_cons] at hr ⊢;cases ha:f a with
  | none=>rw [ha] at hr;simp at hr
  | some b=>
   rw [ha] at hr;cases hl:l.mapM f with
   | none=>rw [hl] at hr;simp at hr
   | some bs=>
    rw [hl] at hr;rw [h a b ha,zf1 h l bs hl];exact hr
theorem lv_mono1 (d:List SNode):∀(h:Nat) (s:List SItem) (l:List (List SItem)),lv d h s=some l→lv d (h+1) s=some l
 | 0,_,_,hl=>by simp [lv] at hl
 | h+1,s,l,hl=>by
  unfold lv at hl ⊢
  by_cases hr:rdy d s=true
  ·rw [if_pos hr] at hl ⊢;exact hl
  ·rw [if_neg hr] at hl ⊢;obtain ⟨ls,h1,h2⟩:=Option.map_eq_some_iff.1 hl;rw [zf1 (lv_mono1 d h) _ _ h1,← h2];rfl
theorem zdx {d:List SNode} {h h':Nat} (hh:h≤h') {s:List SItem} {l:List (List SItem)} (hl:lv d h s=some l):lv d h' s=some l:=by
 obtain ⟨k,rfl⟩:∃k,h'=h+k:=⟨h' - h,by omega⟩;clear hh
 induction k with
 | zero=>exact hl
 | succ k ih=>exact lv_mono1 d (h+k) s l ih
theorem nzL_aux (d:List SNode):∀(l:List Bool),(d.foldl (fun l n=>l++[nzN l n]) l).length=l.length+d.length∧l <+: d.foldl (fun l n=>l++[nzN l n]) l:=by
 induction d with
 | nil=>intro l;exact ⟨by simp,List.prefix_refl _⟩
 | cons n d ih=>
  intro l;obtain ⟨h1,h2⟩:=ih (l++[nzN l n]);exact ⟨by rw [List.foldl_cons,h1];simp;omega,(List.prefix_append _ _).trans h2⟩
theorem nzL_at {d:List SNode} {i:Nat} {n:SNode} (h:d[i]?=some n):(nzL d)[i]?=some (nzN ((nzL d).take i) n):=by
 have hi:=(List.getElem?_eq_some_iff.1 h).1;have hd:d=d.take i++n::d.drop (i+1):=by
  have hn:d[i]=n:=by rw [List.getElem?_eq_getElem hi] at h;exact Option.some.inj h
  rw [← hn,List.getElem_cons_drop,List.take_append_drop]
 have e:nzL d=(d.drop (i+1)).foldl (fun l n=>l++[nzN l n]) (nzL (d.take i)++[nzN (nzL (d.take i)) n]):=by
  unfold nzL
  conv=>lhs;rw [hd]
  rw [List.foldl_append,List.foldl_cons]
 have hl:(nzL (d.take i)).length=i:=by
  have:=(nzL_aux (d.take i) []).1;unfold nzL;rw [this];simp;omega
 have hp:=(nzL_aux (d.drop (i+1)) (nzL (d.take i)++[nzN (nzL (d.take i)) n])).2;rw [← e] at hp;obtain ⟨r,hr⟩:=hp;have ht:(nzL d).take i=nzL (d.take i):=by rw [← hr,List.append_assoc,List.take_append_of_le_length (by omega),List.take_of_length_le (by omega)]
 rw [ht,← hr,List.append_assoc,List.getElem?_append_right (by omega),hl];simp
theorem zde {α:Type} {l:List α} {i:Nat} {k:Int} (h0:0≤k) (h1:k<(i:Int)):at? (l.take i) k=at? l k:=by
 unfold at?;rw [if_pos h0,if_pos h0,List.getElem?_take,if_pos (by omega)]
theorem zho {α:Type} {l:List α} {i:Int} {x:α} (h:at? l i=some x):∃k:Nat,i=(k:Int)∧l[k]?=some x:=by
 unfold at? at h;split at h
 ·exact ⟨i.toNat,by omega,h⟩
 ·cases h
theorem nz_at {d:List SNode} (hd:ROk d) {i:Int} {n:SNode} (h:at? d i=some n):nz d i =
  (if n.1=1 then true else if n.1=4 then nz d n.2.1&&nz d n.2.2.1 else if n.1=5 then nz d n.2.1||nz d n.2.2.1 else if n.1=6 then true else if n.1=7 then decide (n.2.2.2.1=0) else false):=by
 obtain ⟨k,rfl,hk⟩:=zho h;have e:=nzL_at hk;have e2:nz d (k:Int)=nzN ((nzL d).take k) n:=by unfold nz;rw [zbz,e];rfl
 rw [e2];unfold nzN
 by_cases h1:n.1=1
 ·simp [h1]
 ·by_cases h4:n.1=4
  ·obtain ⟨⟨a,b⟩,c,e⟩:=hd.two _ n h (.inl h4);rw [if_neg h1,if_pos h4,if_neg h1,if_pos h4,zde a b,zde c e];rfl
  ·by_cases h5:n.1=5
   ·obtain ⟨⟨a,b⟩,c,e⟩:=hd.two _ n h (.inr h5);rw [if_neg h1,if_neg h4,if_pos h5,if_neg h1,if_neg h4,if_pos h5,zde a b,zde c e];rfl
   ·by_cases h6:n.1=6
    ·simp [h6]
    ·by_cases h7:n.1=7
     ·obtain ⟨a,b⟩:=hd.one _ n h (.inr (.inl h7));have:=hd.nn _ n h (.inr h7);unfold nz at this;rw [if_neg h1,if_neg h4,if_neg h5,if_neg h6,if_pos h7,if_neg h1,if_neg h4,if_neg h5,if_neg h6,if_pos h7,zde a b,this,Bool.or_false]
     ·simp [h1,h4,h5,h6,h7]
theorem ze0 (a:List SItem):zcv a a=0:=zb9.2 rfl
theorem zd9 {a:List SItem} (h:zcv a a<0):False:=by rw [ze0] at h;omega
theorem Can.nil:Can (fun _=>0) []:=⟨List.Pairwise.nil,by simp⟩
theorem sat_ne {a b:Nat} (h:sat a=sat b):(a≠0↔b≠0):=by unfold sat at h;omega
theorem Can.congr {f g:List SItem→Nat} {B:List SBranch} (h:Can f B) (e:∀t,sat (f t)=sat (g t)):Can g B:=
 ⟨h.srt,fun t m=>by rw [h.mem,sat_ne (e t),e t]⟩
theorem zgt:∀{B C:List SBranch},B.Pairwise (fun a b=>zcv a.1 b.1<0)→C.Pairwise (fun a b=>zcv a.1 b.1<0)→(∀x,x∈B↔x∈C)→B=C
 | [],[],_,_,_=>rfl
 | [],c::C,_,_,h=>by have:=(h c).2 (by simp);cases this
 | b::B,[],_,_,h=>by have:=(h b).1 (by simp);cases this
 | b::B,c::C,hB,hC,h=>by
  rw [List.pairwise_cons] at hB hC;have e:b=c:=by
   rcases List.mem_cons.1 ((h b).1 (by simp)) with e | hb
   ·exact e
   ·rcases List.mem_cons.1 ((h c).2 (by simp)) with e | hc
    ·exact e.symm
    ·exact (zd9 (zdh (hB.1 c hc) (hC.1 b hb))).elim
  subst e
  congr 1
  refine zgt hB.2 hC.2 fun x=>⟨fun hx=>?_,fun hx=>?_⟩
  ·rcases List.mem_cons.1 ((h x).1 (by simp [hx])) with e | hh
   ·subst e;exact (zd9 (hB.1 _ hx)).elim
   ·exact hh
  ·rcases List.mem_cons.1 ((h x).2 (by simp [hx])) with e | hh
   ·subst e;exact (zd9 (hC.1 _ hx)).elim
   ·exact hh
theorem Can.uniq {f:List SItem→Nat} {B C:List SBranch} (hB:Can f B) (hC:Can f C):B=C:=zgt hB.srt hC.srt fun ⟨t,m⟩=>by rw [hB.mem,hC.mem]
theorem Can.keys {f:List SItem→Nat} {B:List SBranch} (h:Can f B) (t:List SItem):t∈B.map (·.1)↔f t≠0:=by
 rw [List.mem_map];exact ⟨fun ⟨⟨t',m⟩,h1,h2⟩=>by subst h2;exact ((h.mem _ _).1 h1).1,fun h1=>⟨(t,sat (f t)),(h.mem _ _).2 ⟨h1,rfl⟩,rfl⟩⟩
theorem Can.nodup {f:List SItem→Nat} {B:List SBranch} (h:Can f B):(B.map (·.1)).Nodup:=by
 unfold List.Nodup;rw [List.pairwise_map];exact h.srt.imp fun {a b} hab e=>by rw [e] at hab;exact zd9 hab
theorem Can.many {f:List SItem→Nat} {B:List SBranch} (h:Can f B) {b:SBranch} (hb:b∈B):b.2=sat (f b.1)∧f b.1≠0∧1≤b.2∧b.2≤2:=by
 obtain ⟨h1,h2⟩:=(h.mem b.1 b.2).1 hb;exact ⟨h2,h1,by unfold sat at h2;omega,by unfold sat at h2;omega⟩
def zfm (s:List SItem) (many:Int):List SBranch→List SBranch
 | []=>[(s,many)]
 | b::l=>if zcv s b.1=0 then (s,min 2 (b.2+many))::l else if zcv s b.1<0 then (s,many)::b::l else b::zfm s many l
theorem addB_mem {s:List SItem} {many:Int}:∀{l:List SBranch} {x:SBranch},x∈zfm s many l→x.1=s∨x∈l
 | [],x,h=>by simp only [zfm,List.mem_singleton] at h;subst h;exact .inl rfl
 | b::l,x,h=>by
  unfold zfm at h;split at h
  ·rcases List.mem_cons.1 h with rfl | h
   ·exact .inl rfl
   ·exact .inr (by simp [h])
  ·split at h
   ·rcases List.mem_cons.1 h with rfl | h
    ·exact .inl rfl
    ·exact .inr h
   ·rcases List.mem_cons.1 h with rfl | h
    ·exact .inr (by simp)
    ·exact (addB_mem h).imp id fun h=>by simp [h]
theorem addB_len (s:List SItem) (many:Int) (l:List SBranch):(zfm s many l).length≤l.length+1:=by
 induction l with
 | nil=>simp [zfm]
 | cons b l ih=>unfold zfm;split;· simp
                split <;> simp;omega
theorem addB_srt {s:List SItem} {many:Int}:∀{l:List SBranch},l.Pairwise (fun a b=>zcv a.1 b.1<0)→(zfm s many l).Pairwise (fun a b=>zcv a.1 b.1<0)
 | [],_=>by simp [zfm]
 | b::l,h=>by
  rw [List.pairwise_cons] at h;unfold zfm;split
  ·rename_i h0
   have e:=zb9.1 h0;subst e;exact List.pairwise_cons.2 ⟨h.1,h.2⟩
  ·split
   ·rename_i h1
    refine List.pairwise_cons.2 ⟨fun c hc=>?_,List.pairwise_cons.2 h⟩;rcases List.mem_cons.1 hc with rfl | hc
    ·exact h1
    ·exact zdh h1 (h.1 c hc)
   ·rename_i h0 h1
    refine List.pairwise_cons.2 ⟨fun c hc=>?_,addB_srt h.2⟩;rcases addB_mem hc with e | hc
    ·rw [e];have:=zd0 s b.1;omega
    ·exact h.1 c hc
theorem addB_no {s:List SItem} {many:Int}:∀{l:List SBranch},(∀b∈l,b.1≠s)→l.Pairwise (fun a b=>zcv a.1 b.1<0)→∀x,x∈zfm s many l↔x=(s,many)∨x∈l
 | [],_,_,x=>by simp [zfm]
 | b::l,hn,h,x=>by
  rw [List.pairwise_cons] at h;unfold zfm;rw [if_neg fun h0=>hn b (by simp) (zb9.1 h0).symm];split
  ·simp
  ·rw [List.mem_cons,addB_no (fun c hc=>hn c (by simp [hc])) h.2,List.mem_cons];constructor
   ·rintro (h | h | h) <;> simp [h]
   ·rintro (h | h | h) <;> simp [h]
theorem addB_yes {s:List SItem} {many m:Int}:∀{l:List SBranch},(s,m)∈l→l.Pairwise (fun a b=>zcv a.1 b.1<0)→∀x,x∈zfm s many l↔x=(s,min 2 (m+many))∨(x∈l∧x.1≠s)
 | b::l,hm,h,x=>by
  rw [List.pairwise_cons] at h;unfold zfm
  by_cases hb:zcv s b.1=0
  ·rw [if_pos hb];have e:=zb9.1 hb;have hbm:b=(s,m):=by
    rcases List.mem_cons.1 hm with e' | hm
    ·exact e'.symm
    ·have:=h.1 _ hm;rw [← e] at this;exact (zd9 this).elim
   subst hbm;rw [List.mem_cons,List.mem_cons];constructor
   ·rintro (h' | h')
    ·exact .inl h'
    ·refine .inr ⟨.inr h',fun e'=>?_⟩;have:=h.1 _ h';rw [e'] at this;exact zd9 this
   ·rintro (h' | ⟨h' | h',h''⟩)
    ·exact .inl h'
    ·subst h';exact absurd rfl h''
    ·exact .inr h'
  ·rw [if_neg hb];have hml:(s,m)∈l:=(List.mem_cons.1 hm).resolve_left fun e=>hb (by rw [← e];exact ze0 _);have hlt:=h.1 _ hml;rw [if_neg fun h'=>by have:=zd0 s b.1;have h2:zcv b.1 s<0:=hlt;omega];rw [List.mem_cons,addB_yes hml h.2,List.mem_cons];have hne:b.1≠s:=fun e=>hb (by rw [e];exact ze0 _);constructor
   ·rintro (h' | h' | ⟨h',h''⟩)
    ·subst h';exact .inr ⟨.inl rfl,hne⟩
    ·exact .inl h'
    ·exact .inr ⟨.inr h',h''⟩
   ·rintro (h' | ⟨h' | h',h''⟩)
    ·exact .inr (.inl h')
    ·exact .inl h'
    ·exact .inr (.inr ⟨h',h''⟩)
theorem Can.add {f:List SItem→Nat} {B:List SBranch} (h:Can f B) (s:List SItem) {n:Nat} (h1:n≠0):Can (fun t=>f t+if t=s then n else 0) (zfm s (sat n) B):=by
 refine ⟨addB_srt h.srt,fun t m=>?_⟩
 by_cases hs:f s=0
 ·rw [addB_no (fun b hb e=>by have:=(h.many hb).2.1;rw [e] at this;exact this hs) h.srt,h.mem,Prod.mk.injEq]
  by_cases ht:t=s
  ·subst ht;simp [hs,h1]
  ·simp [ht]
 ·rw [addB_yes ((h.mem s _).2 ⟨hs,rfl⟩) h.srt,h.mem,Prod.mk.injEq]
  by_cases ht:t=s
  ·subst ht;simp only [true_and,if_true,ne_eq,not_true_eq_false,and_false,or_false];have:min 2 (sat (f t)+sat n)=sat (f t+n):=by unfold sat;omega
   rw [this];exact ⟨fun e=>⟨by omega,e⟩,fun e=>e.2⟩
  ·simp [ht]
theorem len_sub {α:Type} [DecidableEq α]:∀{l U:List α},l.Nodup→(∀t∈l,t∈U)→l.length≤U.length
 | [],_,_,_=>Nat.zero_le _
 | x::l,U,hn,h=>by
  rw [List.nodup_cons] at hn;have hx:=h x (by simp);have:=len_sub (l:=l) (U:=U.erase x) hn.2 fun t ht=>(List.mem_erase_of_ne (fun e=>hn.1 (by rw [← e];exact ht))).2 (h t (by simp [ht]));rw [List.length_erase_of_mem hx] at this;have:=List.length_pos_of_mem hx;simp only [List.length_cons];omega
theorem can_len {f:List SItem→Nat} {B:List SBranch} (h:Can f B) {U:List (List SItem)} (hU:∀t,f t≠0→t∈U):B.length≤U.length:=by
 have:(B.map (·.1)).length≤U.length:=len_sub h.nodup fun t ht=>hU t ((h.keys t).1 ht);simpa using this
theorem cmp_in {x y:Int}:zbi x y (sgnI x y):=by
 refine ⟨false,by simp [zb4],false,by simp [zb4],(fun h=>by cases h),fun _=>⟨(fun h=>by cases h),fun _=>⟨fun h=>?_,fun h=>⟨fun h2=>?_,fun h2=>?_⟩⟩⟩⟩
 ·unfold sgnI;rw [if_pos (dt h)]
 ·unfold sgnI;rw [if_neg (df h),if_pos (dt h2)]
 ·unfold sgnI;rw [if_neg (df h),if_neg (df h2)]
theorem or_in {l:List Int} (hl:l.length<1000000):zbh l (zhf l):=by
 refine upto (P:=fun k (_:Unit) v=>zbh.l1 l (zhf l) _ k v) l.length (fun i _=>zhf l=zhf (l.drop i)) ?_ ?_ () (by simp)
 ·intro i _ hi h;have hat:at? l (i:Int)=some l[i]:=by rw [zbz];simp [hi]
  rw [List.drop_eq_getElem_cons hi] at h
  by_cases hz:l[i]=0
  ·rw [zhf,if_neg (by simpa using hz)] at h;exact .inr ⟨(),h,fun k hk=>⟨fun _=>⟨_,hat,fun hb=>by simp [hz] at hb,fun _=>⟨zw (by omega) (by omega),hk⟩⟩,fun h=>absurd (by omega) (df h)⟩⟩
  ·rw [zhf,if_pos hz] at h;exact .inl fun k=>⟨fun _=>⟨_,hat,fun _=>h,fun hb=>by simp at hb;exact absurd hb hz⟩,fun h=>absurd (by omega) (df h)⟩
 ·intro _ h k;refine ⟨fun h=>absurd (dt h) (by omega),fun _=>?_⟩;rw [List.drop_length] at h;exact h
theorem cmp1_in {x y:SItem}:zbr x y (zdi (zbs x) (zbs y)):=by
 rw [← cmpItem_lex];exact ⟨_,cmp_in,_,cmp_in,_,cmp_in,_,cmp_in,_,or_in (by simp),rfl⟩
theorem cmpFunc_in {a b:List SItem} (hl:a.length=b.length) (hs:a.length≤1000):za a b (fun q_=>zbr q_.1 q_.2.1 q_.2.2) (zdi (zb7 a) (zb7 b)):=by
 refine upto (P:=fun k (_:Unit) v=>za.l1 a b (fun q_=>zbr q_.1 q_.2.1 q_.2.2) (zdi (zb7 a) (zb7 b)) _ k v) a.length (fun i _=>zdi (zb7 a) (zb7 b)=zdi (zb7 (a.drop i)) (zb7 (b.drop i))) ?_ ?_ () (by simp)
 ·intro i _ hi h;have ha:at? a (i:Int)=some a[i]:=by rw [zbz];simp [hi]
  have hb:at? b (i:Int)=some (b[i]'(by omega)):=by rw [zbz];simp [show i<b.length by omega]
  rw [List.drop_eq_getElem_cons hi,List.drop_eq_getElem_cons (show i<b.length by omega),zcq,zcq,lexI_app (by simp [zbs])] at h
  by_cases hz:zdi (zbs a[i]) (zbs (b[i]'(by omega)))=0
  ·rw [if_neg (by simpa using hz)] at h;refine .inr ⟨(),h,fun k hk=>⟨fun _=>⟨_,ha,fun h2=>absurd (dt h2) (by omega),fun _=>⟨_,hb,zdi (zbs a[i]) (zbs (b[i]'(by omega))),cmp1_in,fun h3=>?_,fun _=>⟨zw (by omega) (by omega),hk⟩⟩⟩,fun h=>absurd (by omega) (df h)⟩⟩;rw [hz] at h3;simp at h3
  ·rw [if_pos hz] at h;refine .inl fun k=>⟨fun _=>⟨_,ha,fun h2=>absurd (dt h2) (by omega),fun _=>⟨_,hb,zdi (zbs a[i]) (zbs (b[i]'(by omega))),cmp1_in,fun _=>h,fun h3=>?_⟩⟩,fun h=>absurd (by omega) (df h)⟩;simp at h3;exact absurd h3 hz
 ·intro _ h k;refine ⟨fun h=>absurd (dt h) (by omega),fun _=>⟨fun h2=>absurd (dt h2) (by omega),fun _=>?_⟩⟩;rw [h,List.drop_length];exact zbx _
theorem zf5 {a b:List SItem} (hs:a.length≤1000):zc9 a b (zcv a b):=by
 have e:zcv a b=if sgnI (a.length:Int) (b.length:Int)≠0 then sgnI (a.length:Int) (b.length:Int) else zdi (zb7 a) (zb7 b):=by unfold zcv numsL;rw [zf3]
 refine ⟨_,cmp_in,fun h=>?_,fun h=>?_⟩
 ·rw [e,if_pos (by simpa using h)]
 ·have h0:sgnI (a.length:Int) (b.length:Int)=0:=by simpa using h
  have hl:a.length=b.length:=by
   unfold sgnI at h0
   by_cases h1:(a.length:Int)<(b.length:Int)
   ·rw [if_pos h1] at h0;cases h0
   ·by_cases h2:(b.length:Int)<(a.length:Int)
    ·rw [if_neg h1,if_pos h2] at h0;cases h0
    ·omega
  refine ⟨_,cmpFunc_in hl hs, ?_⟩;rw [e,if_neg (by simpa using h0)]
theorem numsS_snoc (s:List SItem) (x:SItem):zb7 (s++[x])=zb7 s++zbs x:=by simp [zb7]
theorem zdq {s:List SItem} (hs:s.length≤1000):zv s (numsL s):=by
 refine upto (P:=fun k (t:List Int) v=>zv.l1 s _ k t v) s.length (fun i t=>t=(s.length:Int)::zb7 (s.take i)) ?_ ?_ _ (by simp [zb7])
 ·rintro i t hi rfl;have hat:at? s (i:Int)=some s[i]:=by rw [zbz];simp [hi]
  have hl:=zbw (s.take i);simp only [List.length_take] at hl;refine .inr ⟨_,rfl,fun k h=>⟨fun _=>⟨_,hat,_,hat,_,hat,_,hat,by simp only [List.length_cons,List.length_nil];omega,zw (by omega) (by omega), ?_⟩,fun h=>absurd (by omega) (df h)⟩⟩;rw [List.take_succ_eq_append_getElem hi,numsS_snoc] at h;exact h
 ·rintro t rfl k;refine ⟨fun h=>absurd (dt h) (by omega),fun _=>?_⟩;rw [List.take_length];rfl
theorem zdr {a b:List SItem} (ha:a.length≤1000) (hb:b.length≤1000):zo a b (zcv a b):=by
 refine ⟨_,zdq ha,_,zdq hb, ?_⟩;have la:(numsL a).length≤4001:=by unfold numsL;rw [List.length_cons,zbw];omega
 show ∃k,zo.l1 (numsL a) (numsL b) (zcv a b) (zo.j1 (zcv a b)) k 0;unfold zcv;generalize numsL a=X at *;generalize numsL b=Y at *;refine upto (P:=fun k (_:Unit) v=>zo.l1 X Y (zdi X Y) _ k v) (min X.length Y.length) (fun i _=>zdi X Y=zdi (X.drop i) (Y.drop i)) ?_ ?_ () (by simp)
 ·intro i _ hi h;have hx:i<X.length:=by omega
  have hy:i<Y.length:=by omega
  have hax:at? X (i:Int)=some X[i]:=by rw [zbz];simp [hx]
  have hay:at? Y (i:Int)=some Y[i]:=by rw [zbz];simp [hy]
  have hb:(true:Bool)=((decide ((i:Int)<(X.length:Int)))&&(decide ((i:Int)<(Y.length:Int)))):=by simp;omega
  rw [List.drop_eq_getElem_cons hx,List.drop_eq_getElem_cons hy,zdi] at h
  by_cases h1:X[i] < Y[i]
  ·rw [if_pos h1] at h;exact .inl fun k=>⟨true,hb,fun _=>⟨_,hax,_,hay,fun _=>h,fun h2=>absurd h1 (df h2)⟩,(fun h=>by cases h)⟩
  ·by_cases h2:Y[i] < X[i]
   ·rw [if_neg h1,if_pos h2] at h;exact .inl fun k=>⟨true,hb,fun _=>⟨_,hax,_,hay,fun h3=>absurd (dt h3) h1,fun _=>⟨_,hax,_,hay,fun _=>h,fun h3=>absurd h2 (df h3)⟩⟩,(fun h=>by cases h)⟩
   ·rw [if_neg h1,if_neg h2] at h;exact .inr ⟨(),h,fun k hk=>⟨true,hb,fun _=>⟨_,hax,_,hay,fun h3=>absurd (dt h3) h1,fun _=>⟨_,hax,_,hay,fun h3=>absurd (dt h3) h2,fun _=>⟨zw (by omega) (by omega),hk⟩⟩⟩,(fun h=>by cases h)⟩⟩
 ·intro _ h k;refine ⟨false,by simp;omega,(fun h=>by cases h),fun _=>?_⟩;show zdi X Y=0;rw [h];rcases Nat.le_total X.length Y.length with hle | hle
  ·rw [Nat.min_eq_left hle,List.drop_length];exact zbx _
  ·rw [Nat.min_eq_right hle,List.drop_length];exact zdd _
theorem zeq {a b:List SItem} (ha:a.length≤1000) (hb:b.length≤1000):zdg a b (decide (a=b)):=by
 refine ⟨_,zdr ha hb, ?_⟩;rw [Bool.eq_iff_iff,decide_eq_true_iff,beq_iff_eq,zb9]
theorem clone_in {s:List SItem} (hs:s.length≤1000):zbf s s:=fun b hb=>⟨fun h=>hb h,fun _=>⟨by simp;omega,by simp⟩⟩
theorem zeo {d:List SNode} {x:SItem}:zd4 d x (zcf d x):=by
 refine ⟨fun h=>⟨_,rfl, ?_⟩,fun h=>⟨_,rfl,fun h2=>?_,fun h2=>?_⟩⟩
 ·have h5:=eq_of_beq h;unfold zcf;rw [if_pos h5];simp only [Bool.and_assoc]
 ·have h5:=ne_of_beq_false h;unfold zcf;rw [if_neg h5,at_none];simp only [Bool.or_eq_true,decide_eq_true_eq] at h2;exact h2
 ·have h5:=ne_of_beq_false h;simp only [Bool.or_eq_false_iff,decide_eq_false_iff_not] at h2;obtain ⟨n,hn,hm⟩:=at_in (xs:=d) (i:=x.2.1) (by omega) (by omega);refine ⟨n,hn,fun h1=>?_,fun h1=>⟨fun h2=>⟨_,rfl, ?_⟩,fun h2=>⟨fun h3=>⟨_,rfl,_,rfl, ?_⟩,fun h3=>⟨fun h4=>⟨_,rfl, ?_⟩,fun h4=>?_⟩⟩⟩⟩
  ·unfold zcf;rw [if_neg h5,hn];simp only [if_pos (eq_of_beq h1)]
  ·unfold zcf;rw [if_neg h5,hn];simp only [if_neg (ne_of_beq_false h1),if_pos (eq_of_beq h2)]
  ·unfold zcf;rw [if_neg h5,hn];simp only [if_neg (ne_of_beq_false h1),if_neg (ne_of_beq_false h2),if_pos (eq_of_beq h3)]
  ·unfold zcf;rw [if_neg h5,hn];simp only [if_neg (ne_of_beq_false h1),if_neg (ne_of_beq_false h2),if_neg (ne_of_beq_false h3),if_pos (eq_of_beq h4)]
  ·unfold zcf;rw [if_neg h5,hn];simp only [if_neg (ne_of_beq_false h1),if_neg (ne_of_beq_false h2),if_neg (ne_of_beq_false h3),if_neg (ne_of_beq_false h4)]
theorem zg1 {d:List SNode} {s:List SItem} (hs:s.length≤1000):zbg d s (zcl d s):=by
 refine upto (P:=fun k (_:Unit) v=>zbg.l1 d s (zcl d s) _ k v) s.length (fun i _=>∀x∈s.take i,zcf d x=true) ?_ ?_ () (by simp)
 ·intro i _ hi h;have hat:at? s (i:Int)=some s[i]:=by rw [zbz];simp [hi]
  cases hf:zcf d s[i]
  ·refine .inl fun k=>⟨fun _=>⟨_,hat,_,zeo,fun _=>?_,fun h=>by simp [hf] at h⟩,fun h=>absurd (by omega) (df h)⟩;unfold zcl;rw [List.all_eq_false];exact ⟨_,List.getElem_mem hi,by rw [hf];simp⟩
  ·refine .inr ⟨(),fun x hx=>?_,fun k hk=>⟨fun _=>⟨_,hat,_,zeo,fun h=>by simp [hf] at h,fun _=>⟨zw (by omega) (by omega),hk⟩⟩,fun h=>absurd (by omega) (df h)⟩⟩;rw [List.take_succ_eq_append_getElem hi] at hx;rcases List.mem_append.1 hx with hx | hx
   ·exact h x hx
   ·rw [List.mem_singleton.1 hx];exact hf
 ·intro _ h k;refine ⟨fun h=>absurd (dt h) (by omega),fun _=>?_⟩;rw [List.take_length] at h;show zcl d s=true;unfold zcl;rw [List.all_eq_true];exact h
theorem item_Key_in {s:List SItem} (hs:s.length≤1000):item_Key s (keyS s):=⟨hs,rfl⟩
theorem at0 {α:Type} (x:α) (l:List α):at? (x::l) 0=some x:=rfl
theorem concat2_in {a b:List SItem} (ha:a.length≤100000) (hb:b.length≤100000):zb [a,b] (a++b):=by
 refine ⟨3,⟨fun _=>⟨a,rfl,zw (by omega) (by omega),fun h=>absurd (dt h) (by omega),fun _=>⟨zw (by omega) (by omega), ?_⟩⟩,fun h=>absurd h (by simp)⟩⟩;refine ⟨fun _=>⟨b,rfl,zw (by omega) (by omega),fun h=>absurd (dt h) (by omega),fun _=>⟨zw (by omega) (by omega), ?_⟩⟩,fun h=>absurd h (by simp)⟩;refine ⟨fun h=>absurd h (by simp),fun _=>?_⟩;refine ⟨[],⟨by omega,by omega,rfl⟩,3, ?_⟩;refine ⟨fun _=>⟨a,rfl,by simp;omega,zw (by omega) (by omega), ?_⟩,fun h=>absurd h (by simp)⟩;refine ⟨fun _=>⟨b,rfl,by simp;omega,zw (by omega) (by omega), ?_⟩,fun h=>absurd h (by simp)⟩;refine ⟨fun h=>absurd h (by simp),fun _=>?_⟩;show a++b=[]++a++b;simp
theorem with_in {rest list:List SItem} (ha:list.length≤100000) (hb:rest.length≤100000):zbb rest list (list++rest):=⟨_,concat2_in ha hb,rfl⟩
theorem zhp {rest list:List SItem} (ha:list.length≤100000) (hb:rest.length≤100000):z8 list rest (list++rest):=⟨by simp;omega,by simp;omega,by simp⟩
theorem zck {d:List SNode} {x:SItem} {s:List SItem} (h:zcl d (x::s)=true):zcf d x=true∧zcl d s=true:=by simpa [zcl] using h
theorem zc2 {d:List SNode} {x:SItem} (h:zcf d x=true) (h5:x.1≠5):∃n,at? d x.2.1=some n∧(x.1=1∨(x.1=2∧n.1=7)∨(x.1=3∧n.1=3)∨(x.1=4∧n.1=9)):=by
 unfold zcf at h;rw [if_neg h5] at h;cases hn:at? d x.2.1 with
 | none=>rw [hn] at h;cases h
 | some n=>
  rw [hn] at h;refine ⟨n,rfl, ?_⟩;simp only at h
  by_cases h1:x.1=1
  ·exact .inl h1
  ·rw [if_neg h1] at h
   by_cases h2:x.1=2
   ·rw [if_pos h2] at h;simp at h;exact .inr (.inl ⟨h2,h.1.1.1⟩)
   ·rw [if_neg h2] at h
    by_cases h3:x.1=3
    ·rw [if_pos h3] at h;simp at h;exact .inr (.inr (.inl ⟨h3,h.1.1.1⟩))
    ·rw [if_neg h3] at h
     by_cases h4:x.1=4
     ·rw [if_pos h4] at h;simp at h;exact .inr (.inr (.inr ⟨h4,h.1.1.1⟩))
     ·rw [if_neg h4] at h;cases h
theorem kinds9 {k:Int} (h:1≤k∧k≤9):k=1∨k=2∨k=3∨k=4∨k=5∨k=6∨k=7∨k=8∨k=9:=by omega
theorem zcu {d:List SNode} (hd:ROk d) {s:List SItem} (hf:zcl d s=true):zcr d s (rdy d s):=by
 cases s with
 | nil=>exact ⟨fun _=>rfl,fun h=>absurd h (by simp)⟩
 | cons x s=>
  refine ⟨fun h=>absurd h (by simp;omega),fun _=>⟨x,at0 x s,fun h1=>?_,fun h1=>⟨fun h3=>⟨fun _=>by simp only [rdy,h3,Bool.true_or],fun h=>absurd h3 (by rw [h];simp)⟩,fun h3=>⟨fun h4=>by simp only [rdy,h4,Bool.true_or,Bool.or_true],fun h4=>by simp only [rdy,h1,h3,h4,Bool.false_and,Bool.or_false]⟩⟩⟩⟩;have e1:x.1=1:=by simpa using h1
  obtain ⟨n,hn,_⟩:=zc2 (zck hf).1 (by omega);have hk:=hd.kind _ n hn;refine ⟨n,hn,(n.1==2||n.1==8||n.1==9),fun _=>?_, ?_⟩
  ·rcases kinds9 hk with e | e | e | e | e | e | e | e | e <;> rw [e] <;> rfl
  ·simp only [rdy,hn,e1];have:decide (n.1<10)=true:=by simp;omega
   rw [this];simp
theorem zdb {d:List SNode} {s:List SItem} (hf:zcl d s=true) (hd0:∃n,at? d 0=some n):zcz d s (rdy d s):=by
 cases s with
 | nil=>exact ⟨(0,0,0,0),fun h=>absurd h (by simp),(0,0,0,0),fun h=>absurd h (by simp),true,by simp,fun _=>rfl,fun h=>by cases h⟩
 | cons x s=>
  refine ⟨x,fun _=>at0 x s,x,fun _=>at0 x s,_,rfl,fun h=>?_,fun h=>?_⟩
  ·simp only [List.length_cons,Bool.or_eq_true,beq_iff_eq] at h;have:x.1=3∨x.1=4:=by omega
   rcases this with e | e <;> simp [rdy,e]
  ·simp only [List.length_cons,Bool.or_eq_false_iff] at h;have hnode:∃n,at? d x.2.1=some n:=by
    by_cases h5:x.1=5
    ·have:=(zck hf).1;unfold zcf at this;rw [if_pos h5] at this;simp at this;rw [this.1.1];exact hd0
    ·obtain ⟨n,hn,_⟩:=zc2 (zck hf).1 h5;exact ⟨n,hn⟩
   obtain ⟨n,hn⟩:=hnode;refine ⟨x,at0 x s,n,hn,x,at0 x s,_,rfl, ?_⟩;simp only [rdy,hn,h.1.2,h.2,Bool.false_or]
theorem opn_len {d:List SNode} (s:List SItem):(opn d s).length≤2:=by
 cases s with
 | nil=>simp [opn]
 | cons x s=>
  simp only [opn]
  by_cases h5:x.1=5
  ·rw [if_pos h5];split <;> simp
  ·rw [if_neg h5];cases at? d x.2.1 with
   | none=>simp
   | some n=>
    simp only
    by_cases h2:x.1=2
    ·rw [if_pos h2];split <;> split <;> simp
    ·rw [if_neg h2]
     by_cases h1:n.1=1
     ·simp [h1]
     ·by_cases h3:n.1=3
      ·simp [h3]
      ·by_cases h4:n.1=4
       ·simp [h4]
       ·by_cases h5:n.1=5
        ·simp [h5]
        ·by_cases h6:n.1=6
         ·simp [h6]
         ·simp [h1,h3,h4,h5,h6]
theorem zcx {d:List SNode} (hd:ROk d) {s:List SItem} (hf:zcl d s=true) (hr:rdy d s=false) (hl:s.length≤10000) (hd0:∃n,at? d 0=some n):zt d s (opn d s):=by
 cases s with
 | nil=>simp [rdy] at hr
 | cons x s=>
  simp only [List.length_cons] at hl;have hdrop:(x::s).drop (1:Int).toNat=s:=rfl;have w0:zbb s [] s:=with_in (by simp) (by omega);have wl:∀l:List SItem,l.length≤2→zbb s l (l++s):=fun l h=>with_in (by omega) (by omega);have hx:=(zck hf).1
  by_cases h5:x.1=5
  ·obtain ⟨n0,hn0⟩:=hd0;have hx':=hx;unfold zcf at hx';rw [if_pos h5] at hx';simp at hx';refine ⟨x,at0 x s,⟨by omega,by simp;omega⟩,n0,by rw [hx'.1.1];exact hn0,fun h=>⟨s,w0, ?_⟩,fun h=>⟨fun _=>?_,fun h'=>absurd h' (by simp [h5])⟩⟩
   ·simp at h;simp [opn,h5,h.2]
   ·simp [h5] at h;simp [opn,h5,h]
  ·obtain ⟨n,hn,hk⟩:=zc2 hx h5;refine ⟨x,at0 x s,⟨by omega,by simp;omega⟩,n,hn,fun h=>absurd h (by simp [h5]),fun _=>⟨fun h=>absurd h (by simp [h5]),fun _=>⟨fun h2=>?_,fun h2=>?_⟩⟩⟩
   ·have e2:x.1=2:=by simpa using h2
    have hlo:0≤x.2.2.1∧x.2.2.1≤x.2.2.2∧x.2.2.2≤255:=by
     have hx':=hx;unfold zcf at hx';rw [if_neg h5,hn] at hx';simp [e2] at hx';have:=hd.rep _ n hn hx'.1.1.1;omega
    have hj:∀out:List (List SItem),out.length≤1→∀r,r=out++(if 0<x.2.2.2 then [(1,n.2.1,0,0)::(2,x.2.1,max (x.2.2.1-1) 0,x.2.2.2-1)::s] else [])→zt.j2 (x::s) r x n out:=by
     intro out hout r hrr;refine ⟨fun h=>⟨(1,n.2.1,0,0),rfl,zw (by omega) (by omega),zw (by omega) (by omega),_,wl _ (by simp),by simp;omega, ?_⟩,fun h=>?_⟩
     ·have:0<x.2.2.2:=dt h;show r=_;rw [hrr,if_pos this,e2];rfl
     ·have:¬ 0<x.2.2.2:=df h;show r=_;rw [hrr,if_neg this,List.append_nil]
    refine ⟨fun h=>⟨s,w0,by simp,hj _ (by simp) _ ?_⟩,fun h=>hj _ (by simp) _ ?_⟩
    ·have e0:x.2.2.1=0:=by simpa using h
     simp [opn,hn,e2,e0]
    ·have e0:¬ x.2.2.1=0:=by simpa using h
     simp [opn,hn,e2,e0]
   ·have e2:¬ x.1=2:=by simpa using h2
    have e1:x.1=1:=by
     rcases hk with h | ⟨h,_⟩ | ⟨h,_⟩ | ⟨h,_⟩
     ·exact h
     ·exact absurd h e2
     ·simp [rdy,h] at hr
     ·simp [rdy,h] at hr
    refine ⟨fun h=>⟨s,w0, ?_⟩,fun k1=>⟨fun h=>⟨_,wl _ (by simp), ?_⟩,fun k3=>⟨fun h=>⟨_,rfl,_,rfl,_,wl _ (by simp), ?_⟩,fun k4=>⟨fun h=>⟨_,rfl,_,wl _ (by simp),_,rfl,_,wl _ (by simp), ?_⟩,fun k5=>⟨fun h=>⟨s,w0,_,rfl,_,wl _ (by simp), ?_⟩,fun k6=>⟨_,wl _ (by simp), ?_⟩⟩⟩⟩⟩⟩
    all_goals simp only [opn,hn,if_neg h5,if_neg e2]
    all_goals simp_all
theorem zgx {d:List SNode} (hd:ROk d) {s:List SItem} (hf:zcl d s=true) (hr:rdy d s=false) (hl:s.length≤10000) (hd0:∃n,at? d 0=some n):zbo d s (opn d s):=by
 cases s with
 | nil=>simp [rdy] at hr
 | cons x s=>
  simp only [List.length_cons] at hl;have w0:z8 [] s s:=zhp (by simp) (by omega);have wl:∀l:List SItem,l.length≤2→z8 l s (l++s):=fun l h=>zhp (by omega) (by omega);have hx:=(zck hf).1
  by_cases h5:x.1=5
  ·obtain ⟨n0,hn0⟩:=hd0;have hx':=hx;unfold zcf at hx';rw [if_pos h5] at hx';simp at hx';refine ⟨x,at0 x s,⟨by omega,by simp;omega⟩,n0,by rw [hx'.1.1];exact hn0,fun _=>⟨fun h=>⟨s,w0,by simp, ?_⟩,fun h=>?_⟩,fun h=>absurd h (by simp [h5])⟩
   ·simp at h;show opn d (x::s)=_;simp [opn,h5,h]
   ·simp at h;show opn d (x::s)=_;simp [opn,h5,h]
  ·obtain ⟨n,hn,hk⟩:=zc2 hx h5;refine ⟨x,at0 x s,⟨by omega,by simp;omega⟩,n,hn,fun h=>absurd h (by simp [h5]),fun _=>⟨fun h2=>?_,fun h2=>?_⟩⟩
   ·have e2:x.1=2:=by simpa using h2
    have hlo:0≤x.2.2.1∧x.2.2.1≤x.2.2.2∧x.2.2.2≤255:=by
     have hx':=hx;unfold zcf at hx';rw [if_neg h5,hn] at hx';simp [e2] at hx';have:=hd.rep _ n hn hx'.1.1.1;omega
    have hj:∀out:List (List SItem),out.length≤1→∀r,r=out++(if 0<x.2.2.2 then [(1,n.2.1,0,0)::(2,x.2.1,max (x.2.2.1-1) 0,x.2.2.2-1)::s] else [])→zbo.j3 (x::s) r x n out:=by
     intro out hout r hrr;refine ⟨fun h=>⟨zw (by omega) (by omega),zw (by omega) (by omega),_,wl _ (by simp),by simp;omega, ?_⟩,fun h=>?_⟩
     ·have:0<x.2.2.2:=dt h;show r=_;rw [hrr,if_pos this,Int.max_comm];rfl
     ·have:¬ 0<x.2.2.2:=df h;show r=_;rw [hrr,if_neg this,List.append_nil]
    refine ⟨fun h=>⟨s,w0,by simp,hj _ (by simp) _ ?_⟩,fun h=>hj _ (by simp) _ ?_⟩
    ·have e0:x.2.2.1=0:=by simpa using h
     simp [opn,hn,e2,e0]
    ·have e0:¬ x.2.2.1=0:=by simpa using h
     simp [opn,hn,e2,e0]
   ·have e2:¬ x.1=2:=by simpa using h2
    have e1:x.1=1:=by
     rcases hk with h | ⟨h,_⟩ | ⟨h,_⟩ | ⟨h,_⟩
     ·exact h
     ·exact absurd h e2
     ·simp [rdy,h] at hr
     ·simp [rdy,h] at hr
    have h289:n.1≠2∧n.1≠8∧n.1≠9:=by
     simp only [rdy,hn,e1] at hr;simp at hr;omega
    have hk9:=hd.kind _ n hn;refine ⟨fun h=>⟨s,w0,by simp, ?_⟩,fun k1=>⟨fun h=>⟨_,wl _ (by simp),by simp, ?_⟩,fun k3=>⟨fun h=>⟨_,wl _ (by simp),by simp, ?_⟩,fun k4=>⟨fun h=>⟨_,wl _ (by simp),_,wl _ (by simp),by simp, ?_⟩,fun k5=>⟨fun h=>⟨s,w0,_,wl _ (by simp),by simp, ?_⟩,fun k6=>⟨fun h=>⟨_,wl _ (by simp),by simp, ?_⟩,fun k7=>?_⟩⟩⟩⟩⟩⟩
    ·simp only [opn,hn,if_neg h5,if_neg e2];simp_all
    ·simp only [opn,hn,if_neg h5,if_neg e2];simp_all
    ·simp only [opn,hn,if_neg h5,if_neg e2];simp_all
    ·simp only [opn,hn,if_neg h5,if_neg e2];simp_all
    ·simp only [opn,hn,if_neg h5,if_neg e2];simp_all
    ·simp only [opn,hn,if_neg h5,if_neg e2];simp_all
    ·exfalso;simp at k1 k3 k4 k5 k6 k7;omega
theorem zfr {d:List SNode} {a:Int} (h:∃m,at? d a=some m):zcf d (1,a,0,0)=true:=by
 obtain ⟨m,hm⟩:=h;unfold zcf;simp [hm]
theorem zcg {d:List SNode} {i a:Int} {n:SNode} (hn:at? d i=some n) (h0:0≤a) (h1:a<i):∃m,at? d a=some m:=by
 obtain ⟨j,rfl,hj⟩:=zho hn;have:=(List.getElem?_eq_some_iff.1 hj).1;obtain ⟨m,hm,_⟩:=at_in (xs:=d) h0 (by omega);exact ⟨m,hm⟩
theorem zbc {α:Type} {d:List α} {i:Int} {n:α} (hn:at? d i=some n):0≤i∧i<(d.length:Int):=by
 obtain ⟨j,rfl,hj⟩:=zho hn;have:=(List.getElem?_eq_some_iff.1 hj).1;omega
theorem opn_cases {d:List SNode} (hd:ROk d) {x:SItem} {rest:List SItem} (hf:zcl d (x::rest)=true) (hr:rdy d (x::rest)=false) {t:List SItem} (ht:t∈opn d (x::rest)):
  t=rest∨∃n,at? d x.2.1=some n∧x.1≠5∧((∃a,0≤a∧a<x.2.1∧t=(1,a,0,0)::rest)∨(∃a b,0≤a∧a<x.2.1∧0≤b∧b<x.2.1∧t=(1,a,0,0)::(1,b,0,0)::rest)∨(∃a lo hi k,0≤a∧a<x.2.1∧t=(1,a,0,0)::(k,x.2.1,lo,hi)::rest∧zcf d (k,x.2.1,lo,hi)=true)∨∃k lo hi,t=(k,x.2.1,lo,hi)::rest∧zcf d (k,x.2.1,lo,hi)=true):=by
 have hx:=(zck hf).1
 by_cases h5:x.1=5
 ·simp only [opn] at ht;rw [if_pos h5] at ht;split at ht
  ·exact .inl (List.mem_singleton.1 ht)
  ·cases ht
 ·obtain ⟨n,hn,hk⟩:=zc2 hx h5;simp only [opn,hn] at ht;rw [if_neg h5] at ht
  by_cases h2:x.1=2
  ·rw [if_pos h2] at ht;have hx':=hx;unfold zcf at hx';rw [if_neg h5,hn] at hx';simp [h2] at hx';obtain ⟨a0,a1⟩:=hd.one _ n hn (.inr (.inl hx'.1.1.1));rcases List.mem_append.1 ht with ht | ht
   ·split at ht
    ·exact .inl (List.mem_singleton.1 ht)
    ·cases ht
   ·split at ht
    ·rename_i hpos
     refine .inr ⟨n,hn,h5,.inr (.inr (.inl ⟨n.2.1,_,_,2,a0,a1,List.mem_singleton.1 ht, ?_⟩))⟩;unfold zcf;simp [hn,hx'.1.1.1];omega
    ·cases ht
  ·rw [if_neg h2] at ht;have e1:x.1=1:=by
    rcases hk with h | ⟨h,_⟩ | ⟨h,_⟩ | ⟨h,_⟩
    ·exact h
    ·exact absurd h h2
    ·simp [rdy,h] at hr
    ·simp [rdy,h] at hr
   have h289:n.1≠2∧n.1≠8∧n.1≠9:=by
    simp only [rdy,hn,e1] at hr;simp at hr;omega
   by_cases k1:n.1=1
   ·rw [if_pos k1] at ht;exact .inl (List.mem_singleton.1 ht)
   ·rw [if_neg k1] at ht
    by_cases k3:n.1=3
    ·rw [if_pos k3] at ht;refine .inr ⟨n,hn,h5,.inr (.inr (.inr ⟨3,0,0,List.mem_singleton.1 ht, ?_⟩))⟩;have:=hd.ntx _ n hn k3;unfold zcf;simp [hn,k3];exact List.length_pos_iff.2 this
    ·rw [if_neg k3] at ht
     by_cases k4:n.1=4
     ·rw [if_pos k4] at ht;obtain ⟨⟨a,b⟩,c,e⟩:=hd.two _ n hn (.inl k4);exact .inr ⟨n,hn,h5,.inr (.inl ⟨_,_,a,b,c,e,List.mem_singleton.1 ht⟩)⟩
     ·rw [if_neg k4] at ht
      by_cases k5:n.1=5
      ·rw [if_pos k5] at ht;obtain ⟨⟨a,b⟩,c,e⟩:=hd.two _ n hn (.inr k5);simp only [List.mem_cons,List.not_mem_nil,or_false] at ht;rcases ht with ht | ht
       ·exact .inr ⟨n,hn,h5,.inl ⟨_,a,b,ht⟩⟩
       ·exact .inr ⟨n,hn,h5,.inl ⟨_,c,e,ht⟩⟩
      ·rw [if_neg k5] at ht
       by_cases k6:n.1=6
       ·rw [if_pos k6] at ht;obtain ⟨a,b⟩:=hd.one _ n hn (.inl k6);simp only [List.mem_cons,List.not_mem_nil,or_false] at ht;rcases ht with ht | ht
        ·exact .inl ht
        ·obtain ⟨xk,xi,xl,xh⟩:=x;exact .inr ⟨n,hn,h5,.inr (.inr (.inl ⟨_,xl,xh,xk,a,b,ht,hx⟩))⟩
       ·rw [if_neg k6] at ht;have k7:n.1=7:=by have:=hd.kind _ n hn;omega
        refine .inr ⟨n,hn,h5,.inr (.inr (.inr ⟨2,_,_,List.mem_singleton.1 ht, ?_⟩))⟩;obtain ⟨b0,b1,b2⟩:=hd.rep _ n hn k7;unfold zcf;simp [hn,k7,b0,b1]
theorem zfc {d:List SNode} {x:SItem} {s:List SItem} (h:zcf d x=true) (k:zcl d s=true):zcl d (x::s)=true:=by
 simp only [zcl,List.all_cons,Bool.and_eq_true];exact ⟨h,k⟩
theorem form_opn {d:List SNode} (hd:ROk d) {s:List SItem} (hf:zcl d s=true) (hr:rdy d s=false):∀t∈opn d s,zcl d t=true:=by
 intro t ht;cases s with
 | nil=>simp [opn] at ht
 | cons x rest=>
  have hrest:=(zck hf).2;rcases opn_cases hd hf hr ht with rfl | ⟨n,hn,h5,h⟩
  ·exact hrest
  ·rcases h with ⟨a,h0,h1,rfl⟩ | ⟨a,b,h0,h1,h2,h3,rfl⟩ | ⟨a,lo,hi,k,h0,h1,rfl,h2⟩ | ⟨k,lo,hi,rfl,h2⟩
   ·exact zfc (zfr (zcg hn h0 h1)) hrest
   ·exact zfc (zfr (zcg hn h0 h1)) (zfc (zfr (zcg hn h2 h3)) hrest)
   ·exact zfc (zfr (zcg hn h0 h1)) (zfc h2 hrest)
   ·exact zfc h2 hrest
def SufI (D:Nat):List SItem→Prop
 | []=>True
 | x::u=>(u.length:Int)+1+x.2.1≤(D:Int)∧0≤x.2.1∧SufI D u
theorem SufI.len {D:Nat}:∀{u:List SItem},SufI D u→u.length≤D
 | [],_=>Nat.zero_le _
 | x::u,h=>by
  have h1:=h.1;have h2:=h.2.1;simp only [List.length_cons];omega
structure Vs (d:List SNode) (n0:Nat) (t:List SItem):Prop where
 form:zcl d t=true
 cut:∃u v,t=u++v∧SufI d.length u∧v.length≤n0
theorem Vs.len {d:List SNode} {n0:Nat} {t:List SItem} (h:Vs d n0 t):t.length≤n0+d.length:=by
 obtain ⟨u,v,rfl,h1,h2⟩:=h.cut;have:=h1.len;simp;omega
theorem Vs.start {d:List SNode} {s:List SItem} {n0:Nat} (hf:zcl d s=true) (h:s.length≤n0):Vs d n0 s:=⟨hf,[],s,rfl,trivial,h⟩
theorem Vs.opn {d:List SNode} (hd:ROk d) {n0:Nat} {s:List SItem} (h:Vs d n0 s) (hr:rdy d s=false):∀t∈opn d s,Vs d n0 t:=by
 intro t ht;refine ⟨form_opn hd h.form hr t ht, ?_⟩;obtain ⟨u,v,hs,h1,h2⟩:=h.cut;cases s with
 | nil=>simp [V.opn] at ht
 | cons x rest=>
  have key:∃u' v',rest=u'++v'∧SufI d.length u'∧v'.length≤n0∧(x.1≠5→(u'.length:Int)+1+x.2.1≤(d.length:Int)∧0≤x.2.1):=by
   cases u with
   | nil=>
    simp at hs;refine ⟨[],rest,rfl,trivial,by rw [← hs] at h2;simp at h2;omega,fun h5=>?_⟩;obtain ⟨n,hn,_⟩:=zc2 (zck h.form).1 h5;have:=zbc hn;simp;omega
   | cons y u'=>
    simp at hs;obtain ⟨e1,e2⟩:=hs;subst e1;exact ⟨u',v,e2,h1.2.2,h2,fun _=>⟨h1.1,h1.2.1⟩⟩
  obtain ⟨u',v',rfl,k1,k2,k3⟩:=key;rcases opn_cases hd h.form hr ht with rfl | ⟨n,hn,h5,hc⟩
  ·exact ⟨u',v',rfl,k1,k2⟩
  ·obtain ⟨k4,k5⟩:=k3 h5;rcases hc with ⟨a,h0,h1,rfl⟩ | ⟨a,b,h0,h1,h2,h3,rfl⟩ | ⟨a,lo,hi,k,h0,h1,rfl,h2⟩ | ⟨k,lo,hi,rfl,h2⟩
   ·exact ⟨(1,a,0,0)::u',v',rfl,⟨by simp only;omega,h0,k1⟩,k2⟩
   ·exact ⟨(1,a,0,0)::(1,b,0,0)::u',v',rfl,⟨by simp only [List.length_cons];omega,h0,by simp only;omega,h2,k1⟩,k2⟩
   ·exact ⟨(1,a,0,0)::(k,x.2.1,lo,hi)::u',v',rfl,⟨by simp only [List.length_cons];omega,h0,by simp only;omega,k5,k1⟩,k2⟩
   ·exact ⟨(k,x.2.1,lo,hi)::u',v',rfl,⟨by simp only;omega,k5,k1⟩,k2⟩
section
variable {κ ν : Type} [DecidableEq κ]
theorem mput_mem {xs:List (κ × ν)} {k:κ} {v:ν} {p:κ × ν}:p∈zeu xs k v↔p=(k,v)∨(p.1≠k∧p∈xs):=by
 unfold zeu;cases h:mhas xs k
 ·rw [cond_false,List.mem_append,List.mem_singleton];constructor
  ·rintro (hp | hp)
   ·exact .inr ⟨fun e=>(by have:=zci.2 ⟨p,hp,e⟩;rw [h] at this;cases this),hp⟩
   ·exact .inl hp
  ·rintro (hp | hp)
   ·exact .inr hp
   ·exact .inl hp.2
 ·rw [cond_true,List.mem_map];constructor
  ·rintro ⟨q,hq,e⟩
   by_cases hk:q.1=k
   ·simp [hk] at e;exact .inl e.symm
   ·have:(q.1==k)=false:=by simpa using hk
    rw [this] at e;simp at e;subst e;exact .inr ⟨hk,hq⟩
  ·rintro (hp | ⟨hk,hp⟩)
   ·obtain ⟨q,hq,e⟩:=zci.1 h;exact ⟨q,hq,by simp [e,hp]⟩
   ·have:(p.1==k)=false:=by simpa using hk
    exact ⟨p,hp,by simp [this]⟩
theorem mput_kn {xs:List (κ × ν)} (hn:KN xs) (k:κ) (v:ν):KN (zeu xs k v):=by
 unfold zeu KN;cases h:mhas xs k
 ·rw [cond_false,List.map_append,List.nodup_append];refine ⟨hn,by simp,fun a ha b hb=>?_⟩;simp at hb;subst hb;intro e;subst e;obtain ⟨p,hp,e⟩:=List.mem_map.1 ha;have:=zci.2 ⟨p,hp,e⟩;rw [h] at this;cases this
 ·rw [cond_true,List.map_map];have:(xs.map ((fun x=>x.1) ∘ fun p=>bif p.1==k then (k,v) else p))=xs.map (·.1):=by
   apply List.map_congr_left;intro p _;simp only [Function.comp]
   by_cases hk:p.1=k
   ·simp [hk]
   ·have:(p.1==k)=false:=by simpa using hk
    rw [this];rfl
  rw [this];exact hn
theorem mget_in {xs:List (κ × ν)} {k:κ} (h:mhas xs k=true) (z:ν):(k,zfz xs k z)∈xs:=by
 unfold zfz;cases hf:xs.find? (fun p=>p.1==k) with
 | none=>
  obtain ⟨p,hp,e⟩:=zci.1 h;have:=List.find?_eq_none.1 hf p hp;simp [e] at this
 | some q=>
  have h1:=List.find?_some hf;have h2:=List.mem_of_find?_eq_some hf;have e:q.1=k:=by simpa using h1
  rw [← e];exact h2
end
structure ze4 (f:List SItem→Nat) (m:List (Str × SBranch)):Prop where
 kn:KN m
 mem:∀k b,(k,b)∈m↔k=keyS b.1∧f b.1≠0∧b.2=sat (f b.1)
theorem ze4.nil:ze4 (fun _=>0) []:=⟨List.nodup_nil,by simp⟩
theorem ze4.congr {f g:List SItem→Nat} {m} (h:ze4 f m) (e:∀t,sat (f t)=sat (g t)):ze4 g m:=⟨h.kn,fun k b=>by rw [h.mem,sat_ne (e b.1),e b.1]⟩
theorem ze4.get {f:List SItem→Nat} {m} (h:ze4 f m) (u:List SItem):(zfz m (keyS u) (([],0):SBranch)).2=sat (f u):=by
 by_cases hu:f u=0
 ·rw [zew fun p hp e=>?_]
  ·rw [hu];rfl
  ·obtain ⟨k,b⟩:=p;obtain ⟨h1,h2,_⟩:=(h.mem k b).1 hp;simp only at e;rw [e] at h1;rw [zfq.1 h1] at hu;exact h2 hu
 ·have hm:=(h.mem (keyS u) (u,sat (f u))).2 ⟨rfl,hu,rfl⟩;have:=zhc h.kn hm (([],0):SBranch);simp only at this;rw [this]
theorem ze4.put {f:List SItem→Nat} {m} (h:ze4 f m) (u:List SItem) {n:Nat} (hn:n≠0):ze4 (fun t=>f t+if t=u then n else 0) (zeu m (keyS u) (u,min ((zfz m (keyS u) (([],0):SBranch)).2+sat n) 2)):=by
 refine ⟨mput_kn h.kn _ _,fun k b=>?_⟩;rw [mput_mem,h.get,h.mem];have e:min (sat (f u)+sat n) 2=sat (f u+n):=by unfold sat;omega
 rw [e]
 by_cases hb:b.1=u
 ·subst hb;simp only [if_true,Prod.mk.injEq];constructor
  ·rintro (⟨h1,h2⟩ | ⟨h1,h2,_⟩)
   ·exact ⟨h1,by omega,by rw [h2]⟩
   ·exact absurd h2 h1
  ·rintro ⟨h1,_,h2⟩;exact .inl ⟨h1,by rw [← h2]⟩
 ·simp only [if_neg hb,Nat.add_zero,Prod.mk.injEq];constructor
  ·rintro (⟨h1,h2⟩ | ⟨h1,h2⟩)
   ·rw [h2] at hb;exact absurd rfl hb
   ·exact h2
  ·rintro ⟨h1,h2⟩;exact .inr ⟨fun e=>hb (zfq.1 (h1.symm.trans e)),h1,h2⟩
theorem ze4.one (s:List SItem):ze4 (fun t=>[s].count t) (zeu [] (keyS s) (s,1)):=by
 have:=ze4.nil.put s (n:=1) (by omega);have e:(zeu ([]:List (Str × SBranch)) (keyS s) (s,min ((zfz [] (keyS s) (([],0):SBranch)).2+sat 1) 2))=zeu [] (keyS s) (s,1):=rfl;rw [e] at this;refine this.congr fun t=>?_;simp only [List.count_singleton,Nat.zero_add,beq_iff_eq]
 by_cases ht:t=s
 ·subst ht;simp
 ·simp [ht,Ne.symm ht]
theorem zf6 (b:SBranch):∀l:List SBranch,(insB b l).Perm (b::l)
 | []=>.refl _
 | c::l=>by
  unfold insB;split
  ·exact .refl _
  ·exact ((zf6 b l).cons c).trans (List.Perm.swap _ _ _)
theorem zdf:∀l:List SBranch,(srtB l).Perm l
 | []=>.refl _
 | b::l=>(zf6 b _).trans ((zdf l).cons b)
theorem insB_srt {b:SBranch}:∀{l:List SBranch},(∀c∈l,c.1≠b.1)→l.Pairwise (fun a b=>zcv a.1 b.1<0)→(insB b l).Pairwise (fun a b=>zcv a.1 b.1<0)
 | [],_,_=>by simp [insB]
 | c::l,hn,h=>by
  rw [List.pairwise_cons] at h;unfold insB;split
  ·rename_i hlt
   refine List.pairwise_cons.2 ⟨fun x hx=>?_,List.pairwise_cons.2 h⟩;rcases List.mem_cons.1 hx with rfl | hx
   ·exact hlt
   ·exact zdh hlt (h.1 x hx)
  ·rename_i hge
   refine List.pairwise_cons.2 ⟨fun x hx=>?_,insB_srt (fun x hx=>hn x (by simp [hx])) h.2⟩;rcases List.mem_cons.1 ((zf6 b l).mem_iff.1 hx) with rfl | hx
   ·have h1:=zd0 x.1 c.1;have h2:zcv x.1 c.1≠0:=fun e=>hn c (by simp) (zb9.1 e).symm;omega
   ·exact h.1 x hx
theorem zgu:∀{l:List SBranch},(l.map (·.1)).Nodup→(srtB l).Pairwise (fun a b=>zcv a.1 b.1<0)
 | [],_=>List.Pairwise.nil
 | b::l,h=>by
  rw [List.map_cons,List.nodup_cons] at h;refine insB_srt (fun c hc e=>h.1 ?_) (zgu h.2);rw [← e];exact List.mem_map.2 ⟨c,(zdf l).mem_iff.1 hc,rfl⟩
theorem ze4.can {f:List SItem→Nat} {m:List (Str × SBranch)} (h:ze4 f m) {out:List SBranch} (hp:out.Perm (m.map (·.2))):(out.map (·.1)).Nodup∧Can f (srtB out):=by
 have hk:m.map (·.1)=(m.map (·.2)).map (fun b=>keyS b.1):=by
  rw [List.map_map];apply List.map_congr_left;rintro ⟨k,b⟩ hm;exact ((h.mem k b).1 hm).1
 have hn:((m.map (·.2)).map (·.1)).Nodup:=by
  have h1:=h.kn;unfold KN at h1;rw [hk] at h1;have e:(m.map (·.2)).map (fun b=>keyS b.1)=((m.map (·.2)).map (·.1)).map keyS:=by rw [List.map_map (f:=fun b:SBranch=>b.1)];rfl
  rw [e] at h1;exact List.Pairwise.imp (fun {a b} hab he=>hab (by rw [he])) (List.pairwise_map.1 h1)
 have hn2:(out.map (·.1)).Nodup:=(hp.map (·.1)).nodup_iff.2 hn;refine ⟨hn2,zgu hn2,fun t c=>?_⟩;rw [(zdf out).mem_iff,hp.mem_iff,List.mem_map];constructor
 ·rintro ⟨⟨k,b⟩,hm,e⟩;simp only at e;subst e;exact ((h.mem k _).1 hm).2
 ·rintro h1;exact ⟨(keyS t,(t,c)),(h.mem _ _).2 ⟨rfl,h1⟩,rfl⟩
end Go.Proofs.YtaknifhhnhcchaaDoor.V
namespace Go.Proofs.YtaknifhhnhcchaaDoor.V
open Go Go.Shelf Go.Sort
set_option linter.unusedVariables false
theorem cmpS_le {x y z:List SItem} (h1:zcv x y≤0) (h2:zcv y z≤0):zcv x z≤0:=by
 rcases Int.lt_or_le (zcv x y) 0 with a | a
 ·rcases Int.lt_or_le (zcv y z) 0 with b | b
  ·have:=zdh a b;omega
  ·have e:zcv y z=0:=by omega
   rw [← zb9.1 e];exact h1
 ·have e:zcv x y=0:=by omega
  rw [zb9.1 e];exact h2
theorem swo_branch:SWO (Go.Proofs.ltOf fun x y:SBranch=>zcv x.1 y.1):=swo_cmp (fun x=>ze0 _) (fun x y=>zd0 _ _) fun x y z h1 h2=>cmpS_le h1 h2
theorem srtB_uniq {x y:List SBranch} (hn:(x.map (·.1)).Nodup) (hp:y.Perm x) (hs:y.Pairwise (fun a b=>¬ zcv b.1 a.1<0)):y=srtB x:=by
 have hny:(y.map (·.1)).Nodup:=(hp.map (·.1)).nodup_iff.2 hn;refine zgt ?_ (zgu hn) fun b=>by rw [hp.mem_iff,(zdf x).mem_iff]
 have h2:y.Pairwise (fun a b=>a.1≠b.1):=List.pairwise_map.1 hny;refine (hs.and h2).imp fun {a b} h=>?_;have h3:=zd0 b.1 a.1;have h4:zcv a.1 b.1≠0:=fun e=>h.2 (zb9.1 e);omega
theorem o_isf {L:Lst} {f:FuncId}:Opn L (.func f) (Pd.is (.func (.func f) #[] #[])):=fun _ _ _ _ _ _=>rfl
end Go.Proofs.YtaknifhhnhcchaaDoor.V
namespace Go.Proofs.YtaknifhhnhcchaaDoor.V
open Go
set_option linter.unusedVariables false
section
variable {u : Bool} [Dr u]
def En.nsl (N:Nat) {α:Type} (E:En α):En (List α) where
 sz:=1
 agg:=false
 R:=fun w S cs xs=>(En.slice E).R w S cs xs∧(xs≠[]→∃b off n c arr te,cs=[.slice (some ⟨b,off,none⟩) n c]∧S b∧N≤b∧w.heap[b]?=some (.cells arr te (0,0)))
 sc:=fun _=>rfl
 pos:=Nat.one_pos
 len:=fun h=>(En.slice E).len h.1
 one:=fun h=>(En.slice E).one h.1
 mono:=fun h ⟨h1,h2⟩=>⟨(En.slice E).mono h h1,fun hn=>let ⟨b,off,n,c,arr,te,e,hb,hN,hg⟩:=h2 hn;⟨b,off,n,c,arr,te,e,h b hb,hN,hg⟩⟩
 move:=fun h ⟨h1,h2⟩=>⟨(En.slice E).move h h1,fun hn=>let ⟨b,off,n,c,arr,te,e,hb,hN,hg⟩:=h2 hn;⟨b,off,n,c,arr,te,e,hb,hN,(h b hb).trans hg⟩⟩
structure Le {α:Type} (E F:En α):Prop where
 sz:E.sz=F.sz
 agg:E.agg=F.agg
 R:∀{w S cs x},E.R w S cs x→F.R w S cs x
section
variable {α β : Type} {E F : En α} {E' F' : En β}
theorem Le.refl (E:En α):Le E E:=⟨rfl,rfl,id⟩
theorem le_nsl (N:Nat) (E:En α):Le (En.nsl N E) (En.slice E):=⟨rfl,rfl,And.left⟩
theorem Le.cat (h:Le E F) (k:Le E' F'):Le (E.cat E') (F.cat F'):=⟨by show E.sz+E'.sz=F.sz+F'.sz;rw [h.sz,k.sz],rfl,fun ⟨a,b,e,h1,h2⟩=>⟨a,b,e,h.R h1,k.R h2⟩⟩
theorem Le.els (h:Le E F) {w S css xs} (k:Els E w S css xs):Els F w S css xs:=⟨k.1,fun i cs x a b=>h.R (k.2 i cs x a b)⟩
theorem Le.row (h:Le E F) {N:Nat} {te:TypeId} {og:Option Nat} {xs:List α} {s:St} {v:Value} (k:(Pd.row E N te og xs).p s v):(Pd.row F N te og xs).p s v:=let ⟨h1,h2,h3,css,h4,h5⟩:=k;⟨h1,h2,h3,css,h.els h4,h.sz ▸ h5⟩
theorem nsl_nil (N:Nat) (E:En α) (w:World) (S:Nat→Prop):(En.nsl N E).R w S [.slice none 0 0] []:=⟨⟨_,rfl,zei _ _ _⟩,fun h=>absurd rfl h⟩
end
def Pd.geq (N:Nat) (q:Pd):Pd:=⟨fun s v=>q.p s v∧N≤s.w.heap.size,q.own,fun h hb ⟨h1,h2⟩=>⟨q.mv h hb h1,Nat.le_trans h2 h.size⟩⟩
theorem zes {L:Lst} {x:Operand} {q:Pd} {N m:Nat} (hk:lk L m=some (Pd.ge N)) (hx:Opn L x q):Opn L x (Pd.geq N q):=fun M n s0 a s hL=>⟨hx M n s0 a s hL,hL.get m hk⟩
theorem Has.geq0 {M:Nat→Prop} {n N:Nat} {s0:St} {a:Act} {q:Pd} {qs:List Pd} (h:Has M n s0 a s0 (num 0 (Pd.geq N q::qs))):N≤s0.w.heap.size∧Has M n s0 a s0 ((999900,Pd.ge N)::num 0 (q::qs)):=by
 have h0:=h.get 0 rfl;refine ⟨h0.2,Has.cons (h.sub fun t r hl=>?_) 999900 h0.2⟩;unfold num at hl;rw [zek] at hl;split at hl
 ·rename_i e;cases hl;subst e;exact h0.1
 ·rename_i e
  refine h.at_ t r ?_;unfold num;rw [zek,if_neg e];exact hl
section
variable {P : Program} {f : FuncId} {q : Pd} {qs : List Pd}
theorem Fn.nfrz {α:Type} {E:En α} {te:TypeId} {xs:List α} (h:Fn P f (q::qs) (Ro E te xs)) (N:Nat):Fn P f (Pd.geq N q::qs) (Rq (Pd.rep (En.nsl N E) xs)):=
 ⟨h.call,fun s vs hg hv=>match vs,hv with
  | v0::vs,⟨⟨h0,hN⟩,hv⟩=>(h.run s (v0::vs) hg ⟨h0,hv⟩).mono fun e w' ⟨v,s',he,hw,hx,og,ho⟩=>by
   have hlt:=zfg ho;refine ⟨v,⟨s'.w,fun b=>s'.X b∧og≠some b,fun b hb=>s'.lt b hb.1⟩,he,hw, ?_,[v],rfl,⟨v,rfl,own_slV ho rfl fun b hb=>hb⟩,fun hn=>?_⟩
   ·exact ⟨⟨hx.mv.dr,hx.mv.os,hx.mv.tape,hx.mv.output,hx.mv.size,hx.mv.blk,fun _ h=>h.elim,fun b hb=>hx.mv.xx b hb.1⟩,fun b hb=>⟨hx.keep b hb,fun e=>by have:=(hlt b e).1;have:=s.lt b hb;omega⟩⟩
   ·obtain ⟨h1,h2,h3,css,h4,h5⟩:=ho;rcases h5.2 with ⟨e,hn0⟩ | ⟨g,cap,cur,e,hg,hh,r⟩
    ·exact absurd (List.eq_nil_of_length_eq_zero hn0) hn
    ·subst e;exact ⟨g,0,_,_,_,_,rfl,⟨(Array.getElem?_eq_some_iff.1 hh).1,fun hX=>hX.2 (by rw [← h1];rfl)⟩,Nat.le_trans hN hg,hh⟩⟩
theorem Fn.un {R:St→St→Value→Prop} (h:Fn P f (Pd.geq 0 q::qs) R):Fn P f (q::qs) R:=
 ⟨h.call,fun s vs hg hv=>match vs,hv with
  | v0::vs,⟨h0,hv⟩=>h.run s (v0::vs) hg ⟨⟨h0,Nat.zero_le _⟩,hv⟩⟩
theorem Fn.imp {R R':St→St→Value→Prop} {qs:List Pd} (h:Fn P f qs R) (k:∀s s' v,R s s' v→R' s s' v):Fn P f qs R':=
 ⟨h.call,fun s vs hg hv=>(h.run s vs hg hv).mono fun e w' ⟨v,s',he,hw,hx,hr⟩=>⟨v,s',he,hw,hx,k _ _ _ hr⟩⟩
end
def En.valu:En Value where
 sz:=1
 agg:=false
 R:=fun _ _ cs x=>cs=[x]∧x.oneCell'=true
 sc:=fun _=>rfl
 pos:=Nat.one_pos
 len:=by rintro _ _ _ _ ⟨rfl,_⟩;rfl
 one:=by rintro _ _ _ _ ⟨rfl,h⟩ u hu;simp at hu;subst hu;exact h
 mono:=fun _ h=>h
 move:=fun _ h=>h
def En.any1:En Unit where
 sz:=1
 agg:=false
 R:=fun _ _ cs _=>∃x:Value,cs=[x]∧x.oneCell'=true
 sc:=fun _=>rfl
 pos:=Nat.one_pos
 len:=by rintro _ _ _ _ ⟨_,rfl,_⟩;rfl
 one:=by rintro _ _ _ _ ⟨_,rfl,h⟩ u hu;simp at hu;subst hu;exact h
 mono:=fun _ h=>h
 move:=fun _ h=>h
theorem rep_valu {x:Value} {s:St} {v:Value}:(Pd.rep En.valu x).p s v↔v=x∧x.oneCell'=true:=
 ⟨fun ⟨_,hv,hc,h1⟩=>by subst hc;exact ⟨hv,h1⟩,fun ⟨hv,h1⟩=>⟨[x],hv,rfl,h1⟩⟩
section
variable {M : Nat → Prop} {n : Nat} {s0 : St} {a : Act} {s : St} {L L' : Lst} {α β : Type} {E : En α} {B : En β}
end
def NewV (N:Nat) (w:World) (S:Nat→Prop) (sz:Nat) (u:Value) (len:Nat):Prop:=
 u.oneCell'=true∧∃ad cap,u = .slice ad len cap∧len≤lim∧(0<len→∃b off arr te,ad=some ⟨b,off,none⟩∧S b∧N≤b∧w.heap[b]?=some (.cells arr te (0,0))∧off+len*sz≤arr.size)
theorem nsl_new {α:Type} {E:En α} {N:Nat} {w:World} {S:Nat→Prop} {cs:List Value} {xs:List α} (h:(En.nsl N E).R w S cs xs):∃u,cs=[u]∧NewV N w S E.sz u xs.length:=by
 obtain ⟨⟨v,rfl,ad,cap,rfl,h1,h2,h3,h4⟩,hn⟩:=h;refine ⟨_,rfl,rfl,ad,cap,rfl,h3,fun hp=>?_⟩;have hne:xs≠[]:=fun e=>by rw [e] at hp;simp at hp
 obtain ⟨b,off,n,c,arr,te,e,hb,hN,hg⟩:=hn hne;obtain ⟨b',off',css,had,hb',hE,hc⟩:=h4 hne;simp only [List.cons.injEq,Value.slice.injEq,and_true] at e;rw [had] at e;obtain ⟨e1,_⟩:=e;cases e1;refine ⟨b,off,arr,te,had,hb,hN,hg, ?_⟩;have hl:css.flatten.length=xs.length*E.sz:=by rw [zd8 hE.lens,hE.1]
 have hpos:0<xs.length*E.sz:=Nat.mul_pos hp E.pos;obtain ⟨u,hu⟩:∃u,css.flatten[xs.length*E.sz-1]?=some u:=⟨css.flatten[xs.length*E.sz-1]'(by omega),by simp⟩;have:=hc _ u hu;rw [cell_of_row w b _ arr te (0,0) hg] at this;have:=(Array.getElem?_eq_some_iff.1 this).1;omega
def HotV (H:Nat→Prop) (s:St) (sz:Nat) (u:Value) (len:Nat):Prop:=
 ∃ad cap,u = .slice ad len cap∧len≤lim∧(0<len→∃b off arr te,ad=some ⟨b,off,none⟩∧H b∧s.w.heap[b]?=some (.cells arr te (0,0))∧off+len*sz≤arr.size)
def Pd.hots (H:Nat→Prop) (sz:Nat) (us:List (Value × Nat)):Pd:=
 ⟨fun s _=>(∀b,H b→s.X b)∧∀u∈us,HotV H s sz u.1 u.2,H,fun {T s s' v} h hb ⟨h1,h2⟩=>⟨fun b hH=>(hb b hH).2 (h1 b hH),fun u hu=>by
  obtain ⟨ad,cap,e,hl,h3⟩:=h2 u hu
  refine ⟨ad,cap,e,hl,fun hp=>?_⟩
  obtain ⟨b,off,arr,te,e,hH,hg,hs⟩:=h3 hp
  exact ⟨b,off,arr,te,e,hH,(h.blk b (Array.getElem?_eq_some_iff.1 hg).1 (hb b hH).1).trans hg,hs⟩⟩⟩
def Pd.hptr (H:Nat→Prop) (k:Nat):Pd:=
 ⟨fun s v=>∃b o arr te,v = .pointer (some ⟨b,o,none⟩)∧H b∧s.w.heap[b]?=some (.cells arr te (0,0))∧o+k≤arr.size,H,fun {T s s' v} h hb ⟨b,o,arr,te,e,hH,hg,hs⟩=>
  ⟨b,o,arr,te,e,hH,(h.blk b (Array.getElem?_eq_some_iff.1 hg).1 (hb b hH).1).trans hg,hs⟩⟩
section
variable {P : Program} {ops : Array Oper} {o : Oper} {L L' : Lst} {H : Nat → Prop} {sz : Nat} {us : List (Value × Nat)} {uv : Value × Nat} {m : Nat} {y : Operand} {t te : TypeId}
theorem t_lenh (hk:lk L m=some (Pd.hots H sz us)) (hu:uv∈us) (hy:Opn L y (Pd.rep En.valu uv.1)) (ht:P.underlying t=some (.slice te)) (ho:o.op = .call { callee:=.builtin .len,args:=#[y],argTypes:=#[t] }) (hg:o.guard=none):
  T P ops o L (Pd.rep (En.int .i64) (uv.2:Int)):=
 T.pure hg fun M n s0 ac s hL=>by
  obtain ⟨ad,cap,hv,hl,_⟩:=(hL.get m hk).2 uv hu;have hy':=(rep_valu.1 (hy M n s0 ac s hL)).1;refine ⟨.int .i64 uv.2, ?_,z7.2 ⟨rfl, ?_⟩⟩
  ·unfold execOp;rw [ho];simp [resolve,invoke,builtin,hy',hv,Builtin.len_,run_underlying ht,goInt]
  ·simp only [lim] at hl;simp [InR,IntKind.min,IntKind.max,IntKind.signed,IntKind.bits];omega
theorem t_idxh {α:Type} {E:En α} {k:IntKind} {i:Int} {z:Operand} (hk:lk L m=some (Pd.hots H sz us)) (hu:uv∈us) (hy:Opn L y (Pd.rep En.valu uv.1)) (hz:Opn L z (Pd.rep (En.int k) i)) (hi:0≤i∧i<(uv.2:Int)) (ht:P.underlying t=some (.slice te)) (hE:Ty P te E) (hsz:E.sz=sz)
  (ho:o.op = .indexAddr t y z) (hg:o.guard=none):T P ops o L (Pd.hptr H sz):=
 T.pure hg fun M n s0 ac s hL=>by
  obtain ⟨ad,cap,hv,hl,h3⟩:=(hL.get m hk).2 uv hu;have hy':=(rep_valu.1 (hy M n s0 ac s hL)).1;have hz':=(z7.1 (hz M n s0 ac s hL)).1;obtain ⟨b,off,arr,te',e,hH,hg',hs⟩:=h3 (by omega);refine ⟨.pointer (some ⟨b,off+i.toNat*E.sz,none⟩), ?_,b,_,arr,te',rfl,hH,hg', ?_⟩
  ·unfold execOp;rw [ho];simp only [hy',hv,hz',Instr.indexAt,asIntOf,Sem.run_bind,Sem.run_pure,Result.andThen_ok,run_underlying ht,e];rw [if_pos (by omega)];simp [z6 hE,zc3]
  ·rw [hsz];have:(i.toNat+1)*sz≤uv.2*sz:=Nat.mul_le_mul_right _ (by omega);rw [Nat.succ_mul] at this;omega
theorem t_fah {β:Type} {E':En β} {k f:Nat} {fs:Array Field} {fd:Field} (hy:Opn L y (Pd.hptr H k)) (ht:P.underlying t=some (.struct fs)) (hf:fs[f]?=some fd) (hE:Ty P fd.type E') (hle:fd.offset+E'.sz≤k) (ho:o.op = .fieldAddr t y f) (hg:o.guard=none):
  T P ops o L (Pd.hptr H E'.sz):=
 T.pure hg fun M n s0 ac s hL=>by
  obtain ⟨b,o',arr,te',hv,hH,hg',hs⟩:=hy M n s0 ac s hL;refine ⟨.pointer (some ⟨b,o'+fd.offset,none⟩), ?_,b,_,arr,te',rfl,hH,hg',by omega⟩;unfold execOp;rw [ho];simp only [hv,Sem.run_bind,zej ht hf hE,Result.andThen_ok,Sem.run_pure]
section
variable {Q : Exit → Act → World → Prop} {rest : List Oper} {M : Nat → Prop} {n : Nat} {s0 : St} {a : Act} {s : St}
theorem st_sth {α:Type} {E:En α} {x:α} {k:Nat} {z:Operand} (c:Nat) (hL:Has M n s0 a s L) (hc:lk L c=some (Pd.hots H sz us)) (hH:∀b,H b→s0.w.heap.size≤b) (hy:Opn L y (Pd.hptr H k)) (hz:Opn L z (Pd.rep E x)) (ht:Ty P t E) (hle:E.sz≤k)
  (ho:o.op = .store t y z) (hg:o.guard=none) (hd:o.dst=none) (hk:Kw H L (Pd.hots H sz us) (Pd.hots H sz us) L') (kk:∀s',Has M n s0 a s' L'→wpList P ops Q rest a s'.w):wpList P ops Q (o::rest) a s.w:=by
 obtain ⟨b,o',arr,te',hv,hHb,hgb,hs⟩:=hy M n s0 a s hL;obtain ⟨cs,hzv,hR⟩:=hz M n s0 a s hL;have hX:=(hL.get c hc).1;have hlen:=E.len hR;have hl:o'+E.sz≤arr.toList.length:=by simp;omega
 have hr:=zgk (P:=P) ht hR (g:=b) (off:=o') (cur:=arr.toList) (te:=te') (by simpa using hgb) hl;refine wp_store (s:=s) (by rw [hv,hzv];exact hr) ho hg hd ?_;have e0:Ef (fun c=>c=b) s (s.set b (spl arr.toList o' cs)):=Ef.set s _ (fun _=>Iff.rfl) (hX b hHb);have e:Ef H s (s.set b (spl arr.toList o' cs)):=
  ⟨⟨e0.mv.dr,e0.mv.os,e0.mv.tape,e0.mv.output,e0.mv.size,fun c hc hn=>e0.mv.blk c hc (fun e=>hn (e ▸ hHb)),hX,e0.mv.xx⟩,fun c hc _=>hc⟩
 refine kk (s.set b (spl arr.toList o' cs)) (hL.turn e (.inl hH) (fun _ h=>h) hk fun w hw=>⟨fun c hc=>hw.1 c hc,fun u hu=>?_⟩);obtain ⟨ad,cap,e1,hl1,h3⟩:=hw.2 u hu;refine ⟨ad,cap,e1,hl1,fun hp=>?_⟩;obtain ⟨b2,off,arr2,te2,e2,hH2,hg2,hs2⟩:=h3 hp
 by_cases hb:b2=b
 ·subst hb;rw [hgb] at hg2;cases hg2;refine ⟨b2,off,(spl arr.toList o' cs).toArray,te',e2,hH2,setRow_heap s.w b2 arr _ te' (0,0) hgb, ?_⟩;have:=spl_len (cells:=arr.toList) (cs:=cs) (off:=o') (by rw [hlen];exact hl);simp only [List.size_toArray,this];simpa using hs2
 ·exact ⟨b2,off,arr2,te2,e2,hH2,(e0.mv.blk b2 (Array.getElem?_eq_some_iff.1 hg2).1 hb).trans hg2,hs2⟩
theorem els_hot {α β:Type} {E:En α} {F:En β} {g:Value × Nat→β} {len:α→Nat} {N:Nat} {w:World} {S:Nat→Prop} (hc:∀x cs,E.R w S cs x→∃u:Value × Nat,u.2=len x∧(∀w' S',F.R w' S' cs (g u))∧NewV N w S sz u.1 u.2):
  ∀{zs:List α} {css:List (List Value)},Els E w S css zs→∃us:List (Value × Nat),us.map (·.2)=zs.map len∧(∀w' S',Els F w' S' css (us.map g))∧∀u∈us,NewV N w S sz u.1 u.2
 | [],css,h=>⟨[],rfl,fun _ _=>⟨h.1,fun i cs x _ hx=>by simp at hx⟩,fun u hu=>by cases hu⟩
 | z::zs,css,h=>by
  match css,h with
  | [],h=>cases h.1
  | cs::css,h=>
   obtain ⟨us,h1,h2,h3⟩:=els_hot hc (zs:=zs) (css:=css) ⟨by simpa using h.1,fun i c x a b=>h.2 (i+1) c x (by simpa using a) (by simpa using b)⟩;obtain ⟨u,k1,k2,k3⟩:=hc z cs (h.2 0 cs z rfl rfl);refine ⟨u::us,by simp [h1,k1],fun w' S'=>⟨by simp [(h2 w' S').1],fun i c x a b=>?_⟩,fun v hv=>?_⟩
   ·cases i with
    | zero=>simp at a b;subst a;subst b;exact k2 w' S'
    | succ i=>exact (h2 w' S').2 i c x (by simpa using a) (by simpa using b)
   ·rcases List.mem_cons.1 hv with rfl | hv
    ·exact k3
    ·exact h3 v hv
theorem zfw {α β:Type} {E:En α} {F:En β} {zs:List α} {N:Nat} {f:FuncId} {xs:List Operand} {qs:List Pd} {ats:Array TypeId} (g:Value × Nat→β) (len:α→Nat) (d m:Nat) (hL:Has M n s0 a s L) (hN:N=s.w.heap.size) (hf:Fn P f qs (Ro E te zs)) (hx:Opns L xs qs) (hsz:E.sz=F.sz)
  (hc:∀w S x cs,E.R w S cs x→∃u:Value × Nat,u.2=len x∧(∀w' S',F.R w' S' cs (g u))∧NewV N w S sz u.1 u.2) (ho:o.op = .call { callee:=.value (.func f),args:=xs.toArray,argTypes:=ats }) (hg:o.guard=none) (hd:o.dst=some d) (hn:Nat.blt d n=true)
  (k:∀a' s' H us,(∀b,H b→s0.w.heap.size≤b)→us.map (·.2)=zs.map len→Has M n s0 a' s' ((m,Pd.hots H sz us)::(d,Pd.rep (En.slice F) (us.map g))::L)→wpList P ops Q rest a' s'.w):wpList P ops Q (o::rest) a s.w:=by
 refine wpList_plain hg fun K hK=>?_;unfold Oper.wp;rw [zd2 hf a s.w ho,Oper.upon_enter];refine (hf.run s _ hL.gls (hx.vals hL)).mono fun e w' ⟨v,s',he,hw,hX,og,hrow⟩=>?_;subst he;subst hw;refine hK _ _ ?_;rw [hd];have hrl:=zfg hrow;obtain ⟨h1,h2,h3,css,h4,h5⟩:=hrow;obtain ⟨us,hul,hF,hnew⟩:=els_hot (len:=len) (g:=g) (F:=F) (sz:=sz) (N:=N) (fun x cs=>hc _ _ x cs) h4;have hlen:(us.map g).length=zs.length:=by have:=congrArg List.length hul;simpa using this
 have hlt:∀b,((s'.X b∧og≠some b)∨(N≤b∧zc4 s' b))→b<s'.w.heap.size:=fun b hb=>hb.elim (fun h=>s'.lt b h.1) (fun h=>h.2.1);have ex:Ex s ⟨s'.w,fun b=>(s'.X b∧og≠some b)∨(N≤b∧zc4 s' b),hlt⟩:=
  ⟨⟨hX.mv.dr,hX.mv.os,hX.mv.tape,hX.mv.output,hX.mv.size,hX.mv.blk,fun _ h=>h.elim,fun b hb=>hb.elim (fun h=>hX.mv.xx b h.1) (fun h=>.inr (hN ▸ h.1))⟩,fun b hb=>.inl ⟨hX.keep b hb,fun e=>by have:=(hrl b e).1;have:=s.lt b hb;omega⟩⟩
 have hL2:=hL.put ex (v:=v) (q:=Pd.rep (En.slice F) (us.map g)) hn (by
  refine zbp.2 ?_;rcases h5.2 with ⟨e,hn0⟩ | ⟨b,cap,cur,e,hNb,hgb,hnc,hcm,hcs,htk⟩
  ·have:us.map g=[]:=List.eq_nil_of_length_eq_zero (by rw [hlen];exact hn0);rw [this,e];exact zei F _ _
  ·subst e;refine ⟨some ⟨b,0,none⟩,cap,by rw [hlen],by rw [hlen];exact hnc,(fun e=>by cases e),by rw [hlen];exact h3,fun _=>⟨b,0,css,rfl,⟨(Array.getElem?_eq_some_iff.1 hgb).1, ?_⟩,hF _ _,fun j u hu=>?_⟩⟩
   ·rintro (hx | hx)
    ·exact hx.2 (by rw [← h1];rfl)
    ·exact hx.2.2 (h2 b (by rw [← h1];rfl))
   ·rw [Nat.zero_add,cell_of_row s'.w b j cur te (0,0) hgb];rw [← htk,List.getElem?_take] at hu;split at hu
    ·simpa using hu
    ·cases hu)
 refine k _ ⟨s'.w,fun b=>(s'.X b∧og≠some b)∨(N≤b∧zc4 s' b),hlt⟩ (fun b=>N≤b∧zc4 s' b) us (fun b hb=>Nat.le_trans hL.ent.mv.size (hN ▸ hb.1)) hul (hL2.cons m (q:=Pd.hots (fun b=>N≤b∧zc4 s' b) sz us) ⟨fun b hb=>.inr hb,fun u hu=>?_⟩);obtain ⟨_,ad,cap,e,hl,h3⟩:=hnew u hu;refine ⟨ad,cap,e,hl,fun hp=>?_⟩;obtain ⟨b,off,arr,te',e1,hS,hNb,hg1,hs1⟩:=h3 hp;exact ⟨b,off,arr,te',e1,⟨hNb,hS⟩,hg1,hs1⟩
end
end
end
section
variable {P : Program} {ops : Array Oper} {o : Oper} {L : Lst}
end
end Go.Proofs.YtaknifhhnhcchaaDoor.V
namespace Go.Proofs.YtaknifhhnhcchaaDoor.V
open Go
set_option linter.unusedVariables false
set_option maxRecDepth 100000
noncomputable abbrev EnB (N:Nat):En SBranch:=En.cat (En.nsl N En.SItem) (En.int .i64)
theorem le_B (N:Nat):Le (EnB N) En.SBranch:=(le_nsl N En.SItem).cat (Le.refl _)
noncomputable abbrev Efmp (N:Nat):En (List (Str × SBranch)):=En.fmap En.str kvStr (EnB N)
noncomputable abbrev Efinder:En (SDesc × Option Nat):=En.cat En.SDesc En.mref
theorem tyB {N:Nat}:Ty Tryd.prog 51 (EnB N):=⟨⟨_,_,rfl,rfl,rfl,rfl,by decide⟩,_,rfl,rfl⟩
theorem tySN {N:Nat}:Ty Tryd.prog 43 (En.nsl N En.SItem):=⟨⟨_,_,rfl,rfl,rfl,rfl,by decide⟩,_,rfl,rfl⟩
theorem tyzB {N:Nat}:TyZ Tryd.prog 51 (EnB N) (([],0):SBranch):=⟨_,_,([.slice none 0 0]++[.int .i64 0]),rfl,rfl,by rfl,fun _ _=>⟨_,_,rfl,nsl_nil _ _ _ _,⟨rfl,by decide⟩⟩⟩
theorem sttB:Stt Tryd.prog 51 [(0,1),(1,1)]:=⟨_,Tryd.underlying51,by kernel_rfl⟩
theorem tyzFinder:TyZ Tryd.prog 78 Efinder (([],none):SDesc × Option Nat):=⟨_,_,([.slice none 0 0]++[.map none]),rfl,rfl,by rfl,fun _ _=>⟨[.slice none 0 0],[.map none],rfl,⟨_,rfl,zei _ _ _⟩,rfl⟩⟩
theorem sttFinder:Stt Tryd.prog 78 [(0,1),(1,1)]:=⟨_,Tryd.underlying78,by kernel_rfl⟩
theorem tyMap:Ty Tryd.prog 76 En.mref:=⟨⟨_,_,rfl,rfl,rfl,rfl,by decide⟩,_,rfl,rfl⟩
theorem tyvMap {N:Nat}:TyV Tryd.prog 79 (Efmp N) []:=⟨_,[.map none],rfl,by rfl,fun _ _=>⟨_,rfl,.inl ⟨rfl,rfl⟩⟩⟩
theorem tyvBranch {N:Nat}:TyV Tryd.prog 51 (EnB N) (([],0):SBranch):=⟨_,[.slice none 0 0]++[.int .i64 0],rfl,by rfl,fun _ _=>⟨_,_,rfl,nsl_nil _ _ _ _,⟨rfl,by decide⟩⟩⟩
def GoodM (d:List SNode) (t:List SItem) (m:List (Str × SBranch)):Prop:=∃h l,lv d h t=some l∧ze4 (fun u=>l.count u) m
def InvS (d:List SNode) (xs:List (Str × List (Str × SBranch))):Prop:=∀k m,(k,m)∈xs→∃t,k=keyS t∧GoodM d t m
theorem InvS.get {d:List SNode} {xs} (h:InvS d xs) {t:List SItem} (hm:mhas xs (keyS t)=true):GoodM d t (zfz xs (keyS t) []):=by
 obtain ⟨t',e,hg⟩:=h _ _ (mget_in hm []);have:=zfq.1 e;subst this;exact hg
theorem InvS.put {d:List SNode} {xs} (h:InvS d xs) {t:List SItem} {m} (hg:GoodM d t m):InvS d (zeu xs (keyS t) m):=by
 intro k m' hm;rcases mput_mem.1 hm with e | ⟨_,hm⟩
 ·cases e;exact ⟨t,rfl,hg⟩
 ·exact h k m' hm
theorem InvS.nil (d:List SNode):InvS d []:=fun k m h=>by cases h
abbrev FndOk (N:Nat) (d:List SNode) (g:Nat) (t:List SItem) (xs:List (Str × List (Str × SBranch))):Prop:=
 Fc Tryd.prog 31 En.str kvStr (Efmp N) g xs [Pd.ptr Efinder (d,some g),Pd.rep (En.slice En.SItem) t] (fun i:List (Str × SBranch) × List (Str × List (Str × SBranch))=>GoodM d t i.1∧InvS d i.2) (fun i=>Pd.rep (Efmp N) i.1) (fun i=>i.2)
theorem no_g {og:Option Nat} {g N:Nat} (hg:g<N) (h:∀b,og=some b→N≤b):∀b,og=some b→¬ some g=some b:=fun b hb e=>by cases e;have:=h g hb;omega
theorem no_o {og:Option Nat} {g N:Nat} (hg:g<N) (h:∀b,og=some b→N≤b):∀b,some g=some b→¬ og=some b:=fun b e hb=>by cases e;have:=h g hb;omega
structure Left (c:List SItem→Nat) (rem:List (Str × SBranch)):Prop where
 kn:KN rem
 ent:∀p∈rem,p.1=keyS p.2.1∧c p.2.1≠0∧p.2.2=sat (c p.2.1)
theorem ze4.left {c:List SItem→Nat} {m:List (Str × SBranch)} (h:ze4 c m):Left c m:=⟨h.kn,fun p hp=>(h.mem p.1 p.2).1 hp⟩
theorem Left.perm {c:List SItem→Nat} {l m:List (Str × SBranch)} (h:Left c l) (hp:l.Perm m):Left c m:=⟨h.kn.perm hp,fun p hm=>h.ent p (hp.mem_iff.2 hm)⟩
theorem Left.tail {c:List SItem→Nat} {p:Str × SBranch} {l:List (Str × SBranch)} (h:Left c (p::l)):Left c l∧keyS p.2.1 ∉ l.map (·.1):=by
 have hk:=h.kn;unfold KN at hk;rw [List.map_cons,List.nodup_cons] at hk;exact ⟨⟨hk.2,fun q hq=>h.ent q (by simp [hq])⟩,by rw [← (h.ent p (by simp)).1];exact hk.1⟩
def cnt (f c:List SItem→Nat) (rem:List (Str × SBranch)) (u:List SItem):Nat:=f u+if keyS u∈rem.map (·.1) then 0 else c u
theorem cnt_start {f c:List SItem→Nat} {m rem:List (Str × SBranch)} (h:ze4 c m) (hp:m.Perm rem) (u:List SItem):cnt f c rem u=f u:=by
 unfold cnt
 by_cases hc:c u=0
 ·simp [hc]
 ·rw [if_pos];· rfl
  exact List.mem_map.2 ⟨(keyS u,(u,sat (c u))),hp.mem_iff.1 ((h.mem _ _).2 ⟨rfl,hc,rfl⟩),rfl⟩
theorem cnt_perm {f c:List SItem→Nat} {l m:List (Str × SBranch)} (hp:l.Perm m) (u:List SItem):cnt f c l u=cnt f c m u:=by
 unfold cnt;have h:=(hp.map (·.1)).mem_iff (a:=keyS u)
 by_cases hu:keyS u∈l.map (·.1)
 ·rw [if_pos hu,if_pos (h.1 hu)]
 ·rw [if_neg hu,if_neg (fun k=>hu (h.2 k))]
theorem cnt_nil {f c:List SItem→Nat} (u:List SItem):cnt f c [] u=f u+c u:=by simp [cnt]
theorem cnt_step {f c:List SItem→Nat} {p:Str × SBranch} {l:List (Str × SBranch)} (h:Left c (p::l)) {out:List (Str × SBranch)} (ho:ze4 (cnt f c (p::l)) out):
  ze4 (cnt f c l) (zeu out p.1 (p.2.1,min ((zfz out p.1 (([],0):SBranch)).2+p.2.2) 2)):=by
 obtain ⟨h1,h2⟩:=h.tail;obtain ⟨e1,e2,e3⟩:=h.ent p (by simp);rw [e1,e3];refine (ho.put p.2.1 e2).congr fun t=>?_;unfold cnt;simp only [List.map_cons,List.mem_cons,e1,zfq]
 by_cases ht:t=p.2.1
 ·subst ht;rw [if_pos (.inl rfl),if_neg h2,if_pos rfl];rfl
 ·simp only [ht,false_or,if_false,Nat.add_zero]
theorem zfp {α β:Type} {f:α→Option β}:∀{l:List α} {r:List β},l.mapM f=some r→r.length=l.length
 | [],r,h=>by simp at h;subst h;rfl
 | a::l,r,h=>by
  rw [List.mapM_cons] at h;cases ha:f a with
  | none=>rw [ha] at h;simp at h
  | some b=>
   rw [ha] at h;cases hl:l.mapM f with
   | none=>rw [hl] at h;simp at h
   | some bs=>
    rw [hl] at h;have e:b::bs=r:=by simpa using h
    rw [← e];simp [zfp hl]
theorem zhd {α β:Type} {f:α→Option β}:∀{l:List α} {r:List β},l.mapM f=some r→∀{i:Nat} (hi:i<l.length),∃b,f l[i]=some b∧r[i]?=some b
 | [],r,_,i,hi=>by simp at hi
 | a::l,r,h,i,hi=>by
  rw [List.mapM_cons] at h;cases ha:f a with
  | none=>rw [ha] at h;simp at h
  | some b=>
   rw [ha] at h;cases hl:l.mapM f with
   | none=>rw [hl] at h;simp at h
   | some bs=>
    rw [hl] at h;have e:b::bs=r:=by simpa using h
    subst e;cases i with
    | zero=>exact ⟨b,ha,rfl⟩
    | succ i=>
     obtain ⟨b',h1,h2⟩:=zhd hl (i:=i) (by simpa using hi);exact ⟨b',by simpa using h1,by simpa using h2⟩
theorem take_flat {α:Type} {ls:List (List α)} {i:Nat} {l:List α} (h:ls[i]?=some l):(ls.take (i+1)).flatten=(ls.take i).flatten++l:=by
 have hi:=(List.getElem?_eq_some_iff.1 h).1;have e:=(List.getElem?_eq_some_iff.1 h).2;rw [List.take_succ_eq_append_getElem hi,e,List.flatten_append];simp
theorem find_step {d:List SNode} (hd:ROk d) (hk:DOk d) (hl4:d.length≤400) {N:Nat} (g:Nat) (hN:N≤g) {h:Nat} (ih:∀(t:List SItem) (l:List (List SItem)),lv d h t=some l→Vs d 400 t→∀xs,InvS d xs→FndOk N d g t xs) (hd0:∃n,at? d 0=some n)
  {t:List SItem} {l:List (List SItem)} (hl:lv d (h+1) t=some l) (hv:Vs d 400 t) {xs:List (Str × List (Str × SBranch))} (hxs:InvS d xs):FndOk N d g t xs:=by
 have htl:=hv.len;refine fc_of Tryd.func31 rfl Tryd.ntmps31 (by rfl) (by simp) fun s0 a hL=>?_;have hgs:g<s0.w.heap.size:=by
  obtain ⟨hX,_⟩:=hL.get 999902 rfl;exact s0.lt g hX
 refine wp_seq_k fun K0 hK0=>?_;refine rg ?_;refine st 4 (zg (q:=Pd.any) (fun _ _ _ _ _ _=>trivial) rfl rfl) rfl rfl hL fun a s e_ hL=>?_;refine en' ?_;show K0 a s.w;refine hK0 _ _ ?_;refine wp_seq_k fun K1 hK1=>?_;refine rg ?_;refine st 14 (ze (o_t 1 rfl) rfl rfl) rfl rfl hL fun a s e_ hL=>?_;refine st 15 (zx (item_Key_ok (item_Key_in (s:=t) (by omega))) (xs:=[.tmp 14]) (.cons (o_t 14 rfl) .nil) rfl rfl) rfl rfl hL fun a s e_ hL=>?_;refine st 5 (zg (o_t 15 rfl) rfl rfl) rfl rfl hL fun a s e_ hL=>?_;refine en' ?_;show K1 a s.w;refine hK1 _ _ ?_;refine wp_seq_k fun K2 hK2=>?_;refine wp_seq_k fun K3 hK3=>?_;refine rg ?_;refine st 17 (ze (o_t 0 rfl) rfl rfl) rfl rfl hL fun a s e_ hL=>?_;refine st 18 (t_nc (o_t 17 rfl) zer rfl rfl) rfl rfl hL fun a s e_ hL=>?_;refine st 19 (zgc (off:=1) (o_t 18 rfl) Tryd.underlying78 rfl (zi (zk _ _) rfl) rfl tyMap rfl rfl) rfl rfl hL fun a s e_ hL=>?_;refine st 20 (zbd tyMap (o_t 19 rfl) rfl rfl) rfl rfl hL fun a s e_ hL=>?_;refine st 21 (ze (o_t 5 rfl) rfl rfl) rfl rfl hL fun a s e_ hL=>?_;refine st 22 (t_mgetcok (m:=999902) rfl (o_t 20 rfl) (o_t 21 rfl) Tryd.underlying76 (zdy Tryd.underlying9) tyvMap rfl rfl) rfl rfl hL fun a s e_ hL=>?_;refine st 16 (ze (o_t 22 rfl) rfl rfl) rfl rfl hL fun a s e_ hL=>?_;refine st 23 (t_ext0 (o_t 16 rfl) rfl rfl) rfl rfl hL fun a s e_ hL=>?_;refine st 24 (t_ext1 (o_t 16 rfl) rfl rfl) rfl rfl hL fun a s e_ hL=>?_;refine st 6 (zg (o_t 23 rfl) rfl rfl) rfl rfl hL fun a s e_ hL=>?_;refine st 7 (zg (o_t 24 rfl) rfl rfl) rfl rfl hL fun a s e_ hL=>?_
 refine en' ?_;show K3 a s.w;refine hK3 _ _ ?_;refine wp_seq_k fun K4 hK4=>?_;refine rg ?_;refine st 25 (ze (o_t 7 rfl) rfl rfl) rfl rfl hL fun a s e_ hL=>?_;refine en' ?_;show K4 a s.w;refine hK4 _ _ ?_;refine cnd hL rfl (fun hb_=>?_) (fun hb_=>?_)
 ·refine wp_seq_k fun K5 hK5=>?_;refine rg ?_;refine st 26 (ze (o_t 6 rfl) rfl rfl) rfl rfl hL fun a s e_ hL=>?_;refine st 4 (zg (o_t 26 rfl) rfl rfl) rfl rfl hL fun a s e_ hL=>?_;refine en' ?_;show K5 a s.w;refine hK5 _ _ ?_;exact wp_ret (retc (zfz xs (keyS t) [],xs) ⟨hxs.get hb_,hxs⟩ rfl hL rfl rfl)
 refine wp_skip ?_;show K2 a s.w;refine hK2 _ _ ?_;refine wp_seq_k fun K6 hK6=>?_;refine rg ?_;refine st_mkmap 27 En.str kvStr (EnB N) hL rfl rfl rfl rfl fun a s g8 hg8 hL=>?_;have hng:∀b,some g8=some b→s0.w.heap.size≤b:=fun b hb=>(zf0 (hL.get 27 rfl) b hb).1;refine st 8 (zg (o_t 27 rfl) rfl rfl) rfl rfl hL fun a s e_ hL=>?_;refine en' ?_;show K6 a s.w;refine hK6 _ _ ?_;refine wp_seq_k fun K7 hK7=>?_;refine wp_seq_k fun K8 hK8=>?_;refine rg ?_;refine st 28 (ze (o_t 0 rfl) rfl rfl) rfl rfl hL fun a s e_ hL=>?_;refine st 29 (t_nc (o_t 28 rfl) zer rfl rfl) rfl rfl hL fun a s e_ hL=>?_;refine st 30 (zgc (off:=0) (o_t 29 rfl) Tryd.underlying78 rfl (zu (zk _ _)) rfl zeb rfl rfl) rfl rfl hL fun a s e_ hL=>?_;refine st 31 (zbd zeb (o_t 30 rfl) rfl rfl) rfl rfl hL fun a s e_ hL=>?_;refine st 32 (ze (o_t 1 rfl) rfl rfl) rfl rfl hL fun a s e_ hL=>?_;refine st 33 (zx (zct (zcu hd hv.form)) (xs:=[.tmp 31,.tmp 32]) (.cons (o_t 31 rfl) (.cons (o_t 32 rfl) .nil)) rfl rfl) rfl rfl hL fun a s e_ hL=>?_;refine en' ?_;show K8 a s.w;refine hK8 _ _ ?_;refine cnd hL rfl (fun hb_=>?_) (fun hb_=>?_)
 ·have hgood:GoodM d t (zeu [] (keyS t) (t,1)):=⟨1,[t],by simp [lv,hb_],ze4.one t⟩;refine wp_seq_k fun K9 hK9=>?_;refine rg ?_;refine st 34 (ze (o_t 8 rfl) rfl rfl) rfl rfl hL fun a s e_ hL=>?_;refine st 35 (ze (o_t 5 rfl) rfl rfl) rfl rfl hL fun a s e_ hL=>?_;refine st 36 (ze (o_t 1 rfl) rfl rfl) rfl rfl hL fun a s e_ hL=>?_;have hge:N≤s.w.heap.size:=Nat.le_trans (Nat.le_of_lt (Nat.lt_of_le_of_lt hN hgs)) hL.ent.mv.size;replace hL:=hL.cons 999900 (q:=Pd.ge N) hge;refine st 37 (zx ((zce (clone_in (s:=t) (by omega))).nfrz N) (xs:=[.tmp 36]) (.cons (zes (m:=999900) rfl (o_t 36 rfl)) .nil) rfl rfl) rfl rfl hL fun a s e_ hL=>?_;refine st 38 (zbn (x:=((t,1):SBranch)) (ps:=[(0,.tmp 37),(1,.const (.int .i64 1))]) tyzB rfl sttB (.cons (i:=0) (o_t 37 rfl) rfl (zq (zl _ _ _)) (.cons (i:=1) (o_i (k:=.i64) (by decide)) rfl (zj (zl _ _ _) rfl) .nil)) rfl rfl) rfl rfl hL fun a s e_ hL=>?_;refine st_mputC (L':=[(0,Pd.ptr Efinder (d,some g)),(5,Pd.rep En.str (keyS t)),(8,Pd.map En.str kvStr (EnB N) s0.w.heap.size (some g8) (zeu [] (keyS t) (t,1))),(999902,Pd.mapc En.str kvStr (Efmp N) g xs)]) hL (o_t 34 rfl) (o_t 35 rfl) (o_t 38 rfl) Tryd.underlying79 (zdy Tryd.underlying9) (.inl rfl) rfl rfl
   (.cons (t:=0) rfl (fun _ h_=>h_.elim) (.cons (t:=5) rfl (fun _ h_=>h_.elim) (.turn (t:=8) rfl (.cons (t:=999902) rfl (no_o hgs hng) .nil)))) fun s hL=>?_
  refine en' ?_;show K9 a s.w;refine hK9 _ _ ?_;refine wp_seq_k fun K10 hK10=>?_;refine rg ?_;obtain ⟨s2,hw2,hL⟩:=hL.freezem (L':=[(0,Pd.ptr Efinder (d,some g)),(5,Pd.rep En.str (keyS t)),(999902,Pd.mapc En.str kvStr (Efmp N) g xs)]) 8 rfl (.cons (t:=0) rfl (fun _ h_=>h_.elim) (.cons (t:=5) rfl (fun _ h_=>h_.elim) (.cons (t:=999902) rfl (no_o hgs hng) .nil)));rw [← hw2];clear hw2;generalize s2=s at *;refine st 39 (ze (o_t 0 rfl) rfl rfl) rfl rfl hL fun a s e_ hL=>?_;refine st 40 (t_nc (o_t 39 rfl) zer rfl rfl) rfl rfl hL fun a s e_ hL=>?_;refine st 41 (zgc (off:=1) (o_t 40 rfl) Tryd.underlying78 rfl (zi (zk _ _) rfl) rfl tyMap rfl rfl) rfl rfl hL fun a s e_ hL=>?_;refine st 42 (zbd tyMap (o_t 41 rfl) rfl rfl) rfl rfl hL fun a s e_ hL=>?_;refine st 43 (ze (o_t 5 rfl) rfl rfl) rfl rfl hL fun a s e_ hL=>?_;refine st 44 (ze (o_t 8 rfl) rfl rfl) rfl rfl hL fun a s e_ hL=>?_;refine st_mputc (m:=999902) (L':=[(8,Pd.rep (Efmp N) (zeu [] (keyS t) (t,1)))]) hL rfl (.inl rfl) (o_t 42 rfl) (o_t 43 rfl) (o_t 44 rfl) Tryd.underlying76 (zdy Tryd.underlying9) (.inl rfl) rfl rfl (.cons (t:=8) rfl (fun _ h_=>h_.elim) .nil) fun s hL=>?_;refine en' ?_;show K10 a s.w;refine hK10 _ _ ?_;refine wp_seq_k fun K11 hK11=>?_;refine rg ?_;refine st 45 (ze (o_t 8 rfl) rfl rfl) rfl rfl hL fun a s e_ hL=>?_;refine st 4 (zg (o_t 45 rfl) rfl rfl) rfl rfl hL fun a s e_ hL=>?_;refine en' ?_;show K11 a s.w;refine hK11 _ _ ?_;exact wp_ret (retc (zeu [] (keyS t) (t,1),zeu xs (keyS t) (zeu [] (keyS t) (t,1))) ⟨hgood,hxs.put hgood⟩ rfl hL rfl rfl)
 refine wp_skip ?_;show K7 a s.w;refine hK7 _ _ ?_;have hrd:rdy d t=false:=hb_;have hopn:=hv.opn hd hrd;obtain ⟨ls,hls,hlf⟩:∃ls,(opn d t).mapM (lv d h)=some ls∧ls.flatten=l:=by
  unfold lv at hl;rw [if_neg (by rw [hrd];simp)] at hl;exact Option.map_eq_some_iff.1 hl
 have hlen2:=opn_len (d:=d) t;have hlsl:ls.length=(opn d t).length:=zfp hls;refine wp_seq_k fun K12 hK12=>?_;refine wp_seq_k fun K13 hK13=>?_;refine rg ?_;refine st 46 (ze (o_t 0 rfl) rfl rfl) rfl rfl hL fun a s e_ hL=>?_;refine st 47 (t_nc (o_t 46 rfl) zer rfl rfl) rfl rfl hL fun a s e_ hL=>?_;refine st 48 (zgc (off:=0) (o_t 47 rfl) Tryd.underlying78 rfl (zu (zk _ _)) rfl zeb rfl rfl) rfl rfl hL fun a s e_ hL=>?_;refine st 49 (zbd zeb (o_t 48 rfl) rfl rfl) rfl rfl hL fun a s e_ hL=>?_;refine st 50 (ze (o_t 1 rfl) rfl rfl) rfl rfl hL fun a s e_ hL=>?_;refine st 51 (zx (zdm (zcx hd hv.form hrd (by omega) hd0)).frz (xs:=[.tmp 49,.tmp 50]) (.cons (o_t 49 rfl) (.cons (o_t 50 rfl) .nil)) rfl rfl) rfl rfl hL fun a s e_ hL=>?_;refine st 52 (zeh (o_t 51 rfl) Tryd.underlying52 rfl rfl) rfl rfl hL fun a s e_ hL=>?_;refine st 53 (ze (o_i (k:=.i64) (by decide)) rfl rfl) rfl rfl hL fun a s e_ hL=>?_;refine en' ?_;show K13 a s.w;refine hK13 _ _ ?_;refine wp_block ?_;have hg8s:=hng g8 rfl;have J:∀(a:Act) (s:St) (out:List (Str × SBranch)) (ys:List (Str × List (Str × SBranch))),Has (fun b=>some g=some b) 88 s0 a s [(0,Pd.ptr Efinder (d,some g)),(5,Pd.rep En.str (keyS t)),(8,Pd.map En.str kvStr (EnB N) s0.w.heap.size (some g8) out),(999902,Pd.mapc En.str kvStr (Efmp N) g ys)] →
   ze4 (fun u=>l.count u) out→InvS d ys→K12 a s.w:=by
  intro a s out ys hL hout hys;have hgood:GoodM d t out:=⟨h+1,l,hl,hout⟩;refine hK12 _ _ ?_;refine wp_seq_k fun K19 hK19=>?_;refine rg ?_;obtain ⟨s2,hw2,hL⟩:=hL.freezem (L':=[(0,Pd.ptr Efinder (d,some g)),(5,Pd.rep En.str (keyS t)),(999902,Pd.mapc En.str kvStr (Efmp N) g ys)]) 8 rfl (.cons (t:=0) rfl (fun _ h_=>h_.elim) (.cons (t:=5) rfl (fun _ h_=>h_.elim) (.cons (t:=999902) rfl (no_o hgs hng) .nil)));rw [← hw2];clear hw2;generalize s2=s at *;refine st 81 (ze (o_t 0 rfl) rfl rfl) rfl rfl hL fun a s e_ hL=>?_;refine st 82 (t_nc (o_t 81 rfl) zer rfl rfl) rfl rfl hL fun a s e_ hL=>?_;refine st 83 (zgc (off:=1) (o_t 82 rfl) Tryd.underlying78 rfl (zi (zk _ _) rfl) rfl tyMap rfl rfl) rfl rfl hL fun a s e_ hL=>?_;refine st 84 (zbd tyMap (o_t 83 rfl) rfl rfl) rfl rfl hL fun a s e_ hL=>?_;refine st 85 (ze (o_t 5 rfl) rfl rfl) rfl rfl hL fun a s e_ hL=>?_;refine st 86 (ze (o_t 8 rfl) rfl rfl) rfl rfl hL fun a s e_ hL=>?_;refine st_mputc (m:=999902) (L':=[(8,Pd.rep (Efmp N) out)]) hL rfl (.inl rfl) (o_t 84 rfl) (o_t 85 rfl) (o_t 86 rfl) Tryd.underlying76 (zdy Tryd.underlying9) (.inl rfl) rfl rfl (.cons (t:=8) rfl (fun _ h_=>h_.elim) .nil) fun s hL=>?_;refine en' ?_;show K19 a s.w;refine hK19 _ _ ?_;refine wp_seq_k fun K20 hK20=>?_;refine rg ?_;refine st 87 (ze (o_t 8 rfl) rfl rfl) rfl rfl hL fun a s e_ hL=>?_;refine st 4 (zg (o_t 87 rfl) rfl rfl) rfl rfl hL fun a s e_ hL=>?_;refine en' ?_;show K20 a s.w;refine hK20 _ _ ?_;exact wp_ret (retc (out,zeu ys (keyS t) out) ⟨hgood,hys.put hgood⟩ rfl hL rfl rfl)
 refine lpg (fun k a s=>∃(i:Nat) (out:List (Str × SBranch)) (ys:List (Str × List (Str × SBranch))),i+k=(opn d t).length+1∧Has (fun b=>some g=some b) 88 s0 a s [(0,Pd.ptr Efinder (d,some g)),(5,Pd.rep En.str (keyS t)),(8,Pd.map En.str kvStr (EnB N) s0.w.heap.size (some g8) out),(51,Pd.rep (En.slice (En.slice En.SItem)) (opn d t)),(52,Pd.rep (En.int .i64) ((opn d t).length:Int)),(53,Pd.rep (En.int .i64) (i:Int)),(999902,Pd.mapc En.str kvStr (Efmp N) g ys)] ∧
   ze4 (fun u=>(ls.take i).flatten.count u) out∧InvS d ys) ((opn d t).length+1) ⟨0,[],xs,by omega,hL.keep (.cons (t:=0) rfl (fun _ h_=>h_.elim) (.cons (t:=5) rfl (fun _ h_=>h_.elim) (.cons (t:=8) rfl (fun _ _ h_=>h_) (.cons (t:=51) rfl (fun _ h_=>h_.elim) (.cons (t:=52) rfl (fun _ h_=>h_.elim) (.cons (t:=53) rfl (fun _ h_=>h_.elim) (.cons (t:=999902) rfl (fun _ _ h_=>h_) .nil))))))),ze4.nil,hxs⟩ ?_
 rintro k a s ⟨i,out,ys,hik,hL,hout,hys⟩ KL hKL;refine wp_seq_k fun K14 hK14=>?_;refine rg ?_;refine st 54 (t_lss (o_t 53 rfl) (o_t 52 rfl) rfl rfl) rfl rfl hL fun a s e_ hL=>?_;refine en' ?_;show K14 a s.w;refine hK14 _ _ ?_;refine wp_seq_k fun K15 hK15=>?_;refine cnd hL rfl (fun hb2_=>?_) (fun hb2_=>?_)
 case refine_2=>
  refine wp_exit ?_;have hi:(opn d t).length≤i:=by have:=df hb2_;omega
  refine J a s out ys (hL.keep (.cons (t:=0) rfl (fun _ h_=>h_.elim) (.cons (t:=5) rfl (fun _ h_=>h_.elim) (.cons (t:=8) rfl (fun _ _ h_=>h_) (.cons (t:=999902) rfl (fun _ _ h_=>h_) .nil))))) ?_ hys;rw [List.take_of_length_le (by omega),hlf] at hout;exact hout
 refine wp_skip ?_;show K15 a s.w;refine hK15 _ _ ?_;have hi:i<(opn d t).length:=by have:=dt hb2_;omega
 have hti:at? (opn d t) (i:Int)=some (opn d t)[i]:=by rw [zbz];simp [hi]
 have hmem:(opn d t)[i]∈opn d t:=List.getElem_mem hi;obtain ⟨li,hli,hlsi⟩:=zhd hls hi;refine wp_seq_k fun K18 hK18=>?_;refine wp_block ?_;refine wp_seq_k fun K21 hK21=>?_;refine rg ?_;refine st 55 (zdj (o_t 51 rfl) (o_t 53 rfl) hti Tryd.underlying52 ty43 rfl rfl) rfl rfl hL fun a s e_ hL=>?_;refine st 56 (zbd ty43 (o_t 55 rfl) rfl rfl) rfl rfl hL fun a s e_ hL=>?_;refine st 10 (zg (o_t 56 rfl) rfl rfl) rfl rfl hL fun a s e_ hL=>?_;refine en' ?_;show K21 a s.w;refine hK21 _ _ ?_;refine wp_seq_k fun K22 hK22=>?_;refine rg ?_;refine st 57 (ze (o_t 0 rfl) rfl rfl) rfl rfl hL fun a s e_ hL=>?_;refine st 58 (ze (o_t 10 rfl) rfl rfl) rfl rfl hL fun a s e_ hL=>?_;refine st_callc (L':=[(0,Pd.ptr Efinder (d,some g)),(5,Pd.rep En.str (keyS t)),(8,Pd.map En.str kvStr (EnB N) s0.w.heap.size (some g8) out),(51,Pd.rep (En.slice (En.slice En.SItem)) (opn d t)),(52,Pd.rep (En.int .i64) ((opn d t).length:Int)),(53,Pd.rep (En.int .i64) (i:Int))]) 59 999902 hL (ih _ li hli (hopn _ hmem) ys hys) rfl (.inl rfl) (zs:=[.tmp 57,.tmp 58]) (.cons (o_t 57 rfl) (.cons (o_t 58 rfl) .nil)) rfl rfl rfl rfl
  (.cons (t:=0) rfl (fun _ h_=>h_.elim) (.cons (t:=5) rfl (fun _ h_=>h_.elim) (.cons (t:=8) rfl (no_g hgs hng) (.cons (t:=51) rfl (fun _ h_=>h_.elim) (.cons (t:=52) rfl (fun _ h_=>h_.elim) (.cons (t:=53) rfl (fun _ h_=>h_.elim) .nil)))))) fun a s im him hL=>?_
 obtain ⟨m,ys2⟩:=im;obtain ⟨⟨hh,l2,hl2,hm⟩,hys2⟩:=him;simp only at hl2 hm hys2;have hl2e:l2=li:=by
  have h1:=zdx (Nat.le_max_left hh h) hl2;have h2:=zdx (Nat.le_max_right hh h) hli;rw [h1] at h2;exact Option.some.inj h2
 subst hl2e;have hg8lt:=(zf0 (hL.get 8 rfl) g8 rfl).2;refine st_range 60 hL (o_t 59 rfl) Tryd.underlying79 rfl rfl rfl rfl fun a s r hr hL=>?_;have hr8:g8<r:=Nat.lt_of_lt_of_le hg8lt hr;refine en' ?_;show K22 a s.w;refine hK22 _ _ ?_;refine wp_block ?_
 let f:=fun u=>(ls.take i).flatten.count u
 let c:=fun u=>l2.count u
 have J2:∀(a:Act) (s:St) (out:List (Str × SBranch)),Has (fun b=>some g=some b) 88 s0 a s [(0,Pd.ptr Efinder (d,some g)),(5,Pd.rep En.str (keyS t)),(8,Pd.map En.str kvStr (EnB N) s0.w.heap.size (some g8) out),(51,Pd.rep (En.slice (En.slice En.SItem)) (opn d t)),(52,Pd.rep (En.int .i64) ((opn d t).length:Int)),(53,Pd.rep (En.int .i64) (i:Int)),(999902,Pd.mapc En.str kvStr (Efmp N) g ys2)] →
   ze4 (fun u=>f u+c u) out→K18 a s.w:=by
  intro a s out hL hout;refine hK18 _ _ ?_;refine rg ?_;refine st 80 (t_add (o_t 53 rfl) (o_i (k:=.i64) (by decide)) (zw (by omega) (by omega)) rfl rfl) rfl rfl hL fun a s e_ hL=>?_;refine st 53 (ze (o_t 80 rfl) rfl rfl) rfl rfl hL fun a s e_ hL=>?_;refine en' ?_;refine hKL (k-1) a s (by omega) ⟨i+1,out,ys2,by omega,hL.keep (.cons (t:=0) rfl (fun _ h_=>h_.elim) (.cons (t:=5) rfl (fun _ h_=>h_.elim) (.cons (t:=8) rfl (fun _ _ h_=>h_) (.cons (t:=51) rfl (fun _ h_=>h_.elim) (.cons (t:=52) rfl (fun _ h_=>h_.elim) (.cons (t:=53) rfl (fun _ h_=>h_.elim) (.cons (t:=999902) rfl (fun _ _ h_=>h_) .nil))))))), ?_,hys2⟩;refine hout.congr fun u=>?_;rw [take_flat hlsi,List.count_append]
 refine lpg (fun k a s=>∃(rem:List (Str × SBranch)) (cur:Option (Str × SBranch)) (out:List (Str × SBranch)),rem.length+1=k∧Has (fun b=>some g=some b) 88 s0 a s [(0,Pd.ptr Efinder (d,some g)),(5,Pd.rep En.str (keyS t)),(8,Pd.map En.str kvStr (EnB N) s0.w.heap.size (some g8) out),(51,Pd.rep (En.slice (En.slice En.SItem)) (opn d t)),(52,Pd.rep (En.int .i64) ((opn d t).length:Int)),(53,Pd.rep (En.int .i64) (i:Int)),(60,Pd.iter En.str kvStr (EnB N) s0.w.heap.size r rem cur),(999902,Pd.mapc En.str kvStr (Efmp N) g ys2)] ∧
   Left c rem∧ze4 (cnt f c rem) out) (m.length+1) ⟨m,none,out,rfl,hL.keep (.cons (t:=0) rfl (fun _ h_=>h_.elim) (.cons (t:=5) rfl (fun _ h_=>h_.elim) (.cons (t:=8) rfl (fun _ _ h_=>h_) (.cons (t:=51) rfl (fun _ h_=>h_.elim) (.cons (t:=52) rfl (fun _ h_=>h_.elim) (.cons (t:=53) rfl (fun _ h_=>h_.elim) (.cons (t:=60) rfl (fun _ _ h_=>h_) (.cons (t:=999902) rfl (fun _ _ h_=>h_) .nil)))))))),hm.left,hout.congr fun u=>by rw [cnt_start hm (.refl _)]⟩ ?_
 rintro k2 a s ⟨rem,cur,out,hrk,hL,hleft,hout⟩ KM hKM;refine wp_seq_k fun K23 hK23=>?_;refine rg ?_;have hrs0:s0.w.heap.size≤r:=(hL.get 60 rfl).2.1;refine st_next (L':=[(0,Pd.ptr Efinder (d,some g)),(5,Pd.rep En.str (keyS t)),(8,Pd.map En.str kvStr (EnB N) s0.w.heap.size (some g8) out),(51,Pd.rep (En.slice (En.slice En.SItem)) (opn d t)),(52,Pd.rep (En.int .i64) ((opn d t).length:Int)),(53,Pd.rep (En.int .i64) (i:Int)),(999902,Pd.mapc En.str kvStr (Efmp N) g ys2)]) 61 hL (x:=60) rfl rfl rfl rfl rfl (by decide)
  (.cons (t:=0) rfl (fun _ h_=>h_.elim) (.cons (t:=5) rfl (fun _ h_=>h_.elim) (.cons (t:=8) rfl (fun b hb e=>by cases hb;cases e;omega) (.cons (t:=51) rfl (fun _ h_=>h_.elim) (.cons (t:=52) rfl (fun _ h_=>h_.elim) (.cons (t:=53) rfl (fun _ h_=>h_.elim) (.cons (t:=999902) rfl (fun b hb e=>by cases hb;cases e;omega) .nil))))))) (fun a hrem hL=>?_) (fun a s p rem' hp hL=>?_)
 ·subst hrem;refine st 62 (t_nx (o_t 61 rfl) rfl rfl) rfl rfl hL fun a s e_ hL=>?_;refine en' ?_;show K23 a s.w;refine hK23 _ _ ?_;refine wp_seq_k fun K24 hK24=>?_;refine cnd hL rfl (fun hb3_=>by cases hb3_) (fun _=>?_);refine wp_exit ?_;refine J2 a s out (hL.keep (.cons (t:=0) rfl (fun _ h_=>h_.elim) (.cons (t:=5) rfl (fun _ h_=>h_.elim) (.cons (t:=8) rfl (fun _ _ h_=>h_) (.cons (t:=51) rfl (fun _ h_=>h_.elim) (.cons (t:=52) rfl (fun _ h_=>h_.elim) (.cons (t:=53) rfl (fun _ h_=>h_.elim) (.cons (t:=999902) rfl (fun _ _ h_=>h_) .nil)))))))) (hout.congr fun u=>by rw [cnt_nil])
 have hleft2:=hleft.perm hp;have hout2:ze4 (cnt f c (p::rem')) out:=hout.congr fun u=>by rw [cnt_perm hp]
 obtain ⟨e1,e2,e3⟩:=hleft2.ent p (by simp);have hp2:1≤p.2.2∧p.2.2≤2:=by rw [e3];unfold sat;omega
 have hmg:0≤(zfz out p.1 (([],0):SBranch)).2∧(zfz out p.1 (([],0):SBranch)).2≤2:=by rw [e1,hout2.get];unfold sat;omega
 refine st 62 (t_nx (o_t 61 rfl) rfl rfl) rfl rfl hL fun a s e_ hL=>?_;refine en' ?_;show K23 a s.w;refine hK23 _ _ ?_;refine wp_seq_k fun K24 hK24=>?_;refine cnd hL rfl (fun _=>?_) (fun hb3_=>by cases hb3_);refine wp_skip ?_;show K24 a s.w;refine hK24 _ _ ?_;refine wp_block ?_;refine wp_seq_k fun K25 hK25=>?_;refine rg ?_;refine st 63 (t_entry (o_t 60 rfl) (zdy Tryd.underlying9) rfl rfl) rfl rfl hL fun a s e_ hL=>?_;refine st 64 (t_ext0 (o_t 63 rfl) rfl rfl) rfl rfl hL fun a s e_ hL=>?_;refine st 65 (t_ext1 (o_t 63 rfl) rfl rfl) rfl rfl hL fun a s e_ hL=>?_;have l8:=(zf0 (hL.get 8 rfl) g8 rfl).2;have lr:=hL.ilt 60 rfl r rfl;have lg:g<s.w.heap.size:=Nat.lt_of_lt_of_le hgs hL.ent.mv.size;refine zbj (EnB N) (z:=(([],0):SBranch)) 12 hL tyzB rfl rfl rfl rfl fun a s g12 hg12 hL=>?_;refine st 11 (zg (o_t 64 rfl) rfl rfl) rfl rfl hL fun a s e_ hL=>?_;refine zed (L':=[(0,Pd.ptr Efinder (d,some g)),(5,Pd.rep En.str (keyS t)),(8,Pd.map En.str kvStr (EnB N) s0.w.heap.size (some g8) out),(11,Pd.rep En.str p.1),(51,Pd.rep (En.slice (En.slice En.SItem)) (opn d t)),(52,Pd.rep (En.int .i64) ((opn d t).length:Int)),(53,Pd.rep (En.int .i64) (i:Int)),(60,Pd.iter En.str kvStr (EnB N) s0.w.heap.size r rem' (some p)),(999902,Pd.mapc En.str kvStr (Efmp N) g ys2)]) 12 hL rfl (o_t 65 rfl) tyB rfl rfl rfl
  (.cons (t:=0) rfl (fun _ h_=>h_.elim) (.cons (t:=5) rfl (fun _ h_=>h_.elim) (.cons (t:=8) rfl (fun b hb e=>by cases hb;cases e;omega) (.cons (t:=11) rfl (fun _ h_=>h_.elim) (.cons (t:=51) rfl (fun _ h_=>h_.elim) (.cons (t:=52) rfl (fun _ h_=>h_.elim) (.cons (t:=53) rfl (fun _ h_=>h_.elim) (.cons (t:=60) rfl (fun b hb e=>by cases hb;cases e;omega) (.cons (t:=999902) rfl (fun b hb e=>by cases hb;cases e;omega) .nil))))))))) fun s hL=>?_
 refine en' ?_;show K25 a s.w;refine hK25 _ _ ?_;refine wp_seq_k fun K26 hK26=>?_;refine rg ?_;refine st 66 (ze (o_t 8 rfl) rfl rfl) rfl rfl hL fun a s e_ hL=>?_;refine st 67 (ze (o_t 11 rfl) rfl rfl) rfl rfl hL fun a s e_ hL=>?_;refine st 68 (t_mget (z:=(([],0):SBranch)) (o_t 66 rfl) (o_t 67 rfl) Tryd.underlying79 (zdy Tryd.underlying9) tyvBranch rfl rfl) rfl rfl hL fun a s e_ hL=>?_;have l8:=(zf0 (hL.get 8 rfl) g8 rfl).2;have lr:=hL.ilt 60 rfl r rfl;have lg:g<s.w.heap.size:=Nat.lt_of_lt_of_le hgs hL.ent.mv.size;have l12:=hL.blt 12 rfl g12 rfl;refine zbj (EnB N) (z:=(([],0):SBranch)) 13 hL tyzB rfl rfl rfl rfl fun a s g13 hg13 hL=>?_;refine zed (L':=[(0,Pd.ptr Efinder (d,some g)),(5,Pd.rep En.str (keyS t)),(8,Pd.map En.str kvStr (EnB N) s0.w.heap.size (some g8) out),(11,Pd.rep En.str p.1),(12,Pd.box (EnB N) s0.w.heap.size g12 p.2),(51,Pd.rep (En.slice (En.slice En.SItem)) (opn d t)),(52,Pd.rep (En.int .i64) ((opn d t).length:Int)),(53,Pd.rep (En.int .i64) (i:Int)),(60,Pd.iter En.str kvStr (EnB N) s0.w.heap.size r rem' (some p)),(999902,Pd.mapc En.str kvStr (Efmp N) g ys2)]) 13 hL rfl (o_t 68 rfl) tyB rfl rfl rfl
  (.cons (t:=0) rfl (fun _ h_=>h_.elim) (.cons (t:=5) rfl (fun _ h_=>h_.elim) (.cons (t:=8) rfl (fun b hb e=>by cases hb;cases e;omega) (.cons (t:=11) rfl (fun _ h_=>h_.elim) (.cons (t:=12) rfl (fun b hb e=>by cases hb;cases e;omega) (.cons (t:=51) rfl (fun _ h_=>h_.elim) (.cons (t:=52) rfl (fun _ h_=>h_.elim) (.cons (t:=53) rfl (fun _ h_=>h_.elim) (.cons (t:=60) rfl (fun b hb e=>by cases hb;cases e;omega) (.cons (t:=999902) rfl (fun b hb e=>by cases hb;cases e;omega) .nil)))))))))) fun s hL=>?_
 refine en' ?_;show K26 a s.w;refine hK26 _ _ ?_;refine rg ?_;refine st 69 (ze (o_t 8 rfl) rfl rfl) rfl rfl hL fun a s e_ hL=>?_;refine st 70 (ze (o_t 11 rfl) rfl rfl) rfl rfl hL fun a s e_ hL=>?_;refine st 71 (zca (off:=0) (o_t 12 rfl) Tryd.underlying51 rfl (zu (zk _ _)) rfl tySN rfl rfl) rfl rfl hL fun a s e_ hL=>?_;refine st 72 (z1 tySN (o_t 71 rfl) rfl rfl) rfl rfl hL fun a s e_ hL=>?_;refine st 73 (zca (off:=1) (o_t 13 rfl) Tryd.underlying51 rfl (zi (zk _ _) rfl) rfl ty3 rfl rfl) rfl rfl hL fun a s e_ hL=>?_;refine st 74 (z1 ty3 (o_t 73 rfl) rfl rfl) rfl rfl hL fun a s e_ hL=>?_;refine st 75 (zca (off:=1) (o_t 12 rfl) Tryd.underlying51 rfl (zi (zk _ _) rfl) rfl ty3 rfl rfl) rfl rfl hL fun a s e_ hL=>?_;refine st 76 (z1 ty3 (o_t 75 rfl) rfl rfl) rfl rfl hL fun a s e_ hL=>?_;refine st 77 (t_add (o_t 74 rfl) (o_t 76 rfl) (zw (by omega) (by omega)) rfl rfl) rfl rfl hL fun a s e_ hL=>?_;refine st 78 (t_min (o_t 77 rfl) (o_i (k:=.i64) (by decide)) rfl rfl) rfl rfl hL fun a s e_ hL=>?_;refine st 79 (zbn (x:=((p.2.1,min ((zfz out p.1 (([],0):SBranch)).2+p.2.2) 2):SBranch)) (ps:=[(0,.tmp 72),(1,.tmp 78)]) tyzB rfl sttB (.cons (i:=0) (o_t 72 rfl) rfl (zq (zl _ _ _)) (.cons (i:=1) (o_t 78 rfl) rfl (zj (zl _ _ _) rfl) .nil)) rfl rfl) rfl rfl hL fun a s e_ hL=>?_;refine st_mputC (L':=[(0,Pd.ptr Efinder (d,some g)),(5,Pd.rep En.str (keyS t)),(8,Pd.map En.str kvStr (EnB N) s0.w.heap.size (some g8) (zeu out p.1 (p.2.1,min ((zfz out p.1 (([],0):SBranch)).2+p.2.2) 2))),(51,Pd.rep (En.slice (En.slice En.SItem)) (opn d t)),(52,Pd.rep (En.int .i64) ((opn d t).length:Int)),(53,Pd.rep (En.int .i64) (i:Int)),(60,Pd.iter En.str kvStr (EnB N) s0.w.heap.size r rem' (some p)),(999902,Pd.mapc En.str kvStr (Efmp N) g ys2)]) hL (o_t 69 rfl) (o_t 70 rfl) (o_t 79 rfl) Tryd.underlying79 (zdy Tryd.underlying9) (.inl rfl) rfl rfl
  (.cons (t:=0) rfl (fun _ h_=>h_.elim) (.cons (t:=5) rfl (fun _ h_=>h_.elim) (.turn (t:=8) rfl (.cons (t:=51) rfl (fun _ h_=>h_.elim) (.cons (t:=52) rfl (fun _ h_=>h_.elim) (.cons (t:=53) rfl (fun _ h_=>h_.elim) (.cons (t:=60) rfl (fun b hb e=>by cases hb;cases e;omega) (.cons (t:=999902) rfl (fun b hb e=>by cases hb;cases e;omega) .nil)))))))) fun s hL=>?_
 refine en' ?_;have hpl:=hp.length_eq;simp only [List.length_cons] at hpl;exact hKM (k2-1) a s (by omega) ⟨rem',some p,_,by omega,hL,hleft2.tail.1,cnt_step hleft2 hout2⟩
theorem find_ok {d:List SNode} (hd:ROk d) (hk:DOk d) (hl4:d.length≤400) {N:Nat} (g:Nat) (hN:N≤g) (hd0:∃n,at? d 0=some n):∀(h:Nat) (t:List SItem) (l:List (List SItem)),lv d h t=some l→Vs d 400 t→∀xs,InvS d xs→FndOk N d g t xs
 | 0,t,l,hl,_,_,_=>by simp [lv] at hl
 | h+1,t,l,hl,hv,xs,hxs=>find_step hd hk hl4 g hN (find_ok hd hk hl4 g hN hd0 h) hd0 hl hv hxs
theorem lv_vs {d:List SNode} (hd:ROk d) {n0:Nat}:∀(h:Nat) (t:List SItem) (l:List (List SItem)),lv d h t=some l→Vs d n0 t→∀u∈l,Vs d n0 u∧rdy d u=true
 | 0,t,l,hl,_=>by simp [lv] at hl
 | h+1,t,l,hl,hv=>by
  intro u hu;unfold lv at hl
  by_cases hr:rdy d t=true
  ·rw [if_pos hr] at hl;cases hl;rw [List.mem_singleton.1 hu];exact ⟨hv,hr⟩
  ·rw [if_neg hr] at hl;obtain ⟨ls,h1,h2⟩:=Option.map_eq_some_iff.1 hl;subst h2;obtain ⟨l',hl',hu'⟩:=List.mem_flatten.1 hu;obtain ⟨i,hi⟩:=List.getElem?_of_mem hl';have hil:i<(opn d t).length:=by rw [← zfp h1];exact (List.getElem?_eq_some_iff.1 hi).1
   obtain ⟨b,hb1,hb2⟩:=zhd h1 hil;rw [hi] at hb2;cases hb2;exact lv_vs hd h _ _ hb1 (hv.opn hd (by simpa using hr) _ (List.getElem_mem hil)) u hu'
theorem fm_branchN {N:Nat} {x r:List SBranch} (h:zc5 x r) (v0:Value):Fm Tryd.prog 32 (fun b=>v0.ownBlock=some b) [Pd.prow (EnB N) 51 v0 x,Pd.is (.func (.func 33) #[] #[])] (fun _ s' _=>(Pd.prow (EnB N) 51 v0 r).p s' v0):=by
 have h2:=fm_sort slsort (E:=EnB N) (E':=En.SBranch) (te:=51) (g:=33) (cf:=fun a b:SBranch=>zcv a.1 b.1) rfl tyB rfl rfl (fun h=>(le_B N).R h) (zhk Tryd.func32 rfl (by rfl)) (zhk Tryd.func33 rfl (by rfl)) swo_branch h.2.2.1 (fun a ha b hb=>@zfl true dLe _ _ _ ⟨_,zf5 (h.2.1 a ha),rfl⟩) v0;refine ⟨h2.call,fun s vs hg hM hv=>(h2.run s vs hg hM hv).mono fun e w' ⟨v,s',he,hw,hfr,ys,hp,hs,hrow⟩=>⟨v,s',he,hw,hfr, ?_⟩⟩;rw [h.2.2.2,← srtB_uniq h.1 hp hs];exact hrow
theorem zdz {N:Nat} {d_:SDesc} {s_:List SItem} {r_:List SBranch} (hh:zb2 d_ s_ r_):Fn Tryd.prog 14 [Pd.geq N (Pd.rep En.SDesc d_),Pd.rep (En.slice En.SItem) s_] (Ro (EnB N) 51 r_):=by
 obtain ⟨hd,hk,hl4,hne,hf,hs4,hr31,h,l,hl,hcan⟩:=hh;have hv:Vs d_ 400 s_:=Vs.start hf hs4;refine zby Tryd.func14 rfl Tryd.ntmps14 (by rfl) (by simp) fun s0 a hL=>?_;obtain ⟨hN0,hL⟩:=hL.geq0;refine wp_seq_k fun K0 hK0=>?_;refine rg ?_;refine st 2 (t_box (o_t 0 rfl) rfl rfl) rfl rfl hL fun a s e_ hL=>?_;refine st 4 (zg (q:=Pd.any) (fun _ _ _ _ _ _=>trivial) rfl rfl) rfl rfl hL fun a s e_ hL=>?_;refine en' ?_;show K0 a s.w;refine hK0 _ _ ?_;refine wp_seq_k fun K1 hK1=>?_;refine rg ?_;refine st 9 (zbd zeb (o_t 2 rfl) rfl rfl) rfl rfl hL fun a s e_ hL=>?_;refine st_mkmap 10 En.str kvStr (Efmp N) hL rfl rfl rfl rfl fun a s g hg hL=>?_;have hgN:s0.w.heap.size≤g:=(zf0 (hL.get 10 rfl) g rfl).1;have hL:=hL.mapc 10 999902 rfl;refine st 11 (zbn (x:=((d_,some g):SDesc × Option Nat)) (ps:=[(0,.tmp 9),(1,.tmp 10)]) tyzFinder rfl sttFinder (.cons (i:=0) (o_t 9 rfl) rfl (zq (zl _ _ _)) (.cons (i:=1) (o_t 10 rfl) rfl (zj (zl _ _ _) rfl) .nil)) rfl rfl) rfl rfl hL fun a s e_ hL=>?_;refine st 12 (t_box (o_t 11 rfl) rfl rfl) rfl rfl hL fun a s e_ hL=>?_;refine st 5 (zg (o_t 12 rfl) rfl rfl) rfl rfl hL fun a s e_ hL=>?_;refine en' ?_;show K1 a s.w;refine hK1 _ _ ?_;refine wp_seq_k fun K2 hK2=>?_;refine rg ?_;refine st 6 (zg (o_nil (E:=(EnB N)) (N:=s0.w.heap.size) (te:=51)) rfl rfl) rfl rfl hL fun a s e_ hL=>?_;refine en' ?_;show K2 a s.w;refine hK2 _ _ ?_;refine wp_seq_k fun K3 hK3=>?_;refine wp_seq_k fun K4 hK4=>?_;refine rg ?_;refine st 13 (ze (o_t 5 rfl) rfl rfl) rfl rfl hL fun a s e_ hL=>?_;refine st 14 (ze (o_t 1 rfl) rfl rfl) rfl rfl hL fun a s e_ hL=>?_
 have hd0:∃n,at? d_ 0=some n:=by
  cases d_ with
  | nil=>exact absurd rfl hne
  | cons n d=>exact ⟨n,rfl⟩
 refine st_callc (L':=[(6,Pd.row (EnB N) s0.w.heap.size 51 none [])]) 15 999902 hL (find_ok hd hk hl4 g (Nat.le_trans hN0 hgN) hd0 h s_ l hl hv [] (InvS.nil _)) rfl (.inr hgN) (zs:=[.tmp 13,.tmp 14]) (.cons (o_t 13 rfl) (.cons (o_t 14 rfl) .nil)) rfl rfl rfl rfl
  (.cons (t:=6) rfl no_own .nil) fun a s im him hL=>?_
 obtain ⟨m,ys2⟩:=im;obtain ⟨⟨h2,l2,hl2,hm⟩,hys2⟩:=him;simp only at hl2 hm hys2;have hl2e:l2=l:=by
  have h3:=zdx (Nat.le_max_left h2 h) hl2;have h4:=zdx (Nat.le_max_right h2 h) hl;rw [h3] at h4;exact Option.some.inj h4
 subst hl2e;refine st_range 16 hL (o_t 15 rfl) Tryd.underlying79 rfl rfl rfl rfl fun a s r hr hL=>?_;refine en' ?_;show K4 a s.w;refine hK4 _ _ ?_;refine wp_block ?_;have J:∀(a:Act) (s:St) (og:Option Nat) (out:List SBranch),Has N0 28 s0 a s [(6,Pd.row (EnB N) s0.w.heap.size 51 og out)]→out.Perm (m.map (·.2))→K3 a s.w:=by
  intro a s og out hL hp;obtain ⟨hnd,hc2⟩:=hm.can hp;have hrr:r_=srtB out:=hcan.uniq hc2;have hlen:out.length≤2147483648:=by
   have:=(zdf out).length_eq;rw [hrr] at hr31;omega
  have hsrt:zc5 out r_:=by
   refine ⟨hnd,fun b hb=>?_,hlen,hrr⟩;obtain ⟨p,hp1,hp2⟩:=List.mem_map.1 (hp.mem_iff.1 hb);obtain ⟨k,b'⟩:=p;simp only at hp2;subst hp2;have hc:=((hm.mem k _).1 hp1).2.1;have hmem:b'.1∈l2:=by
    rcases Nat.eq_zero_or_pos (l2.count b'.1) with h0 | h0
    ·exact absurd h0 hc
    ·exact List.count_pos_iff.1 h0
   have:=(lv_vs hd h s_ l2 hl hv _ hmem).1.len;omega
  refine hK3 _ _ ?_;refine wp_seq_k fun K7 hK7=>?_;refine rg ?_;refine st 25 (ze (o_t 6 rfl) rfl rfl) rfl rfl hL fun a s e_ hL=>?_;refine st_callr (L':=[(6,Pd.row (EnB N) s0.w.heap.size 51 og r_)]) 26 (fun v0=>fm_branchN hsrt v0) hL (o_t 25 rfl) (zs:=[.func 33]) (.cons o_isf .nil) rfl rfl rfl rfl (.turn (t:=6) rfl .nil) fun a s hL=>?_;refine en' ?_;show K7 a s.w;refine hK7 _ _ ?_;refine wp_seq_k fun K8 hK8=>?_;refine rg ?_;refine st 27 (ze (o_t 6 rfl) rfl rfl) rfl rfl hL fun a s e_ hL=>?_;refine st 4 (zg (o_t 27 rfl) rfl rfl) rfl rfl hL fun a s e_ hL=>?_;refine en' ?_;show K8 a s.w;refine hK8 _ _ ?_;exact wp_ret (ze6 rfl hL rfl)
 have hmlen:m.length≤2147483648:=by
  have hp:=(hm.can (List.Perm.refl (m.map (·.2)))).2;have e:=hcan.uniq hp;have:=(zdf (m.map (·.2))).length_eq;rw [e] at hr31;rw [List.length_map] at this;omega
 refine lpg (fun k a s=>∃(rem:List (Str × SBranch)) (cur:Option (Str × SBranch)) (og:Option Nat) (out:List SBranch),rem.length+1=k∧Has N0 28 s0 a s [(6,Pd.row (EnB N) s0.w.heap.size 51 og out),(16,Pd.iter En.str kvStr (EnB N) s0.w.heap.size r rem cur)]∧(∀b,og=some b→¬ some r=some b)∧(out++rem.map (·.2)).Perm (m.map (·.2)))
  (m.length+1) ⟨m,none,none,[],rfl,hL.keep (.cons (t:=6) rfl (fun _ _ h_=>h_) (.cons (t:=16) rfl (fun _ _ h_=>h_) .nil)),(fun b hb=>by cases hb),by simp⟩ ?_
 rintro k a s ⟨rem,cur,og,out,hrk,hL,hdis,hperm⟩ KL hKL;refine wp_seq_k fun K5 hK5=>?_;refine rg ?_;refine st_next (L':=[(6,Pd.row (EnB N) s0.w.heap.size 51 og out)]) 17 hL (x:=16) rfl rfl rfl rfl rfl (by decide) (.cons (t:=6) rfl hdis .nil) (fun a hrem hL=>?_) (fun a s p rem' hp hL=>?_)
 ·subst hrem;refine st 18 (t_nx (o_t 17 rfl) rfl rfl) rfl rfl hL fun a s e_ hL=>?_;refine en' ?_;show K5 a s.w;refine hK5 _ _ ?_;refine wp_seq_k fun K6 hK6=>?_;refine cnd hL rfl (fun hb3_=>by cases hb3_) (fun _=>?_);refine wp_exit ?_;exact J a s og out (hL.keep (.cons (t:=6) rfl (fun _ _ h_=>h_) .nil)) (by simpa using hperm)
 refine st 18 (t_nx (o_t 17 rfl) rfl rfl) rfl rfl hL fun a s e_ hL=>?_;refine en' ?_;show K5 a s.w;refine hK5 _ _ ?_;refine wp_seq_k fun K6 hK6=>?_;refine cnd hL rfl (fun _=>?_) (fun hb3_=>by cases hb3_);refine wp_skip ?_;show K6 a s.w;refine hK6 _ _ ?_;refine wp_block ?_;refine wp_seq_k fun K9 hK9=>?_;refine rg ?_;refine st 19 (t_entry (o_t 16 rfl) (zdy Tryd.underlying9) rfl rfl) rfl rfl hL fun a s e_ hL=>?_;refine st 20 (t_ext1 (o_t 19 rfl) rfl rfl) rfl rfl hL fun a s e_ hL=>?_;have l6:=hL.rlt 6 rfl;have lr:=hL.ilt 16 rfl r rfl;refine zbj (EnB N) (z:=(([],0):SBranch)) 8 hL tyzB rfl rfl rfl rfl fun a s g8 hg8 hL=>?_;have d6:∀b,og=some b→¬ some g8=some b:=fun b hb e=>by cases e;have:=l6 g8 hb;omega
 refine zed (L':=[(6,Pd.row (EnB N) s0.w.heap.size 51 og out),(16,Pd.iter En.str kvStr (EnB N) s0.w.heap.size r rem' (some p))]) 8 hL rfl (o_t 20 rfl) tyB rfl rfl rfl (.cons (t:=6) rfl d6 (.cons (t:=16) rfl (fun b hb e=>by cases hb;cases e;omega) .nil)) fun s hL=>?_;refine en' ?_;show K9 a s.w;refine hK9 _ _ ?_;refine rg ?_;have hpl:=hp.length_eq;simp only [List.length_cons] at hpl;have hol:out.length+(rem.length:Nat)=m.length:=by
  have:=hperm.length_eq;simpa using this
 refine st 21 (ze (o_t 6 rfl) rfl rfl) rfl rfl hL fun a s e_ hL=>?_;refine st 22 (zb0 tyB (o_t 8 rfl) rfl rfl) rfl rfl hL fun a s e_ hL=>?_;refine st 23 (zdu (xs:=[.tmp 22]) (.cons (o_t 22 rfl) .nil) Tryd.underlying48 tyB rfl rfl (show 1*2≤16777216 by decide) rfl rfl) rfl rfl hL fun a s e_ hL=>?_;have lr:=hL.ilt 16 rfl r rfl;refine zcy (L':=[(16,Pd.iter En.str kvStr (EnB N) s0.w.heap.size r rem' (some p))]) 24 hL (o_t 21 rfl) (o_t 23 rfl) Tryd.underlying48 tyB (by simp;omega) rfl rfl rfl rfl (.cons (t:=16) rfl (fun b hb e=>hdis b e hb) .nil) fun a s og' hg' hL=>?_;refine st 6 (zg (o_t 24 rfl) rfl rfl) rfl rfl hL fun a s e_ hL=>?_;refine en' ?_;refine hKL (k-1) a s (by omega) ⟨rem',some p,og',out++[p.2],by omega,hL.keep (.cons (t:=6) rfl (fun _ _ h_=>h_) (.cons (t:=16) rfl (fun _ _ h_=>h_) .nil)),fun b hb e=>?_, ?_⟩
 ·rcases hg' b hb with h3 | h3
  ·exact hdis b h3 e
  ·cases e;omega
 ·refine List.Perm.trans ?_ hperm;have h5:=hp.map (·.2);rw [List.map_cons] at h5;rw [List.append_assoc,List.singleton_append];exact (h5.symm.append_left out)
theorem zef {d_:SDesc} {s_:List SItem} {r_:List SBranch} (hh:zb2 d_ s_ r_):Fn Tryd.prog 14 [Pd.rep En.SDesc d_,Pd.rep (En.slice En.SItem) s_] (Ro En.SBranch 51 r_):=
 (zdz (N:=0) hh).un.imp fun s s' v ⟨og,h⟩=>⟨og,(le_B 0).row h⟩
set_option maxRecDepth 100000
set_option maxHeartbeats 2000000
set_option synthInstance.maxSize 100000
set_option synthInstance.maxHeartbeats 200000
theorem zee  {r_:Bool} (h:zdl  r_):Fn Tryd.prog 10 [] (Rq (Pd.rep En.bool r_)):=by
 unfold zdl at h;refine zby Tryd.func10 J Tryd.ntmps10 (by rfl) (by simp) fun s0 a L=>?_;refine wp_seq_k fun K1 H1=>rg (sw 0 (zg o_b J J) L fun a s L=>?_);refine en' (H1 _ _ ?_);refine wp_seq_k fun K2 H2=>rg (sw 9 (zbn (x:=(2,0,0,0,0,(0#256),([]:Str))) (ps:=[(0,.const (.int .i64 2))]) zfj J stt69 (.cons (i:=0) oI J (zq (zl _ _ _)) .nil) J J) L fun a s L=>?_);refine sw 10 (zdu (xs:=[.tmp 9]) (.cons (O 9 J) .nil) Tryd.underlying39 ty69 J J (by decide) J J) L fun a s L=>?_;refine sw 11 (zbn (x:=[(2,0,0,0,0,(0#256),([]:Str))]) (ps:=[(0,.tmp 10)]) zga J stt41 (.cons (i:=0) (O 10 J) J (zfo (zl _ _ _)) .nil) J J) L fun a s L=>?_;refine zbj En.SDesc (z:=[]) 1 L zga J J J J fun a s g3 hg_ L=>?_;refine zed (L':=[]) 1 L J (O 11 J) zeb J J J .nil fun s L=>?_;refine en' (H2 _ _ ?_);refine wp_seq_k fun K4 H4=>rg (sw 12 (zbn (x:=(1,0,0,0,0,(0#256),([]:Str))) (ps:=[(0,.const (.int .i64 1))]) zfj J stt69 (.cons (i:=0) oI J (zq (zl _ _ _)) .nil) J J) L fun a s L=>?_);refine sw 13 (zdu (xs:=[.tmp 12]) (.cons (O 12 J) .nil) Tryd.underlying39 ty69 J J (by decide) J J) L fun a s L=>?_;refine sw 14 (zbn (x:=[(1,0,0,0,0,(0#256),([]:Str))]) (ps:=[(0,.tmp 13)]) zga J stt41 (.cons (i:=0) (O 13 J) J (zfo (zl _ _ _)) .nil) J J) L fun a s L=>?_;have lt_d6:=L.blt 1 rfl;refine zbj En.SDesc (z:=[]) 2 L zga J J J J fun a s g5 hg_ L=>?_;have d6:=Dis.newg hg_ lt_d6;refine zed (L':=[(1,(Pd.box En.SDesc s0.w.heap.size g3 [(2,0,0,0,0,(0#256),([]:Str))]))]) 2 L J (O 14 J) zeb J J J (.cons (t:=1) J (Dis.bx (Dis.symm d6)) .nil) fun s L=>?_
 refine en' (H4 _ _ ?_);refine wp_seq_k fun K7 H7=>?_;obtain ⟨r8,h9,h⟩:=h;refine rg (sw 15 (zb0 zeb (O 1 J) J J) L fun a s L=>?_);refine sw 16 (zx (zg5 h9) (xs:=[.const (.int .i64 6),.const (.int .i64 0),.const (.int .i64 0),.tmp 15]) (.cons oI (.cons oI (.cons oI (.cons (O 15 J) .nil)))) J J) L fun a s L=>?_;have lt_d12:=L.blt 2 rfl;have lt_d11:=L.blt 1 rfl;refine zbj En.SDesc (z:=[]) 3 L zga J J J J fun a s g10 hg_ L=>?_;have d11:=Dis.newg hg_ lt_d11;have d12:=Dis.newg hg_ lt_d12;refine zed (L':=[(1,(Pd.box En.SDesc s0.w.heap.size g3 [(2,0,0,0,0,(0#256),([]:Str))])),(2,(Pd.box En.SDesc s0.w.heap.size g5 [(1,0,0,0,0,(0#256),([]:Str))]))]) 3 L J (O 16 J) zeb J J J (.cons (t:=1) J (Dis.bx (Dis.symm d11)) (.cons (t:=2) J (Dis.bx (Dis.symm d12)) .nil)) fun s L=>?_;refine en' (H7 _ _ ?_);refine wp_seq_k fun K13 H13=>?_;obtain ⟨r14,h15,h⟩:=h;refine rg (sw 17 (zb0 zeb (O 2 J) J J) L fun a s L=>?_);refine sw 18 (zb0 zeb (O 2 J) J J) L fun a s L=>?_;refine sw 19 (zx (zg6 h15) (xs:=[.const (.int .i64 5),.tmp 17,.tmp 18]) (.cons oI (.cons (O 17 J) (.cons (O 18 J) .nil))) J J) L fun a s L=>?_;have lt_d19:=L.blt 3 rfl;have lt_d18:=L.blt 2 rfl;have lt_d17:=L.blt 1 rfl;refine zbj En.SDesc (z:=[]) 4 L zga J J J J fun a s g16 hg_ L=>?_;have d17:=Dis.newg hg_ lt_d17;have d18:=Dis.newg hg_ lt_d18;have d19:=Dis.newg hg_ lt_d19;refine zed (L':=[(1,(Pd.box En.SDesc s0.w.heap.size g3 [(2,0,0,0,0,(0#256),([]:Str))])),(3,(Pd.box En.SDesc s0.w.heap.size g10 r8))]) 4 L J (O 19 J) zeb J J J (.cons (t:=1) J (Dis.bx (Dis.symm d17)) (.cons (t:=3) J (Dis.bx (Dis.symm d19)) .nil)) fun s L=>?_
 refine en' (H13 _ _ ?_);refine wp_seq_k fun K20 H20=>?_;obtain ⟨r21,h22,r23,h24,h⟩:=h;refine rda zcm 4 [(Pd.rep En.SDesc r8),(Pd.rep En.SDesc r8),(Pd.rep (En.slice En.SItem) r21),(Pd.rep (En.slice En.SBranch) r23)] L (by kernel_rfl) J J ?_ ?_
 ·refine zn.cons (zb0 zeb (O 3 J) J J) ?_;refine zn.cons (zb0 zeb (O 3 J) J J) ?_;refine zn.cons (zx ((zb8 h22).frz) (xs:=[.tmp 21]) (.cons (O 21 J) .nil) J J) ?_;refine zn.cons (zx ((zef h24).frz) (xs:=[.tmp 20,.tmp 22]) (.cons (O 20 J) (.cons (O 22 J) .nil)) J J) ?_;exact zn.nil
 intro a s _ L;refine sw 5 (zg (O 23 J) J J) L fun a s L=>?_;refine en' (H20 _ _ ?_);refine wp_seq_k fun K25 H25=>?_;obtain ⟨r26,h27,r28,h29,h⟩:=h;refine rda zcm 4 [(Pd.rep En.SDesc r14),(Pd.rep En.SDesc r14),(Pd.rep (En.slice En.SItem) r26),(Pd.rep (En.slice En.SBranch) r28)] L (by kernel_rfl) J J ?_ ?_
 ·refine zn.cons (zb0 zeb (O 4 J) J J) ?_;refine zn.cons (zb0 zeb (O 4 J) J J) ?_;refine zn.cons (zx ((zb8 h27).frz) (xs:=[.tmp 25]) (.cons (O 25 J) .nil) J J) ?_;refine zn.cons (zx ((zef h29).frz) (xs:=[.tmp 24,.tmp 26]) (.cons (O 24 J) (.cons (O 26 J) .nil)) J J) ?_;exact zn.nil
 intro a s _ L;refine sw 6 (zg (O 27 J) J J) L fun a s L=>?_;refine en' (H25 _ _ ?_);refine wp_seq_k fun K30 H30=>?_;obtain ⟨r31,h32,r33,h34,h⟩:=h;refine rda zcm 4 [(Pd.rep En.SDesc r8),(Pd.rep En.SDesc r8),(Pd.rep (En.slice En.SItem) r31),(Pd.rep (En.slice (En.slice En.SItem)) r33)] L (by kernel_rfl) J J ?_ ?_
 ·refine zn.cons (zb0 zeb (O 3 J) J J) ?_;refine zn.cons (zb0 zeb (O 3 J) J J) ?_;refine zn.cons (zx ((zb8 h32).frz) (xs:=[.tmp 29]) (.cons (O 29 J) .nil) J J) ?_;refine zn.cons (zx ((zdm h34).frz) (xs:=[.tmp 28,.tmp 30]) (.cons (O 28 J) (.cons (O 30 J) .nil)) J J) ?_;exact zn.nil
 intro a s _ L;refine sw 7 (zg (O 31 J) J J) L fun a s L=>?_;refine en' (H30 _ _ ?_);refine wp_seq_k fun K35 H35=>?_;obtain ⟨r36,h37,h⟩:=h;refine rg (sw 32 (zb0 zeb (O 3 J) J J) L fun a s L=>?_);refine sw 33 (zbn (x:=(5,0,1,0)) (ps:=[(0,.const (.int .i64 5)),(2,.const (.int .i64 1))]) zdw J zfv (.cons (i:=0) oI J (zq (zl _ _ _)) (.cons (i:=2) oI J (zj (zj (zq (zl _ _ _)) J) J) .nil)) J J) L fun a s L=>?_;refine sw 34 (zdu (xs:=[.tmp 33]) (.cons (O 33 J) .nil) Tryd.underlying43 zec J J (by decide) J J) L fun a s L=>?_;refine sw 35 (zx ((zdm h37).frz) (xs:=[.tmp 32,.tmp 34]) (.cons (O 32 J) (.cons (O 34 J) .nil)) J J) L fun a s L=>?_;refine sw 8 (zg (O 35 J) J J) L fun a s L=>?_;refine en' (H35 _ _ ?_);refine wp_seq_k fun K38 H38=>wp_seq_k fun K39 H39=>?_;obtain ⟨b40,h41,h⟩:=h;refine rg (sw 36 (ze (O 5 J) J J) L fun a s L=>?_);refine sw 37 (zeh (O 36 J) Tryd.underlying48 J J) L fun a s L=>?_;refine sw 38 (t_nei (O 37 J) oI J J) L fun a s L=>?_;refine sw 39 (ze (O 38 J) J J) L fun a s L=>?_;refine sw 40 (zbu J J J (fun hc_=>ze (O 6 J) J J)) L fun a s L=>?_;refine sw 41 (zbu J J J (fun hc_=>zeh (o_w hc_ 40 J) Tryd.underlying48 J J)) L fun a s L=>?_;refine sw 42 (zbu J J J (fun hc_=>t_nei (o_w hc_ 41 J) oI J J)) L fun a s L=>?_;refine sw 43 (h41 ▸ (t_or (O 39 J) (fun hc2_=>(o_w hc2_ 42 J)) J J)) L fun a s L=>?_;refine sw 44 (ze (O 43 J) J J) L fun a s L=>?_;refine sw 45 (zbu J J J (fun hc_=>ze (O 7 J) J J)) L fun a s L=>?_;refine sw 46 (zbu J J J (fun hc_=>zeh (o_w hc_ 45 J) Tryd.underlying52 J J)) L fun a s L=>?_
 refine sw 47 (zbu J J J (fun hc_=>t_nei (o_w hc_ 46 J) oI J J)) L fun a s L=>?_;refine sw 48 (t_or (O 44 J) (fun hc2_=>(o_w hc2_ 47 J)) J J) L fun a s L=>?_;refine en' (H39 _ _ ?_);refine cnd L J (fun hb_=>?_) (fun hb_=>?_)
 ·replace h:=h.1 hb_;refine wp_seq_k fun K42 H42=>rg (sw 0 (zg o_b J J) L fun a s L=>?_);refine en' (H42 _ _ ?_);subst h;exact wp_ret (zb5 J L J)
 ·replace h:=h.2 hb_;refine wp_skip (H38 _ _ ?_);refine wp_seq_k fun K43 H43=>?_;obtain ⟨e44,h45,e46,h47,e48,h49,b50,h51,e52,h53,e54,h55,e56,h57,e58,h59,b60,h61,e62,h63,e64,h65,r66,h67,r68,h69,b70,h71,r72,h73,r74,h75,r76,h77,r78,h79,h⟩:=h;refine rda zcm 77 [(Pd.rep (En.slice En.SBranch) r23),(Pd.ptr En.SBranch e44),(Pd.ptr (En.slice En.SItem) e44.1),(Pd.rep (En.slice En.SItem) e44.1),(Pi (e44.1.length:Int)),(Pd.rep En.bool ((e44.1.length:Int)==0)),(Pd.rep En.bool ((e44.1.length:Int)==0)),(Pd.when ((((e44.1.length:Int)==0))=true) (Pd.rep (En.slice En.SBranch) r23)),(Pd.when ((((e44.1.length:Int)==0))=true) (Pd.ptr En.SBranch e46)),(Pd.when ((((e44.1.length:Int)==0))=true) (Pd.ptr (En.int .i64) e46.2)),(Pd.when ((((e44.1.length:Int)==0))=true) (Pi e46.2)),(Pd.when ((((e44.1.length:Int)==0))=true) (Pd.rep En.bool (e46.2==1))),(Pd.rep En.bool (((e44.1.length:Int)==0)&&(e46.2==1))),(Pd.rep En.bool (((e44.1.length:Int)==0)&&(e46.2==1))),(Pd.when (((((e44.1.length:Int)==0)&&(e46.2==1)))=true) (Pd.rep (En.slice En.SBranch) r23)),(Pd.when (((((e44.1.length:Int)==0)&&(e46.2==1)))=true) (Pd.ptr En.SBranch e48)),(Pd.when (((((e44.1.length:Int)==0)&&(e46.2==1)))=true) (Pd.ptr (En.slice En.SItem) e48.1)),(Pd.when (((((e44.1.length:Int)==0)&&(e46.2==1)))=true) (Pd.rep (En.slice En.SItem) e48.1)),(Pd.when (((((e44.1.length:Int)==0)&&(e46.2==1)))=true) (Pi (e48.1.length:Int))),(Pd.when (((((e44.1.length:Int)==0)&&(e46.2==1)))=true) (Pd.rep En.bool ((e48.1.length:Int)==2))),(Pd.rep En.bool b50),(Pd.rep En.bool b50),(Pd.when ((b50)=true) (Pd.rep (En.slice En.SBranch) r23)),(Pd.when ((b50)=true) (Pd.ptr En.SBranch e52)),(Pd.when ((b50)=true) (Pd.ptr (En.slice En.SItem) e52.1)),(Pd.when ((b50)=true) (Pd.rep (En.slice En.SItem) e52.1)),(Pd.when ((b50)=true) (Pd.ptr En.SItem e54)),(Pd.when ((b50)=true) (Pd.rep En.SItem e54)),(Pd.when ((b50)=true) (Pd.rep En.SItem (1,0,0,0))),(Pd.when ((b50)=true) (Pd.rep En.bool (e54==(1,0,0,0)))),(Pd.rep En.bool (b50&&(e54==(1,0,0,0)))),(Pd.rep En.bool (b50&&(e54==(1,0,0,0)))),(Pd.when (((b50&&(e54==(1,0,0,0))))=true) (Pd.rep (En.slice En.SBranch) r28)),(Pd.when (((b50&&(e54==(1,0,0,0))))=true) (Pd.ptr En.SBranch e56)),(Pd.when (((b50&&(e54==(1,0,0,0))))=true) (Pd.ptr (En.int .i64) e56.2)),(Pd.when (((b50&&(e54==(1,0,0,0))))=true) (Pi e56.2)),(Pd.when (((b50&&(e54==(1,0,0,0))))=true) (Pd.rep En.bool (e56.2==2))),(Pd.rep En.bool ((b50&&(e54==(1,0,0,0)))&&(e56.2==2))),(Pd.rep En.bool ((b50&&(e54==(1,0,0,0)))&&(e56.2==2))),(Pd.when ((((b50&&(e54==(1,0,0,0)))&&(e56.2==2)))=true) (Pd.rep (En.slice (En.slice En.SItem)) r33)),(Pd.when ((((b50&&(e54==(1,0,0,0)))&&(e56.2==2)))=true) (Pd.ptr (En.slice En.SItem) e58)),(Pd.when ((((b50&&(e54==(1,0,0,0)))&&(e56.2==2)))=true) (Pd.rep (En.slice En.SItem) e58)),(Pd.when ((((b50&&(e54==(1,0,0,0)))&&(e56.2==2)))=true) (Pi (e58.length:Int))),(Pd.when ((((b50&&(e54==(1,0,0,0)))&&(e56.2==2)))=true) (Pd.rep En.bool ((e58.length:Int)==0))),(Pd.rep En.bool b60),(Pd.rep En.bool b60),(Pd.when ((b60)=true) (Pd.rep (En.slice (En.slice En.SItem)) r33)),(Pd.when ((b60)=true) (Pd.ptr (En.slice En.SItem) e62)),(Pd.when ((b60)=true) (Pd.rep (En.slice En.SItem) e62)),(Pd.when ((b60)=true) (Pd.rep (En.slice En.SBranch) r23)),(Pd.when ((b60)=true) (Pd.ptr En.SBranch e64)),(Pd.when ((b60)=true) (Pd.ptr (En.slice En.SItem) e64.1)),(Pd.when ((b60)=true) (Pd.rep (En.slice En.SItem) e64.1)),(Pd.when ((b60)=true) (Pd.rep En.bool r66)),(Pd.rep En.bool (b60&&r66)),(Pd.rep En.bool (b60&&r66)),(Pd.when (((b60&&r66))=true) (Pd.rep (En.slice (En.slice En.SItem)) r36)),(Pd.when (((b60&&r66))=true) (Pi (r36.length:Int))),(Pd.when (((b60&&r66))=true) (Pd.rep En.bool ((r36.length:Int)==0))),(Pd.rep En.bool ((b60&&r66)&&((r36.length:Int)==0))),(Pd.rep En.bool ((b60&&r66)&&((r36.length:Int)==0))),(Pd.when ((((b60&&r66)&&((r36.length:Int)==0)))=true) (Pd.rep En.SDesc r8)),(Pd.when ((((b60&&r66)&&((r36.length:Int)==0)))=true) (Pd.rep En.bool r68)),(Pd.rep En.bool b70),(Pd.rep En.bool b70),(Pd.when ((b70)=true) (Pd.rep En.SDesc r8)),(Pd.when ((b70)=true) (Pd.rep En.SDesc r8)),(Pd.when ((b70)=true) (Pd.rep (En.slice En.SItem) r72)),(Pd.when ((b70)=true) (Pd.rep En.bool r74)),(Pd.when ((b70)=true) (Pd.rep En.bool (!r74))),(Pd.rep En.bool (b70&&(!r74))),(Pd.rep En.bool (b70&&(!r74))),(Pd.when (((b70&&(!r74)))=true) (Pd.rep En.SDesc [(2,0,0,0,0,(0#256),([]:Str))])),(Pd.when (((b70&&(!r74)))=true) (Pd.rep En.SDesc [(2,0,0,0,0,(0#256),([]:Str))])),(Pd.when (((b70&&(!r74)))=true) (Pd.rep (En.slice En.SItem) r76)),(Pd.when (((b70&&(!r74)))=true) (Pd.rep En.bool r78)),(Pd.rep En.bool ((b70&&(!r74))&&r78))] L (by kernel_rfl) J J ?_ ?_
  ·refine zn.cons (ze (O 5 J) J J) ?_;refine zn.cons (zdj (O 49 J) oI h45 Tryd.underlying48 ty51 J J) ?_;refine zn.cons (zgc (off:=0) (O 50 J) Tryd.underlying51 J (zu (zk _ _)) J ty43 J J) ?_;refine zn.cons (zbd ty43 (O 51 J) J J) ?_;refine zn.cons (zeh (O 52 J) Tryd.underlying43 J J) ?_;refine zn.cons (zdv (O 53 J) oI J J) ?_;refine zn.cons (ze (O 54 J) J J) ?_;refine zn.cons (zbu J J J (fun hc_=>ze (O 5 J) J J)) ?_;refine zn.cons (zbu J J J (fun hc_=>zdj (o_w hc_ 56 J) oI (h47 hc_) Tryd.underlying48 ty51 J J)) ?_;refine zn.cons (zbu J J J (fun hc_=>zgc (off:=1) (o_w hc_ 57 J) Tryd.underlying51 J (zi (zk _ _) J) J ty3 J J)) ?_;refine zn.cons (zbu J J J (fun hc_=>zbd ty3 (o_w hc_ 58 J) J J)) ?_;refine zn.cons (zbu J J J (fun hc_=>zdv (o_w hc_ 59 J) oI J J)) ?_;refine zn.cons (ze5 (O 55 J) (fun hc2_=>(o_w hc2_ 60 J)) J J) ?_;refine zn.cons (ze (O 61 J) J J) ?_;refine zn.cons (zbu J J J (fun hc_=>ze (O 5 J) J J)) ?_;refine zn.cons (zbu J J J (fun hc_=>zdj (o_w hc_ 63 J) oI (h49 hc_) Tryd.underlying48 ty51 J J)) ?_;refine zn.cons (zbu J J J (fun hc_=>zgc (off:=0) (o_w hc_ 64 J) Tryd.underlying51 J (zu (zk _ _)) J ty43 J J)) ?_;refine zn.cons (zbu J J J (fun hc_=>zbd ty43 (o_w hc_ 65 J) J J)) ?_;refine zn.cons (zbu J J J (fun hc_=>zeh (o_w hc_ 66 J) Tryd.underlying43 J J)) ?_;refine zn.cons (zbu J J J (fun hc_=>zdv (o_w hc_ 67 J) oI J J)) ?_;refine zn.cons (h51 ▸ (ze5 (O 62 J) (fun hc2_=>(o_w hc2_ 68 J)) J J)) ?_;refine zn.cons (ze (O 69 J) J J) ?_;refine zn.cons (zbu J J J (fun hc_=>ze (O 5 J) J J)) ?_
   refine zn.cons (zbu J J J (fun hc_=>zdj (o_w hc_ 71 J) oI (h53 hc_) Tryd.underlying48 ty51 J J)) ?_;refine zn.cons (zbu J J J (fun hc_=>zgc (off:=0) (o_w hc_ 72 J) Tryd.underlying51 J (zu (zk _ _)) J ty43 J J)) ?_;refine zn.cons (zbu J J J (fun hc_=>zbd ty43 (o_w hc_ 73 J) J J)) ?_;refine zn.cons (zbu J J J (fun hc_=>zdj (o_w hc_ 74 J) oI (h55 hc_) Tryd.underlying43 zec J J)) ?_;refine zn.cons (zbu J J J (fun hc_=>zbd zec (o_w hc_ 75 J) J J)) ?_;refine zn.cons (zbu J J J (fun hc_=>zbn (x:=(1,0,0,0)) (ps:=[(0,.const (.int .i64 1))]) zdw J zfv (.cons (i:=0) oI J (zq (zl _ _ _)) .nil) J J)) ?_;refine zn.cons (zbu J J J (fun hc_=>t_eqv eq47 (o_w hc_ 76 J) (o_w hc_ 77 J) J J)) ?_;refine zn.cons (ze5 (O 70 J) (fun hc2_=>(o_w hc2_ 78 J)) J J) ?_;refine zn.cons (ze (O 79 J) J J) ?_;refine zn.cons (zbu J J J (fun hc_=>ze (O 6 J) J J)) ?_;refine zn.cons (zbu J J J (fun hc_=>zdj (o_w hc_ 81 J) oI (h57 hc_) Tryd.underlying48 ty51 J J)) ?_;refine zn.cons (zbu J J J (fun hc_=>zgc (off:=1) (o_w hc_ 82 J) Tryd.underlying51 J (zi (zk _ _) J) J ty3 J J)) ?_;refine zn.cons (zbu J J J (fun hc_=>zbd ty3 (o_w hc_ 83 J) J J)) ?_;refine zn.cons (zbu J J J (fun hc_=>zdv (o_w hc_ 84 J) oI J J)) ?_;refine zn.cons (ze5 (O 80 J) (fun hc2_=>(o_w hc2_ 85 J)) J J) ?_;refine zn.cons (ze (O 86 J) J J) ?_;refine zn.cons (zbu J J J (fun hc_=>ze (O 7 J) J J)) ?_;refine zn.cons (zbu J J J (fun hc_=>zdj (o_w hc_ 88 J) oI (h59 hc_) Tryd.underlying52 ty43 J J)) ?_;refine zn.cons (zbu J J J (fun hc_=>zbd ty43 (o_w hc_ 89 J) J J)) ?_
   refine zn.cons (zbu J J J (fun hc_=>zeh (o_w hc_ 90 J) Tryd.underlying43 J J)) ?_;refine zn.cons (zbu J J J (fun hc_=>zdv (o_w hc_ 91 J) oI J J)) ?_;refine zn.cons (h61 ▸ (ze5 (O 87 J) (fun hc2_=>(o_w hc2_ 92 J)) J J)) ?_;refine zn.cons (ze (O 93 J) J J) ?_;refine zn.cons (zbu J J J (fun hc_=>ze (O 7 J) J J)) ?_;refine zn.cons (zbu J J J (fun hc_=>zdj (o_w hc_ 95 J) oI (h63 hc_) Tryd.underlying52 ty43 J J)) ?_;refine zn.cons (zbu J J J (fun hc_=>zbd ty43 (o_w hc_ 96 J) J J)) ?_;refine zn.cons (zbu J J J (fun hc_=>ze (O 5 J) J J)) ?_;refine zn.cons (zbu J J J (fun hc_=>zdj (o_w hc_ 98 J) oI (h65 hc_) Tryd.underlying48 ty51 J J)) ?_;refine zn.cons (zbu J J J (fun hc_=>zgc (off:=0) (o_w hc_ 99 J) Tryd.underlying51 J (zu (zk _ _)) J ty43 J J)) ?_;refine zn.cons (zbu J J J (fun hc_=>zbd ty43 (o_w hc_ 100 J) J J)) ?_;refine zn.cons (zbu J J J (fun hc_=>zx (zep (h67 hc_)) (xs:=[.tmp 97,.tmp 101]) (.cons (o_w hc_ 97 J) (.cons (o_w hc_ 101 J) .nil)) J J)) ?_;refine zn.cons (ze5 (O 94 J) (fun hc2_=>(o_w hc2_ 102 J)) J J) ?_;refine zn.cons (ze (O 103 J) J J) ?_;refine zn.cons (zbu J J J (fun hc_=>ze (O 8 J) J J)) ?_;refine zn.cons (zbu J J J (fun hc_=>zeh (o_w hc_ 105 J) Tryd.underlying52 J J)) ?_;refine zn.cons (zbu J J J (fun hc_=>zdv (o_w hc_ 106 J) oI J J)) ?_;refine zn.cons (ze5 (O 104 J) (fun hc2_=>(o_w hc2_ 107 J)) J J) ?_;refine zn.cons (ze (O 108 J) J J) ?_;refine zn.cons (zbu J J J (fun hc_=>zb0 zeb (O 3 J) J J)) ?_;refine zn.cons (zbu J J J (fun hc_=>zx (zct (h69 hc_)) (xs:=[.tmp 110,.const (.slice none 0 0)]) (.cons (o_w hc_ 110 J) (.cons zgl .nil)) J J)) ?_
   refine zn.cons (h71 ▸ (ze5 (O 109 J) (fun hc2_=>(o_w hc2_ 111 J)) J J)) ?_;refine zn.cons (ze (O 112 J) J J) ?_;refine zn.cons (zbu J J J (fun hc_=>zb0 zeb (O 3 J) J J)) ?_;refine zn.cons (zbu J J J (fun hc_=>zb0 zeb (O 3 J) J J)) ?_;refine zn.cons (zbu J J J (fun hc_=>zx ((zb8 (h73 hc_)).frz) (xs:=[.tmp 115]) (.cons (o_w hc_ 115 J) .nil) J J)) ?_;refine zn.cons (zbu J J J (fun hc_=>zx (zct (h75 hc_)) (xs:=[.tmp 114,.tmp 116]) (.cons (o_w hc_ 114 J) (.cons (o_w hc_ 116 J) .nil)) J J)) ?_;refine zn.cons (zbu J J J (fun hc_=>t_not (o_w hc_ 117 J) J J)) ?_;refine zn.cons (ze5 (O 113 J) (fun hc2_=>(o_w hc2_ 118 J)) J J) ?_;refine zn.cons (ze (O 119 J) J J) ?_;refine zn.cons (zbu J J J (fun hc_=>zb0 zeb (O 1 J) J J)) ?_;refine zn.cons (zbu J J J (fun hc_=>zb0 zeb (O 1 J) J J)) ?_;refine zn.cons (zbu J J J (fun hc_=>zx ((zb8 (h77 hc_)).frz) (xs:=[.tmp 122]) (.cons (o_w hc_ 122 J) .nil) J J)) ?_;refine zn.cons (zbu J J J (fun hc_=>zx (zct (h79 hc_)) (xs:=[.tmp 121,.tmp 123]) (.cons (o_w hc_ 121 J) (.cons (o_w hc_ 123 J) .nil)) J J)) ?_;refine zn.cons (ze5 (O 120 J) (fun hc2_=>(o_w hc2_ 124 J)) J J) ?_;exact zn.nil
  intro a s _ L;refine sw 0 (zg (O 125 J) J J) L fun a s L=>?_;refine en' (H43 _ _ ?_);subst h;exact wp_ret (zb5 J L J)
theorem zgy {d_:SDesc} {s_:(List SItem)} {r_:Bool} (h:zd3 d_ s_ r_):Fn Tryd.prog 13 [(Pd.rep En.SDesc d_),(Pd.rep (En.slice En.SItem) s_)] (Rq (Pd.rep En.bool r_)):=by
 unfold zd3 at h;refine zby Tryd.func13 J Tryd.ntmps13 (by rfl) (by simp) fun s0 a L=>?_;refine rA 2 L fun a s L=>?_;obtain ⟨b1,h2,r3,h4,h⟩:=h;refine ra 15 (pp h2 (pp (fun hc_=>(zg0 (h4 hc_))) trivial)) L fun a s L=>?_;subst h;exact wp_ret (zb5 J L J)
theorem zgd {d_:SDesc} {s_:(List SItem)} {r_:Bool} (h:zcz d_ s_ r_):Fn Tryd.prog 15 [(Pd.rep En.SDesc d_),(Pd.rep (En.slice En.SItem) s_)] (Rq (Pd.rep En.bool r_)):=by
 unfold zcz at h;refine zby Tryd.func15 J Tryd.ntmps15 (by rfl) (by simp) fun s0 a L=>?_;refine rA 2 L fun a s L=>?_;refine wp_seq_k fun K1 H1=>?_;obtain ⟨e2,h3,e4,h5,b6,h7,h⟩:=h;refine ra 17 (pp h3 (pp h5 (p1 h7))) L fun a s L=>?_;refine cn L h (fun h=>?_) fun h=>?_
 ·refine rA 1 L fun a s L=>?_;subst h;exact wp_ret (zb5 J L J)
 ·refine wp_skip (H1 _ _ ?_);obtain ⟨e8,h9,e10,h11,h⟩:=h;refine wp_seq (rdx 9 (pp h9 (p1 h11)) L fun a s L=>?_);refine sA 1 L fun a s L=>?_;refine es ?_;obtain ⟨e12,h13,b14,h15,h⟩:=h;refine ra 18 (pp h13 (p1 h15)) L fun a s L=>?_;subst h;exact wp_ret (zb5 J L J)
end Go.Proofs.YtaknifhhnhcchaaDoor.V
